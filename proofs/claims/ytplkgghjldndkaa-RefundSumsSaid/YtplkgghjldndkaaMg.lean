/-
  Parts of the proof, one behind the other: I29, I30, I32, I33, I35, I36, L0, L2, AbG, L3, L4, L5, L1, L6, L7, L8, I38, L11, L12, L13, L14.
-/
import Derived.Test.YtplkgghjldndkaaMf
import Derived.RangeFuncNested
import Derived.Lib.AppendZeros
namespace Go.Proofs.Ytplkgghjldndkaa
open Go Go.Ab Go.RowKit Go.Proofs
noncomputable def CC1 : Cx := cx [(71, cHolds)] []
theorem CC1_ok : CxOK Try.prog CC1 := cx_ok (ps := []) mixed ⟨holds_ok, trivial⟩ trivial
noncomputable def XiC : FuncId -> Option (Func × (Nat -> St -> Option Tr)) := envF [(70, (Try.f70, lam0)), (73, (Try.f73, lam0))]
theorem XiC_ok : ∀ f fn Λ, XiC f = some (fn, Λ) -> Try.prog.funcs[f]? = some fn /\ ∀ c E', fn.body = some c -> LamOK Try.prog E' Λ c 0 := fun f fn Λ h => by
 simp only [XiC, envF] at h
 split at h
 ·rename_i hf
  subst hf
  cases h
  exact ⟨by kernel_rfl, fun c E' _ => lam0_ok c 0⟩
 ·split at h
  ·rename_i hf
   subst hf
   cases h
   exact ⟨by kernel_rfl, fun c E' _ => lam0_ok c 0⟩
  ·cases h
noncomputable def CC2 : Cx := cxK [(72, cOrder)] [] (inlK Try.prog CC1 XiC)
theorem CC2_ok : CxOK Try.prog CC2 := cxK_ok (ps := []) mixed ⟨order_ok, trivial⟩ trivial (inlK_ok CC1_ok XiC_ok)
abbrev msC : List MI := [.x 280001 35 histT, .r 1 280001 0, .x 280003 27 spanT, .r 3 280003 0, .x 280004 52 sliceT, .r 4 280004 0, .y 280005 48 [(some 52, sliceT)], .r 5 280005 0, .g 6 70 [280004, 280005], .x 6 62 verT, .r 10006 6 0]
def MC : LS := ⟨[(26, .d ints), (27, .d i64), (28, .d i64)], msC⟩
def EC : LS := ⟨[], msC⟩
def ptC5 : Pt := ⟨52, 0, MC, EC, ⟨[], []⟩⟩
def lastI (out : List sliceT.den) : Int := IntKind.i64.wrap ((out.length : Int) - 1)
def setTo (s : sliceT.den) (b : Int) : sliceT.den := ((s.1.1, b, ()), s.2)
def endT {α : Type} (s : sliceT.den) (out : List sliceT.den) (day : Int) (K : List sliceT.den -> Fr α) : Fr α :=
 Fr.br (s.1.1 == day) (K out)
  (Fr.need (decide (lastI out ≥ 0) = true -> 0 <= lastI out /\ lastI out < (out.length : Int))
   (Fr.need (decide (lastI out ≥ 0) = true -> (lastI out).toNat < out.length)
    (Fr.br (bif decide (lastI out ≥ 0) then (cHolds.f (out.getD (lastI out).toNat sliceT.dflt, setTo s day, ())).1 else false)
     (Fr.need (0 <= lastI out /\ lastI out < (out.length : Int)) (Fr.need ((lastI out).toNat < out.length) (K (out.set (lastI out).toNat (setTo (out.getD (lastI out).toNat sliceT.dflt) day)))))
     (Fr.need (out.length + [setTo s day].length <= maxLen /\ (out.length + [setTo s day].length) * 88 <= 140737488355328) (K (out ++ [setTo s day]))))))
def doesT {α : Type} (s : sliceT.den) (c : changeT.den) (K : sliceT.den -> Fr α) : Fr α :=
 Fr.br (c.2.2.1 == 1) (K (s.1, s.2.1, c.2.2.2.1, s.2.2.2.1, s.2.2.2.2.1, ()))
  (Fr.br (c.2.2.1 == 2) (Fr.need (([] : List coverT.den).length + c.2.2.2.2.1.length <= maxLen /\ (([] : List coverT.den).length + c.2.2.2.2.1.length) * 40 <= 140737488355328) (K (s.1, s.2.1, s.2.2.1, [] ++ c.2.2.2.2.1, s.2.2.2.2.1, ())))
   (Fr.br (c.2.2.1 == 3) (K (s.1, false, s.2.2.1, s.2.2.2.1, s.2.2.2.2.1, ()))
    (Fr.br (c.2.2.1 == 4) (K (s.1, true, s.2.2.1, s.2.2.2.1, s.2.2.2.2.1, ())) (K s))))
def frC5 (x : MC.X) : Fr ptC5.Out :=
 let l : List Int := x.1.1; let n : Int := x.1.2.1; let i : Int := x.1.2.2.1; let h : histT.den := x.2.1; let sp : spanT.den := x.2.2.1; let s : sliceT.den := x.2.2.2.1; let out : List sliceT.den := x.2.2.2.2.1.1; let v : verT.den := x.2.2.2.2.2.1
 let j : Int := l.getD i.toNat i64.dflt
 Fr.br (decide (i < n))
  (Fr.need (0 <= i /\ i < (l.length : Int))
   (Fr.need (0 <= j /\ j < ((chL h).length : Int))
    (endT s out (chAt h j).2.1 fun out' =>
     Fr.need (0 <= j /\ j < ((chL h).length : Int))
      (doesT (((chAt h j).2.1, s.1.2.1, ()), s.2) (chAt h j) fun s' => Fr.val (Rd.next ((l, n, IntKind.i64.wrap (i + 1), ()), (h, sp, s', (out', ()), v, ())))))))
  (Fr.val (Rd.out ((), (h, sp, s, (out, ()), v, ()))))
theorem semC5 : Does Try.prog (loopF Try.f46 0) MC ptC5 frC5 := Does.of_run CC2_ok (bs := 280000) rfl rfl rfl (fun _ => lam0_ok _ 0) (fun x => by kernel_rfl)
theorem pushR_eq (s : sliceT.den) : (out : List sliceT.den) -> 0 < out.length -> pushR out s = if holdsB (out.getD (out.length - 1) sliceT.dflt) s = true then out.set (out.length - 1) (setTo (out.getD (out.length - 1) sliceT.dflt) s.1.2.1) else out ++ [s]
 | [], h => absurd h (by decide)
 | [x], _ => rfl
 | x :: y :: r, _ => by
  have ih := pushR_eq s (y :: r) (by simp)
  have e1 : (x :: y :: r).length - 1 = ((y :: r).length - 1) + 1 := by simp
  have e2 : (x :: y :: r).getD ((x :: y :: r).length - 1) sliceT.dflt = (y :: r).getD ((y :: r).length - 1) sliceT.dflt := by
   rw [e1]
   rfl
  show x :: pushR (y :: r) s = _
  rw [ih, e2, e1]
  split
  ·rfl
  ·rfl
theorem pushR_length (s : sliceT.den) : (out : List sliceT.den) -> (pushR out s).length <= out.length + 1
 | [] => by simp [pushR]
 | [x] => by unfold pushR; split <;> simp
 | x :: y :: r => by
  have := pushR_length s (y :: r)
  simp only [pushR, List.length_cons] at this ⊢
  omega
theorem endS_length (s : sliceT.den) (out : List sliceT.den) (day : Int) : (endS s out day).length <= out.length + 1 := by
 unfold endS
 split
 ·omega
 ·exact pushR_length _ _
theorem lastI_eq {out : List sliceT.den} (h : out.length <= 1000000) : lastI out = (out.length : Int) - 1 := IntWalk.i64_in _ (by omega)
theorem endT_sat {α : Type} {s : sliceT.den} {out : List sliceT.den} {day : Int} {K : List sliceT.den -> Fr α} {Q : α -> Prop} (hl : out.length <= 1000000) (h : (K (endS s out day)).satP Q) : (endT s out day K).satP Q := by
 unfold endS at h
 have hw := lastI_eq hl
 have hm : out.length + 1 <= maxLen /\ (out.length + 1) * 88 <= 140737488355328 := ⟨by unfold maxLen; omega, by omega⟩
 refine ⟨fun hb => ?_, fun hb => ?_⟩
 ·have hb' : s.1.1 = day := eq_of_beq (α := Int) hb
  rw [if_pos hb'] at h
  exact h
 ·have hb' : ¬ s.1.1 = day := ne_of_beq_false (α := Int) hb
  rw [if_neg hb'] at h
  refine ⟨fun hd => ?_, fun hd => ?_, ?_⟩
  ·have := of_decide_eq_true hd
   omega
  ·have := of_decide_eq_true hd
   omega
  ·by_cases h0 : 0 < out.length
   ·have hge : decide (lastI out ≥ 0) = true := decide_eq_true (by omega)
    have ht : (lastI out).toNat = out.length - 1 := by omega
    have hp := pushR_eq (setTo s day) out h0
    rw [hge, ht]
    refine ⟨fun hh => ?_, fun hh => ?_⟩
    ·have hh' : holdsB (out.getD (out.length - 1) sliceT.dflt) (setTo s day) = true := hh
     rw [if_pos hh'] at hp
     refine ⟨⟨by omega, by omega⟩, by omega, ?_⟩
     have e : pushR out ((s.1.1, day, ()), s.2) = out.set (out.length - 1) (setTo (out.getD (out.length - 1) sliceT.dflt) day) := hp
     rw [e] at h
     exact h
    ·have hh' : ¬ holdsB (out.getD (out.length - 1) sliceT.dflt) (setTo s day) = true := by
      intro hx
      have : holdsB (out.getD (out.length - 1) sliceT.dflt) (setTo s day) = false := hh
      rw [hx] at this
      cases this
     rw [if_neg hh'] at hp
     have e : pushR out ((s.1.1, day, ()), s.2) = out ++ [setTo s day] := hp
     rw [e] at h
     exact ⟨hm, h⟩
   ·have h00 : out = [] := List.length_eq_zero_iff.1 (by omega)
    subst h00
    have hge : decide (lastI [] ≥ 0) = false := decide_eq_false (by rw [hw]; decide)
    rw [hge]
    exact ⟨fun hh => (by cases hh), fun _ => ⟨hm, h⟩⟩
theorem doesT_sat {α : Type} {s : sliceT.den} {c : changeT.den} {K : sliceT.den -> Fr α} {Q : α -> Prop} (hl : c.2.2.2.2.1.length <= 1000000) (h : (K (doesC s c)).satP Q) : (doesT s c K).satP Q := by
 unfold doesC at h
 have hm : ([] : List coverT.den).length + c.2.2.2.2.1.length <= maxLen /\ (([] : List coverT.den).length + c.2.2.2.2.1.length) * 40 <= 140737488355328 := by
  simp only [List.length_nil, Nat.zero_add]
  exact ⟨by unfold maxLen; omega, by omega⟩
 refine ⟨fun k => ?_, fun k => ⟨fun k2 => ?_, fun k2 => ⟨fun k3 => ?_, fun k3 => ⟨fun k4 => ?_, fun k4 => ?_⟩⟩⟩⟩
 ·have k' : c.2.2.1 = 1 := eq_of_beq (α := Int) k
  rw [if_pos k'] at h
  exact h
 ·have k' : ¬ c.2.2.1 = 1 := ne_of_beq_false (α := Int) k
  have k2' : c.2.2.1 = 2 := eq_of_beq (α := Int) k2
  rw [if_neg k', if_pos k2'] at h
  exact ⟨hm, h⟩
 ·have k' : ¬ c.2.2.1 = 1 := ne_of_beq_false (α := Int) k
  have k2' : ¬ c.2.2.1 = 2 := ne_of_beq_false (α := Int) k2
  have k3' : c.2.2.1 = 3 := eq_of_beq (α := Int) k3
  rw [if_neg k', if_neg k2', if_pos k3'] at h
  exact h
 ·have k' : ¬ c.2.2.1 = 1 := ne_of_beq_false (α := Int) k
  have k2' : ¬ c.2.2.1 = 2 := ne_of_beq_false (α := Int) k2
  have k3' : ¬ c.2.2.1 = 3 := ne_of_beq_false (α := Int) k3
  have k4' : c.2.2.1 = 4 := eq_of_beq (α := Int) k4
  rw [if_neg k', if_neg k2', if_neg k3', if_pos k4'] at h
  exact h
 ·have k' : ¬ c.2.2.1 = 1 := ne_of_beq_false (α := Int) k
  have k2' : ¬ c.2.2.1 = 2 := ne_of_beq_false (α := Int) k2
  have k3' : ¬ c.2.2.1 = 3 := ne_of_beq_false (α := Int) k3
  have k4' : ¬ c.2.2.1 = 4 := ne_of_beq_false (α := Int) k4
  rw [if_neg k', if_neg k2', if_neg k3', if_neg k4'] at h
  exact h
structure InvC5 (l : List Int) (n i : Int) (h : histT.den) (out : List sliceT.den) : Prop where
 i0 : 0 <= i
 il : i <= n
 nl : n = l.length
 few : l.length <= 500000
 inl : ∀ x ∈ l, 0 <= x /\ x < ((chL h).length : Int)
 cov : ∀ c ∈ chL h, c.2.2.2.2.1.length <= 1000000
 outs : (out.length : Int) <= i
def FC5 (x : MC.X) : Fr ptC5.Out :=
 let l : List Int := x.1.1; let n : Int := x.1.2.1; let i : Int := x.1.2.2.1; let h : histT.den := x.2.1; let sp : spanT.den := x.2.2.1; let s : sliceT.den := x.2.2.2.1; let out : List sliceT.den := x.2.2.2.2.1.1; let v : verT.den := x.2.2.2.2.2.1
 Fr.need (InvC5 l n i h out) (Fr.val (Rd.out ((), (h, sp, (goCut ((l.drop i.toNat).map (chAt h)) s out).1, ((goCut ((l.drop i.toNat).map (chAt h)) s out).2, ()), v, ()))))
theorem lawC5 (l : List Int) (n i : Int) (h : histT.den) (sp : spanT.den) (s : sliceT.den) (out : List sliceT.den) (v : verT.den) (hinv : InvC5 l n i h out) (Q : ptC5.Out -> Prop)
  (hq : Q (Rd.out ((), (h, sp, (goCut ((l.drop i.toNat).map (chAt h)) s out).1, ((goCut ((l.drop i.toNat).map (chAt h)) s out).2, ()), v, ())))) :
  (frC5 ((l, n, i, ()), (h, sp, s, (out, ()), v, ()))).satP fun
   | .next x' => InvC5 x'.1.1 x'.1.2.1 x'.1.2.2.1 x'.2.1 x'.2.2.2.2.1.1 /\ ((x'.1.2.1 : Int) - x'.1.2.2.1).toNat < (n - i).toNat /\ (FC5 x').satP Q
   | .out y => Q (.out y)
   | .back z => Q (.back z)
   | .pan p => Q (.pan p) := by
 obtain ⟨h0, h1, rfl, h2, h3, h4, h5⟩ := hinv
 obtain ⟨i', rfl⟩ : ∃ n : Nat, i = n := ⟨i.toNat, by omega⟩
 simp only [Int.toNat_natCast] at hq
 dsimp only [frC5, Fr.satP, Ty.den, PT.den]
 simp only [Int.toNat_natCast]
 refine ⟨fun hi => ?_, fun hi => ?_⟩
 ·have hlt : i' < l.length := by have : (i' : Int) < (l.length : Int) := of_decide_eq_true hi; omega
  have w : IntKind.i64.wrap ((i' : Int) + 1) = (i' + 1 : Nat) := succ_nat (by omega)
  rw [w]
  have hm := h3 _ (getD_mem (d := (0 : Int)) hlt)
  rw [drop_at hlt, List.map_cons] at hq
  have hcm : chAt h (l.getD i' 0) ∈ chL h := by
   unfold chAt
   exact getD_mem (by omega)
  have hE := endS_length s out (chAt h (l.getD i' 0)).2.1
  have hI : InvC5 l (l.length : Int) ((i' + 1 : Nat) : Int) h (endS s out (chAt h (l.getD i' 0)).2.1) := ⟨by omega, by omega, rfl, h2, h3, h4, by omega⟩
  have hμ : ((l.length : Int) - ((i' + 1 : Nat) : Int)).toNat < ((l.length : Int) - (i' : Int)).toNat := by omega
  refine ⟨⟨by omega, by omega⟩, hm, endT_sat (by omega) ⟨hm, doesT_sat (h4 _ hcm) ⟨hI, hμ, hI, hq⟩⟩⟩
 ·have hge : ¬ i' < l.length := by have : ¬ (i' : Int) < (l.length : Int) := of_decide_eq_false hi; omega
  rw [List.drop_eq_nil_of_le (by omega)] at hq
  exact hq
theorem loopC5 : Does Try.prog (.loop (loopF Try.f46 0)) MC ptC5 FC5 := by
 refine Does.loop (n := 52) (id := 0) semC5 (inv := fun x => InvC5 x.1.1 x.1.2.1 x.1.2.2.1 x.2.1 x.2.2.2.2.1.1) (μ := fun x => ((x.1.2.1 : Int) - x.1.2.2.1).toNat) ?_ (fun x Q h => h.1)
 rintro ⟨⟨l, n, i, _⟩, h, sp, s, ⟨out, _⟩, v, _⟩ hinv Q hq
 exact lawC5 l n i h sp s out v hinv Q hq.2
noncomputable def XiOf : FuncId -> Option (Func × (Nat -> St -> Option Tr)) := envF [(46, (Try.f46, fun _ => ptC5.han CC2.Γ MC FC5))]
theorem XiOf_ok : ∀ f fn Λ, XiOf f = some (fn, Λ) -> Try.prog.funcs[f]? = some fn /\ ∀ c E', fn.body = some c -> LamOK Try.prog E' Λ c 0 := fun f fn Λ h => by
 simp only [XiOf, envF] at h
 split at h
 ·rename_i hf
  subst hf
  cases h
  exact ⟨by kernel_rfl, fun c E' hc => lam1f hc (by kernel_rfl) (b := loopF Try.f46 0) (by kernel_rfl) (Does.han CC2_ok rfl loopC5)⟩
 ·cases h
noncomputable def COf : Cx := cxK [(45, cHist), (20, cTarAt), (21, cYear)] [] (inlK Try.prog CC2 XiOf)
theorem COf_ok : CxOK Try.prog COf := cxK_ok (ps := []) mixed ⟨sRight_ok, tarAt_ok, year_ok, trivial⟩ trivial (inlK_ok CC2_ok XiOf_ok)
def MO : LS := ⟨[(29, .d i64), (30, .d i64)], [.o 8 52 sliceT, .al 28 8, .x 6 62 verT, .r 6 6 0]⟩
def EO : LS := ⟨[], [.o 8 52 sliceT]⟩
def ptO : Pt := ⟨56, 0, MO, EO, ⟨[(4, .d slsT), (5, .d i64)], []⟩⟩
def yrS (v : verT.den) (s : sliceT.den) : Int × Int := yearF v s.2.2.1 s.2.2.2.1
def setY (s : sliceT.den) (y : Int) : sliceT.den := (s.1, s.2.1, s.2.2.1, s.2.2.2.1, y, ())
def fO (x : MO.X) : Fr ptO.Out :=
 let n : Int := x.1.1; let i : Int := x.1.2.1; let l : List sliceT.den := x.2.1; let v : verT.den := x.2.2.1
 let s : sliceT.den := l.getD i.toNat sliceT.dflt
 Fr.br (decide (i < n))
  (Fr.need (0 <= i /\ i < (l.length : Int)) (Fr.need (i.toNat < l.length)
   (Fr.br (!s.2.1) (Fr.val (Rd.next ((n, IntKind.i64.wrap (i + 1), ()), (l, v, ()))))
    (Fr.need (0 <= i /\ i < (l.length : Int)) (Fr.need (i.toNat < l.length)
     (Fr.br ((cYear.f (v, s.2.2.1, s.2.2.2.1, ())).2.1 != 0) (Fr.val (Rd.back (([], (cYear.f (v, s.2.2.1, s.2.2.2.1, ())).2.1, ()), ())))
      (Fr.val (Rd.next ((n, IntKind.i64.wrap (i + 1), ()), (l.set i.toNat (setY s (cYear.f (v, s.2.2.1, s.2.2.2.1, ())).1), v, ()))))))))))
  (Fr.val (Rd.out ((), (l, ()))))
theorem semO : Does Try.prog (loopF Try.f19 0) MO ptO fO := Does.of_run COf_ok (bs := 0) rfl rfl rfl (fun _ => lam0_ok _ 0) (fun x => by kernel_rfl)
def priceV (v : verT.den) (s : sliceT.den) : sliceT.den := if s.2.1 = true then setY s (yrS v s).1 else s
def errP (v : verT.den) : List sliceT.den -> Int
 | [] => 0
 | s :: l => if s.2.1 = true then (if (yrS v s).2 = 0 then errP v l else (yrS v s).2) else errP v l
structure InvO (n i : Int) (l : List sliceT.den) : Prop where
 i0 : 0 <= i
 il : i <= n
 nl : n = l.length
 few : l.length <= 1000000
def outO (l : List sliceT.den) (e : Int) : Fr ptO.Out := Fr.br (e != 0) (Fr.val (Rd.back (([], e, ()), ()))) (Fr.val (Rd.out ((), (l, ()))))
def FO (x : MO.X) : Fr ptO.Out :=
 let n : Int := x.1.1; let i : Int := x.1.2.1; let l : List sliceT.den := x.2.1; let v : verT.den := x.2.2.1
 Fr.need (InvO n i l) (outO (l.take i.toNat ++ (l.drop i.toNat).map (priceV v)) (errP v (l.drop i.toNat)))
theorem lawO (n i : Int) (l : List sliceT.den) (v : verT.den) (hinv : InvO n i l) (Q : ptO.Out -> Prop) (hq : (outO (l.take i.toNat ++ (l.drop i.toNat).map (priceV v)) (errP v (l.drop i.toNat))).satP Q) :
  (fO ((n, i, ()), (l, v, ()))).satP fun
   | .next x' => InvO x'.1.1 x'.1.2.1 x'.2.1 /\ ((x'.1.1 : Int) - x'.1.2.1).toNat < (n - i).toNat /\ (FO x').satP Q
   | .out y => Q (.out y)
   | .back z => Q (.back z)
   | .pan p => Q (.pan p) := by
 obtain ⟨h0, h1, rfl, h2⟩ := hinv
 obtain ⟨i', rfl⟩ : ∃ n : Nat, i = n := ⟨i.toNat, by omega⟩
 simp only [Int.toNat_natCast] at hq
 dsimp only [fO, Fr.satP, Ty.den, PT.den]
 simp only [Int.toNat_natCast]
 refine ⟨fun hi => ?_, fun hi => ?_⟩
 ·have hlt : i' < l.length := by have : (i' : Int) < (l.length : Int) := of_decide_eq_true hi; omega
  have w : IntKind.i64.wrap ((i' : Int) + 1) = (i' + 1 : Nat) := succ_nat (by omega)
  rw [w]
  have hg : l.getD i' sliceT.dflt = l[i'] := by rw [List.getD_eq_getElem?_getD, List.getElem?_eq_getElem hlt]; rfl
  have hd : l.drop i' = l.getD i' sliceT.dflt :: l.drop (i' + 1) := by rw [hg]; exact List.drop_eq_getElem_cons hlt
  have hμ : ((l.length : Int) - ((i' + 1 : Nat) : Int)).toNat < ((l.length : Int) - (i' : Int)).toNat := by omega
  have hb : 0 <= (i' : Int) /\ (i' : Int) < (l.length : Int) := ⟨by omega, by omega⟩
  rw [hd] at hq
  generalize hs : l.getD i' sliceT.dflt = s at *
  have htk : l.take (i' + 1) = l.take i' ++ [s] := by
   rw [hg]
   exact (List.take_append_getElem hlt).symm
  refine ⟨hb, hlt, fun hoff => ?_, fun hon => ⟨hb, hlt, fun he => ?_, fun he => ?_⟩⟩
  ·have hoff' : ¬ s.2.1 = true := by
    intro hx
    rw [hx] at hoff
    cases hoff
   have hI : InvO (l.length : Int) ((i' + 1 : Nat) : Int) l := ⟨by omega, by omega, rfl, h2⟩
   refine ⟨hI, hμ, hI, ?_⟩
   have e1 : errP v (s :: l.drop (i' + 1)) = errP v (l.drop (i' + 1)) := if_neg hoff'
   have e2 : priceV v s = s := if_neg hoff'
   rw [e1, List.map_cons, e2] at hq
   show (outO (l.take (i' + 1) ++ (l.drop (i' + 1)).map (priceV v)) (errP v (l.drop (i' + 1)))).satP Q
   rw [htk, List.append_assoc]
   exact hq
  ·have hon' : s.2.1 = true := by
    cases hx : s.2.1 with
    | true => rfl
    | false => rw [hx] at hon; cases hon
   have he' : ¬ (yrS v s).2 = 0 := bne_iff_ne.1 he
   have e1 : errP v (s :: l.drop (i' + 1)) = (yrS v s).2 := by
    unfold errP
    rw [if_pos hon', if_neg he']
   rw [e1] at hq
   exact hq.1 he
  ·have hon' : s.2.1 = true := by
    cases hx : s.2.1 with
    | true => rfl
    | false => rw [hx] at hon; cases hon
   have he' : (yrS v s).2 = 0 := by
    have : ((yrS v s).2 != 0) = false := he
    simpa using this
   have hlen : (l.set i' (setY s (yrS v s).1)).length = l.length := List.length_set
   have hI : InvO (l.length : Int) ((i' + 1 : Nat) : Int) (l.set i' (setY s (yrS v s).1)) := ⟨by omega, by omega, by rw [hlen], by rw [hlen]; exact h2⟩
   refine ⟨hI, hμ, hI, ?_⟩
   have e1 : errP v (s :: l.drop (i' + 1)) = errP v (l.drop (i' + 1)) := by
    conv => lhs; unfold errP
    rw [if_pos hon', if_pos he']
   have e2 : priceV v s = setY s (yrS v s).1 := if_pos hon'
   rw [e1, List.map_cons, e2] at hq
   show (outO ((l.set i' (setY s (yrS v s).1)).take (i' + 1) ++ ((l.set i' (setY s (yrS v s).1)).drop (i' + 1)).map (priceV v)) (errP v ((l.set i' (setY s (yrS v s).1)).drop (i' + 1)))).satP Q
   have e3 : (l.set i' (setY s (yrS v s).1)).drop (i' + 1) = l.drop (i' + 1) := List.drop_set_of_lt (by omega)
   have e4 : (l.set i' (setY s (yrS v s).1)).take (i' + 1) = l.take i' ++ [setY s (yrS v s).1] := by
    rw [List.take_add_one, List.take_set_of_le (by omega)]
    simp [hlt]
   rw [e3, e4, List.append_assoc]
   exact hq
 ·have hge : ¬ i' < l.length := by have : ¬ (i' : Int) < (l.length : Int) := of_decide_eq_false hi; omega
  rw [List.drop_eq_nil_of_le (by omega), List.take_of_length_le (by omega)] at hq
  have hq' := hq.2 rfl
  simp only [List.map_nil, List.append_nil] at hq'
  exact hq'
theorem loopO : Does Try.prog (.loop (loopF Try.f19 0)) MO ptO FO := by
 refine Does.loop (n := 56) (id := 0) semO (inv := fun x => InvO x.1.1 x.1.2.1 x.2.1) (μ := fun x => ((x.1.1 : Int) - x.1.2.1).toNat) ?_ (fun x Q h => h.1)
 rintro ⟨⟨n, i, _⟩, l, v, _⟩ hinv Q hq
 exact lawO n i l v hinv Q hq.2
def frOf1 (v : verT.den) (l : List sliceT.den) : Fr (denL [slsT, i64]) :=
 Fr.need (InvO l.length 0 l) (Fr.br (errP v (l.drop (0 : Int).toNat) != 0) (Fr.val ([], errP v (l.drop (0 : Int).toNat), ())) (Fr.val (l.take (0 : Int).toNat ++ (l.drop (0 : Int).toNat).map (priceV v), 0, ())))
def goH (h : histT.den) : sliceT.den × List sliceT.den := goCut (((orderL h).drop (0 : Int).toNat).map (chAt h)) ((h.2.2.1.1.1, 0, ()), true, h.2.2.1.2.1, [] ++ h.2.2.1.2.2.1, 0, ()) []
def frOfF (x : denP [.d histT, .d tarT]) : Fr (denL [slsT, i64]) :=
 Fr.br (!(cHist.f (x.1, ())).1) (Fr.val ([], 1, ()))
  (Fr.need (fewT x.2.1)
   (Fr.br ((cTarAt.f (x.2.1, x.1.2.2.1.1.1, ())).2.1 != 0) (Fr.val ([], (cTarAt.f (x.2.1, x.1.2.2.1.1.1, ())).2.1, ()))
    (Fr.need (([] : List coverT.den).length + x.1.2.2.1.2.2.1.length <= maxLen /\ (([] : List coverT.den).length + x.1.2.2.1.2.2.1.length) * 40 <= 140737488355328)
     (Fr.need (((chL x.1).length : Int) <= 1000000)
      (Fr.need (InvC5 (orderL x.1) ((orderL x.1).length : Int) 0 x.1 [])
       (endT (goH x.1).1 (goH x.1).2 x.1.2.2.1.1.2.1 (frOf1 (cTarAt.f (x.2.1, x.1.2.2.1.1.1, ())).1)))))))
theorem of_run : SoundCt Try.prog 19 ⟨[.d histT, .d tarT], [slsT, i64], fun xs => (frOfF xs).get, fun xs => [(frOfF xs).ok]⟩ :=
 fn_sound COf_ok (Λ := fun _ => ptO.han COf.Γ MO FO) (fn := Try.f19) (fr := frOfF) (ps := [.d histT, .d tarT]) (rs := [slsT, i64]) (histT.dflt, tarT.dflt, ()) (by kernel_rfl)
  (fun c E hc => lam1f hc (by kernel_rfl) (b := loopF Try.f19 0) (by kernel_rfl) (Does.han COf_ok rfl loopO)) (fun x => by kernel_rfl)
def fewH (h : histT.den) : Prop := (chL h).length <= 500000 /\ h.2.2.1.2.2.1.length <= 1000000 /\ ∀ c ∈ chL h, c.2.2.2.2.1.length <= 1000000
def ofF (h : histT.den) (t : tarT.den) : List sliceT.den × Int :=
 if histB h = true then
  (if (verAt h.2.2.1.1.1 t.1.reverse).2 = 0 then
   (if errP (verAt h.2.2.1.1.1 t.1.reverse).1 (cutL h) = 0 then ((cutL h).map (priceV (verAt h.2.2.1.1.1 t.1.reverse).1), 0) else ([], errP (verAt h.2.2.1.1.1 t.1.reverse).1 (cutL h)))
  else ([], (verAt h.2.2.1.1.1 t.1.reverse).2))
 else ([], 1)
def cOf : Ct := ⟨[.d histT, .d tarT], [slsT, i64], fun x => ((ofF x.1 x.2.1).1, (ofF x.1 x.2.1).2, ()), fun x => [fewH x.1, fewT x.2.1]⟩
theorem orderL_length (h : histT.den) : (orderL h).length = (chL h).length := by
 unfold orderL
 rw [sortB_length, rangeI_length]
theorem orderL_mem {h : histT.den} {x : Int} (hx : x ∈ orderL h) : 0 <= x /\ x < ((chL h).length : Int) := rangeI_mem (sortB_mem.1 hx)
theorem goCut_length : (l : List changeT.den) -> (s : sliceT.den) -> (out : List sliceT.den) -> (goCut l s out).2.length <= out.length + l.length
 | [], _, _ => Nat.le_refl _
 | c :: l, s, out => by
  have h1 := goCut_length l (doesC ((c.2.1, s.1.2.1, ()), s.2) c) (endS s out c.2.1)
  have h2 := endS_length s out c.2.1
  simp only [goCut, List.length_cons]
  omega
theorem of_ok : SoundCt Try.prog 19 cOf :=
 convF of_run _ _ (fun w F x vs hr hok => by
  obtain ⟨h, t, _⟩ := x
  obtain ⟨⟨f1, f2, f3⟩, f4⟩ : fewH h /\ fewT t := hok
  show (frOfF (h, t, ())).ok /\ (frOfF (h, t, ())).get = ((ofF h t).1, (ofF h t).2, ())
  unfold ofF
  cases hh : histB h with
  | false =>
   refine Fr.br_t ?_ ⟨trivial, rfl⟩
   show (!(histB h)) = true
   rw [hh]
   rfl
  | true =>
   rw [if_pos rfl]
   refine Fr.br_f ?_ (Fr.need_ f4 ?_)
   ·show (!(histB h)) = false
    rw [hh]
    rfl
   ·by_cases hv : (verAt h.2.2.1.1.1 t.1.reverse).2 = 0
    ·rw [if_pos hv]
     refine Fr.br_f ?_ (Fr.need_ ?_ (Fr.need_ ?_ (Fr.need_ ?_ ?_)))
     ·show ((verAt h.2.2.1.1.1 t.1.reverse).2 != 0) = false
      rw [hv]
      rfl
     ·show ([] : List coverT.den).length + h.2.2.1.2.2.1.length <= maxLen /\ (([] : List coverT.den).length + h.2.2.1.2.2.1.length) * 40 <= 140737488355328
      simp only [List.length_nil, Nat.zero_add]
      exact ⟨by unfold maxLen; omega, by omega⟩
     ·show ((chL h).length : Int) <= 1000000
      omega
     ·show InvC5 (orderL h) ((orderL h).length : Int) 0 h []
      exact ⟨Int.le_refl _, Int.natCast_nonneg _, rfl, by rw [orderL_length]; exact f1, fun x hx => orderL_mem hx, f3, Int.le_refl _⟩
     ·have hgo : (goH h).2.length <= 500000 := by
       have := goCut_length (((orderL h).drop (0 : Int).toNat).map (chAt h)) ((h.2.2.1.1.1, 0, ()), true, h.2.2.1.2.1, [] ++ h.2.2.1.2.2.1, 0, ()) []
       have e : (((orderL h).drop (0 : Int).toNat).map (chAt h)).length = (chL h).length := by
        rw [List.length_map]
        exact orderL_length h
       rw [e] at this
       have h2 : (goH h).2.length <= 0 + (chL h).length := this
       omega
      have hcut : endS (goH h).1 (goH h).2 h.2.2.1.1.2.1 = cutL h := rfl
      have hclen : (cutL h).length <= 1000000 := by
       rw [← hcut]
       have := endS_length (goH h).1 (goH h).2 h.2.2.1.1.2.1
       omega
      have hkey : (frOf1 (verAt h.2.2.1.1.1 t.1.reverse).1 (cutL h)).ok /\ (frOf1 (verAt h.2.2.1.1.1 t.1.reverse).1 (cutL h)).get = ((if errP (verAt h.2.2.1.1.1 t.1.reverse).1 (cutL h) = 0 then ((cutL h).map (priceV (verAt h.2.2.1.1.1 t.1.reverse).1), (0 : Int)) else ([], errP (verAt h.2.2.1.1.1 t.1.reverse).1 (cutL h))).1, (if errP (verAt h.2.2.1.1.1 t.1.reverse).1 (cutL h) = 0 then ((cutL h).map (priceV (verAt h.2.2.1.1.1 t.1.reverse).1), (0 : Int)) else ([], errP (verAt h.2.2.1.1.1 t.1.reverse).1 (cutL h))).2, ()) := by
       refine Fr.need_ ⟨Int.le_refl _, Int.natCast_nonneg _, rfl, hclen⟩ ?_
       by_cases he : errP (verAt h.2.2.1.1.1 t.1.reverse).1 (cutL h) = 0
       ·rw [if_pos he]
        refine Fr.br_f ?_ ⟨trivial, rfl⟩
        show (errP (verAt h.2.2.1.1.1 t.1.reverse).1 (cutL h) != 0) = false
        rw [he]
        rfl
       ·rw [if_neg he]
        exact Fr.br_t (bne_iff_ne.2 he) ⟨trivial, rfl⟩
      have hs := endT_sat (s := (goH h).1) (out := (goH h).2) (day := h.2.2.1.1.2.1) (K := frOf1 (verAt h.2.2.1.1.1 t.1.reverse).1) (Q := fun y => y = ((if errP (verAt h.2.2.1.1.1 t.1.reverse).1 (cutL h) = 0 then ((cutL h).map (priceV (verAt h.2.2.1.1.1 t.1.reverse).1), (0 : Int)) else ([], errP (verAt h.2.2.1.1.1 t.1.reverse).1 (cutL h))).1, (if errP (verAt h.2.2.1.1.1 t.1.reverse).1 (cutL h) = 0 then ((cutL h).map (priceV (verAt h.2.2.1.1.1 t.1.reverse).1), (0 : Int)) else ([], errP (verAt h.2.2.1.1.1 t.1.reverse).1 (cutL h))).2, ())) (by omega) (by
       rw [hcut]
       exact Fr.satP_of hkey.1 hkey.2)
      exact Fr.satP_get hs
    ·rw [if_neg hv]
     refine Fr.br_t ?_ ⟨trivial, rfl⟩
     show ((verAt h.2.2.1.1.1 t.1.reverse).2 != 0) = true
     exact bne_iff_ne.2 hv)
theorem orderL_sorted (h : histT.den) : (orderL h).Pairwise fun x y => dayOf h x <= dayOf h y :=
 (sortB_sort (key := dayOf h) (lt := ltDay h) (fun _ _ _ _ => rfl)).1
theorem chsO_sorted (h : histT.den) : (chsO h).Pairwise fun x y => x.2.1 <= y.2.1 := by
 unfold chsO
 rw [List.pairwise_map]
 exact orderL_sorted h
theorem chAt_mem {h : histT.den} {i : Int} (hi : 0 <= i /\ i < ((chL h).length : Int)) : chAt h i ∈ chL h := by
 unfold chAt
 exact getD_mem (by omega)
theorem chsO_mem {h : histT.den} {c : changeT.den} (hc : c ∈ chsO h) : c ∈ chL h := by
 obtain ⟨i, hi, rfl⟩ := List.mem_map.1 hc
 exact chAt_mem (orderL_mem hi)
structure HistOk (h : histT.den) : Prop where
 terms : termsB h.2.2.1 = true
 a1 : 1 <= h.2.2.1.1.1
 ab : h.2.2.1.1.1 < h.2.2.1.1.2.1
 b1 : h.2.2.1.1.2.1 <= 292195
 wide : h.2.2.1.1.2.1 - h.2.2.1.1.1 <= 1100
 chs : ∀ c ∈ chL h, changeB c = true /\ h.2.2.1.1.1 <= c.2.1 /\ c.2.1 < h.2.2.1.1.2.1
theorem histB_iff {h : histT.den} : histB h = true ↔ termsB h.2.2.1 = true /\ h.2.2.2.1.length <= 2000 /\ ∀ c ∈ chL h, changeB c = true /\ inB h.2.2.1.1.1 h.2.2.1.1.2.1 c.2.1 = true := by
 unfold histB
 simp only [Bool.and_eq_true, decide_eq_true_eq, List.all_eq_true, and_assoc]
theorem terms_span {t : termsT.den} (h : termsB t = true) : 1 <= t.1.1 /\ t.1.1 < t.1.2.1 /\ t.1.2.1 <= 292195 /\ t.1.2.1 - t.1.1 <= 1100 := by
 obtain ⟨⟨a, b, _⟩, r, cs, _⟩ := t
 unfold termsB at h
 rw [Bool.and_eq_true, Bool.and_eq_true] at h
 obtain ⟨h1, h2, _⟩ := h
 obtain ⟨p1, p2, p3⟩ := fullS_iff.1 h1
 exact ⟨p1, p2, p3, of_decide_eq_true h2⟩
theorem histOk {h : histT.den} (hh : histB h = true) : HistOk h := by
 obtain ⟨h1, _, h3⟩ := histB_iff.1 hh
 obtain ⟨p1, p2, p3, p4⟩ := terms_span h1
 refine ⟨h1, p1, p2, p3, p4, fun c hc => ?_⟩
 obtain ⟨q1, q2⟩ := h3 c hc
 have q3 := of_decide_eq_true q2
 exact ⟨q1, q3.2.2.1, q3.2.2.2⟩
theorem cutL_runs {h : histT.den} (hh : histB h = true) : Runs (stOf h) h.2.2.1.1.2.1 h.2.2.1.1.1 (cutL h) := by
 have ho := histOk hh
 exact goCut_runs (k0 := (true, h.2.2.1.2.1, h.2.2.1.2.2.1)) (a := h.2.2.1.1.1) (b := h.2.2.1.1.2.1) (fun c hc => Int.le_of_lt (ho.chs c (chsO_mem hc)).2.2) (chsO h) [] rfl (chsO_sorted h) (nowS h) [] (fun c hc => (by cases hc)) (fun c hc => (ho.chs c (chsO_mem hc)).2.1)
  (Int.le_of_lt ho.ab) rfl rfl rfl
def dayC (c : changeT.den) : Int := c.2.1
theorem rangeI_chAt (h : histT.den) : (rangeI (chL h).length).map (chAt h) = chL h := by
 unfold rangeI chAt
 rw [List.map_map]
 apply List.ext_getElem
 ·simp
 ·intro i h1 h2
  simp only [List.getElem_map, List.getElem_range, Function.comp_apply, Int.toNat_natCast]
  rw [List.getD_eq_getElem?_getD, List.getElem?_eq_getElem h2]
  rfl
theorem chsO_same (h : histT.den) : SameK dayC (chL h) (chsO h) := fun k => by
 have hs := (sortB_sort (key := dayOf h) (lt := ltDay h) (l := rangeI (chL h).length) (fun _ _ _ _ => rfl)).2 k
 have h1 : (chsO h).filter (fun x => dayC x == k) = ((orderL h).filter (fun x => dayOf h x == k)).map (chAt h) := by
  unfold chsO
  rw [List.filter_map]
  rfl
 have h2 : (chL h).filter (fun x => dayC x == k) = ((rangeI (chL h).length).filter (fun x => dayOf h x == k)).map (chAt h) := by
  conv => lhs; rw [← rangeI_chAt h]
  rw [List.filter_map]
  rfl
 rw [h1, h2]
 exact congrArg _ hs
theorem chsO_sortK (h : histT.den) : SortK dayC (chsO h) := chsO_sorted h
theorem SortK.filter {α : Type} {key : α -> Int} {l : List α} (h : SortK key l) (p : α -> Bool) : SortK key (l.filter p) := List.Pairwise.sublist List.filter_sublist h
theorem Good.all {p : List Int × List Int} {m : Int} (h : Good p m) : ∀ x ∈ p.1, x <= m := by
 intro x hx
 have hp := (rises_spec h.up h.len).1
 have hle := h.le
 have hne : p.1 ≠ [] := List.ne_nil_of_mem hx
 rw [List.getLast?_eq_some_getLast hne] at hle
 have hle' : p.1.getLast hne <= m := hle
 have hs : p.1 = p.1.dropLast ++ [p.1.getLast hne] := (List.dropLast_concat_getLast hne).symm
 rw [hs] at hx hp
 rcases List.mem_append.1 hx with hx | hx
 ·have := (List.pairwise_append.1 hp).2.2 x hx _ (List.mem_singleton.2 rfl)
  exact Int.le_of_lt (Int.lt_of_lt_of_le this hle')
 ·rw [List.mem_singleton.1 hx]
  exact hle'
theorem upto_told {l : List sliceT.den} (h : (UptoF l 292195).2 = 0) : (curveO l).isNone = false /\ Pos (curveF l) /\ Sd (curveF l) 292195 <= 4000000000000000000 /\ ∀ d, UptoF l d = ((Sd (curveF l) d + 182) / 365, 0) := by
 have hc : (curveO l).isNone = false := by
  cases hn : (curveO l).isNone with
  | false => rfl
  | true =>
   unfold UptoF at h
   rw [if_pos hn] at h
   cases h
 have hp := curve_pos hc
 have hU : ∀ d, UptoF l d = uptoO (curveF l) d := fun d => if_neg (by rw [hc]; decide)
 have htop : Sd (curveF l) 292195 <= 4000000000000000000 := by
  apply Classical.byContradiction
  intro hn
  rw [hU, uptoO_days hp, if_neg hn] at h
  cases h
 refine ⟨hc, hp, htop, fun d => ?_⟩
 rw [hU, uptoO_days hp, if_pos (Int.le_trans (Sd_top hp d) htop)]
def earn (l : List sliceT.den) (d : Int) : Int := (Sd (curveF l) d + 182) / 365
theorem fewB_fewH {h : histT.den} {t : tarT.den} (hf : fewB h t = true) : fewH h /\ fewT t := by
 unfold fewB at hf
 simp only [Bool.and_eq_true, decide_eq_true_eq, List.all_eq_true] at hf
 obtain ⟨⟨h1, h2, h3⟩, h4, h5⟩ := hf
 refine ⟨⟨by show h.2.2.2.1.length <= 500000; omega, by omega, fun c hc => ?_⟩, by omega, fun v hv => ?_⟩
 ·have : c.2.2.2.2.1.length <= 50 := of_decide_eq_true (h4 c hc)
  omega
 ·have := h5 v hv
  unfold fewV at this
  simp only [Bool.and_eq_true, decide_eq_true_eq] at this
  exact ⟨by omega, by omega, by omega⟩
def addCh (h : histT.den) (c : changeT.den) : histT.den := (h.1, h.2.1, h.2.2.1, ([] ++ h.2.2.2.1) ++ [c], ())
set_option maxRecDepth 100000 in
def roomC (n m : Nat) : Prop := n + m <= maxLen /\ (n + m) * Try.prog.types[46].bytes <= 140737488355328
set_option maxRecDepth 100000 in
theorem changeBytes : Try.prog.types[46].bytes <= 1000 := by decide
theorem Runs.mem {st : Int -> Core} {b : Int} : {a : Int} -> {l : List sliceT.den} -> Runs st b a l -> ∀ s ∈ l, a <= s.1.1 /\ s.1.1 < s.1.2.1 /\ s.1.2.1 <= b /\ ∀ d, s.1.1 <= d -> d < s.1.2.1 -> coreS s = st d
 | _, [], _, _, hs => by cases hs
 | a, t :: l, h, s, hs => by
  obtain ⟨h1, h2, h3, h4, h5, h6⟩ := h
  rcases List.mem_cons.1 hs with rfl | hs
  ·rw [h1]
   exact ⟨Int.le_refl _, h2, h6.le, h4⟩
  ·obtain ⟨q1, q2⟩ := Runs.mem h6 s hs
   exact ⟨Int.le_trans (Int.le_of_lt h2) q1, q2⟩
noncomputable def CL2a : Cx := cx [(42, cClone coverT)] []
theorem CL2a_ok : CxOK Try.prog CL2a := cx_ok mixed ⟨cloneC_ok, trivial⟩ trivial
def cOwnT : Ct := ⟨[.d termsT], [termsT], fun x => (x.1, ()), fun x => [x.1.2.2.1.length <= 1000000]⟩
theorem ownT_ok : SoundCt Try.prog 43 cOwnT :=
 convF (fn_sound CL2a_ok (Λ := lam0) (fn := Try.f43) (fr := fun x => Fr.need (x.1.2.2.1.length <= 1000000) (Fr.val (x.1, ()))) (ps := [.d termsT]) (rs := [termsT]) (termsT.dflt, ()) (by kernel_rfl) (fun c E _ => lam0_ok c 0) (fun x => by kernel_rfl)) _ _
  (fun _ _ _ _ _ hok => Fr.need_ hok ⟨trivial, rfl⟩)
def h00 : histT.den := (0, 0, ((0, 0, ()), (0, 0, 0, 0, ()), [], ()), [], ())
def lastB (h : histT.den) : Int := if (chL h).length = 0 then h.2.1 else ((chL h).getD ((chL h).length - 1) changeT.dflt).1
def putF (h : histT.den) (c : changeT.den) : histT.den × Int :=
 if changeB c = true /\ inB h.2.2.1.1.1 h.2.2.1.1.2.1 c.2.1 = true then
  (if c.1 < lastB h then (h00, 4) else if 2000 <= (chL h).length then (h00, 2) else (addCh h c, 0))
 else (h00, 1)
def cPut : Ct := ⟨[.d histT, .d changeT], [histT, i64], fun x => ((putF x.1 x.2.1).1, (putF x.1 x.2.1).2, ()), fun x => [fewH x.1]⟩
noncomputable def CL2b : Cx := cx [(42, cClone coverT), (41, cChange), (40, cIn), (43, cOwnT)] []
theorem CL2b_ok : CxOK Try.prog CL2b := cx_ok mixed ⟨cloneC_ok, chRight_ok, inS_ok, ownT_ok, trivial⟩ trivial
def frPut1 (h : histT.den) (c : changeT.den) (last : Int) : Fr (denL [histT, i64]) :=
 Fr.br (bif !(cChange.f (c, ())).1 then true else !(cIn.f (h.2.2.1.1, c.2.1, ())).1) (Fr.val (h00, 1, ()))
  (Fr.br (decide (c.1 < last)) (Fr.val (h00, 4, ()))
   (Fr.br (decide (((chL h).length : Int) ≥ 2000)) (Fr.val (h00, 2, ()))
    (Fr.need (c.2.2.2.2.1.length <= 1000000) (Fr.need (h.2.2.1.2.2.1.length <= 1000000)
     (Fr.need (0 <= (none : Option Int).getD 0 /\ (none : Option Int).getD 0 <= ((chL h).length : Int) /\ ((chL h).length : Int) <= ((chL h).length : Int) /\ ((chL h).length : Int) = ((chL h).length : Int))
      (Fr.need (0 < [c].length /\ roomC (List.take (((chL h).length : Int) - (none : Option Int).getD 0).toNat (List.drop ((none : Option Int).getD 0).toNat (chL h))).length [c].length)
       (Fr.val ((h.1, h.2.1, h.2.2.1, List.take (((chL h).length : Int) - (none : Option Int).getD 0).toNat (List.drop ((none : Option Int).getD 0).toNat (chL h)) ++ [c], ()), 0, ()))))))))
def frPut (x : denP [.d histT, .d changeT]) : Fr (denL [histT, i64]) :=
 Fr.br (decide (((chL x.1).length : Int) > 0))
  (Fr.need (0 <= IntKind.i64.wrap (((chL x.1).length : Int) - 1) /\ IntKind.i64.wrap (((chL x.1).length : Int) - 1) < ((chL x.1).length : Int))
   (frPut1 x.1 x.2.1 (List.getD (chL x.1) (IntKind.i64.wrap (((chL x.1).length : Int) - 1)).toNat changeT.dflt).1))
  (frPut1 x.1 x.2.1 x.1.2.1)
theorem put_run : SoundCt Try.prog 17 ⟨[.d histT, .d changeT], [histT, i64], fun xs => (frPut xs).get, fun xs => [(frPut xs).ok]⟩ :=
 fn_sound CL2b_ok (Λ := lam0) (fn := Try.f17) (fr := frPut) (ps := [.d histT, .d changeT]) (rs := [histT, i64]) (histT.dflt, changeT.dflt, ()) (by kernel_rfl) (fun c E _ => lam0_ok c 0) (fun x => by kernel_rfl)
theorem room_big {n : Nat} (hn : n <= 2000) : roomC n 1 := by
 refine ⟨by unfold maxLen; omega, Nat.le_trans (Nat.mul_le_mul (show n + 1 <= 2001 by omega) changeBytes) (by decide)⟩
theorem bif_no2 {a b : Bool} : (bif !a then true else !b) = false ↔ a = true /\ b = true := by
 cases a <;> cases b <;> simp
theorem take_all (l : List changeT.den) : List.take ((l.length : Int) - (none : Option Int).getD 0).toNat (List.drop ((none : Option Int).getD 0).toNat l) = l := by
 show List.take ((l.length : Int) - 0).toNat l = l
 rw [Int.sub_zero, Int.toNat_natCast, List.take_length]
theorem bif_tf {a b : Bool} (h : (bif a then b else false) = true) : a = true /\ b = true := by
 cases a with
 | false => cases h
 | true => exact ⟨rfl, h⟩
theorem len_zero {n : Nat} (h : ((n : Int) == 0) = true) : n <= 1000000 := by
 have : (n : Int) = 0 := eq_of_beq h
 omega
theorem changeB_covers {c : changeT.den} (h : changeB c = true) : c.2.2.2.2.1.length <= 1000000 := by
 unfold changeB kindB at h
 rw [Bool.and_eq_true, Bool.and_eq_true] at h
 have h3 := h.2.2
 split at h3
 ·exact len_zero (bif_tf (bif_tf h3).1).2
 ·split at h3
  ·have hc : coversL c.2.2.2.2.1 = true := (bif_tf (bif_tf h3).1).1
   unfold coversL at hc
   rw [Bool.and_eq_true] at hc
   have := of_decide_eq_true hc.1
   exact Nat.le_trans this.2 (by decide)
  ·split at h3
   ·exact len_zero (bif_tf (bif_tf h3).1).2
   ·split at h3
    ·exact len_zero (bif_tf (bif_tf h3).1).2
    ·cases h3
theorem frPut1_eq {h : histT.den} {c : changeT.den} {last : Int} (hl : last = lastB h) (hf : fewH h) :
  (frPut1 h c last).ok /\ (frPut1 h c last).get = ((putF h c).1, (putF h c).2, ()) := by
 subst hl
 unfold putF
 cases h1 : (bif !(cChange.f (c, ())).1 then true else !(cIn.f (h.2.2.1.1, c.2.1, ())).1) with
 | true =>
  refine Fr.br_t h1 ⟨trivial, ?_⟩
  have h1' : ¬ (changeB c = true /\ inB h.2.2.1.1.1 h.2.2.1.1.2.1 c.2.1 = true) := fun hh => by
   have h2 : (bif !changeB c then true else !inB h.2.2.1.1.1 h.2.2.1.1.2.1 c.2.1) = true := h1
   rw [bif_no2.2 hh] at h2
   cases h2
  rw [if_neg h1']
  rfl
 | false =>
  refine Fr.br_f h1 ?_
  have h1' : changeB c = true /\ inB h.2.2.1.1.1 h.2.2.1.1.2.1 c.2.1 = true := bif_no2.1 h1
  rw [if_pos h1']
  by_cases h2 : c.1 < lastB h
  ·rw [if_pos h2]
   exact Fr.br_t (decide_eq_true h2) ⟨trivial, rfl⟩
  ·rw [if_neg h2]
   refine Fr.br_f (decide_eq_false h2) ?_
   by_cases h3 : 2000 <= (chL h).length
   ·rw [if_pos h3]
    exact Fr.br_t (decide_eq_true (by omega)) ⟨trivial, rfl⟩
   ·rw [if_neg h3]
    refine Fr.br_f (decide_eq_false (by omega)) (Fr.need_ (changeB_covers h1'.1) (Fr.need_ hf.2.1 (Fr.need_ ⟨Int.le_refl _, Int.natCast_nonneg _, Int.le_refl _, rfl⟩ ?_)))
    rw [take_all]
    have hr := room_big (n := (chL h).length) (by omega)
    refine Fr.need_ ⟨Nat.zero_lt_one, hr⟩ ⟨trivial, ?_⟩
    rfl
theorem put_ok : SoundCt Try.prog 17 cPut :=
 convF put_run _ _ (fun w F x vs hr hok => by
  obtain ⟨h, c, _⟩ := x
  obtain ⟨v, vs', rfl, hv, _⟩ := hr
  have hlen : ((chL h).length : Int) <= 9223372036854775807 := len_big (RepT.wf hv.2.2).2.2.2.1.1
  have hf : fewH h := hok
  by_cases h0 : (chL h).length = 0
  ·refine Fr.br_f (decide_eq_false (by show ¬ ((chL h).length : Int) > 0; omega)) (frPut1_eq ?_ hf)
   unfold lastB
   rw [if_pos h0]
  ·have hw : IntKind.i64.wrap (((chL h).length : Int) - 1) = ((chL h).length : Int) - 1 := i64w (by omega)
   refine Fr.br_t (decide_eq_true (by show ((chL h).length : Int) > 0; omega)) (Fr.need_ ?_ (frPut1_eq ?_ hf))
   ·show 0 <= IntKind.i64.wrap (((chL h).length : Int) - 1) /\ IntKind.i64.wrap (((chL h).length : Int) - 1) < ((chL h).length : Int)
    rw [hw]
    omega
   ·show (List.getD (chL h) (IntKind.i64.wrap (((chL h).length : Int) - 1)).toNat changeT.dflt).1 = lastB h
    unfold lastB
    rw [if_neg h0, hw, show (((chL h).length : Int) - 1).toNat = (chL h).length - 1 by omega])
end Go.Proofs.Ytplkgghjldndkaa
namespace Go.Ab
open Go Go.RowKit
def notBad (pc : Pc) : Ct := ⟨pc.ps, pc.rs, pc.f, fun x => (pc.bad x = false) :: pc.ok x⟩
def gP (C : Cx) (f : FuncId) : Option Ct := match C.Γ f with
 | some ct => some ct
 | none => (C.Pi f).map notBad
structure Pan where
 bad : Bool
 pv : PV
 good : List Prop
def panOf (C : Cx) (o : Oper) (sl : Nat -> AV) : Option Pan :=
 match o.guard, o.op, o.op.operands.toList.map (evA sl) with
 | none, .call ⟨.value _, _, _⟩, .c (.fn f caps) :: args => match C.Pi f with
  | some pc => match rsAs (fun _ => none) (args ++ caps.map .c) with
   | some (xs, []) => match decPs C.Γ pc.ps xs with
    | some (x, n) => some ⟨pc.bad x, pc.pv x, n ++ pc.ok x⟩
    | none => none
   | _ => none
  | none => none
 | _, _, _ => none
def runPan (P : Program) (C : Cx) (b : Nat) (ops : List Oper) : List Oper -> St -> Option (List (Ef × Option Pan) × St)
 | [], s => some ([], s)
 | o :: r, s => match effOf P (gP C) b ops o s.sl s.mem with
  | some e => match runPan P C b ops r (e.go s) with
   | some (es, s') => some ((e, panOf C o s.sl) :: es, s')
   | none => none
  | none => none
def goodN (pv : PV) : Ef × Option Pan -> List Prop
 | (e, none) => e.need
 | (e, some p) => [p.bad = false -> conj e.need, p.bad = true -> conj p.good /\ p.pv = pv]
def treeP (d : St) (all : List (Ef × Option Pan)) (good : Tr) : List Pan -> Tr
 | [] => good
 | p :: r => .br p.bad (needL (all.flatMap (goodN p.pv)) (.leaf (.panic p.pv) d)) (treeP d all good r)
def wrOk (ops : List Oper) (es : List (Ef × Option Pan)) : Bool :=
 let ms := masksGo [] ops
 (List.range es.length).all fun k => match es[k]?, ms[k]? with
  | some (f, _), some mask => f.wr.isEmpty || (List.range es.length).all fun i => match es[i]? with
   | some (_, some _) => mask.testBit i
   | _ => true
  | _, _ => false
def earlyD (ops : List Oper) (es : List (Ef × Option Pan)) : List Tmp :=
 let ms := masksGo [] ops
 (List.range es.length).filterMap fun k => match es[k]?, ms[k]? with
  | some (f, _), some mask => if (List.range es.length).all (fun i => match es[i]? with
   | some (_, some _) => mask.testBit i
   | _ => true) then none else f.dst
  | _, _ => none
def keepS (D : List Tmp) (sl : Nat -> AV) (t : Tmp) : AV := if D.contains t then .dead else clr sl t
def regionP (P : Program) (C : Cx) (b : Nat) (ops : List Oper) (s : St) : Option Tr :=
 if statGo s.n 0 [] ops then match runPan P C b ops ops s with
  | some (es, s') => if orderOk ops (es.map (·.1)) = true /\ wrOk ops es = true then
    some (treeP ⟨s.n, keepS (earlyD ops es) s.sl, s.mem, s.gs⟩ es (needs (es.map (·.1)) (.leaf .normal (clrS s'))) (es.filterMap (·.2)))
   else none
  | none => none
 else none
section
variable {P : Program} {w w' : World} {E : Env} {F F' : Nat -> Prop} {b : Nat} {γ γ' γ0 : Nat -> Value} {ops : Array Oper} {es : List (Ef × Option Pan)} {C : Cx}
theorem gP_ok (hC : CxOK P C) : ∀ f ct, gP C f = some ct -> SoundCt P f ct := by
 intro f ct h
 unfold gP at h
 split at h
 ·rename_i ct' hct
  cases h
  exact hC.ct f _ hct
 ·cases hp : C.Pi f with
  | none => rw [hp] at h; cases h
  | some pc =>
   rw [hp] at h
   cases h
   obtain ⟨h1, h2⟩ := hC.pc f pc hp
   refine ⟨h1, fun w F xs vs hb hr hok => ?_⟩
   obtain ⟨hbad, hok⟩ : pc.bad xs = false /\ conj (pc.ok xs) := conj_cons.1 hok
   refine (h2 w F xs vs hb hr hok).mono fun e w' h => ?_
   rcases h with h | h
   ·exact h.2
   ·rw [hbad] at h
    cases h.1
theorem panOf_local {o : Oper} {sl sl' : Nat -> AV} (h : ∀ t ∈ tmpsOf o.op, sl' t = sl t) : panOf C o sl' = panOf C o sl := by
 unfold panOf
 rw [evs_local h]
theorem panOf_guard {o : Oper} {sl : Nat -> AV} (h : o.guard ≠ none) : panOf C o sl = none := by
 unfold panOf
 split
 ·rename_i hg _ _
  exact absurd hg h
 ·rfl
theorem eff_rd {Γ : FuncId -> Option Ct} {o : Oper} {opl : List Oper} {sl : Nat -> AV} {m : Mem} {e : Ef} (he : effOf P Γ b opl o sl m = some e) (hg : o.guard = none) : e.rd = tmpsOf o.op := by
 unfold effOf at he
 rw [hg] at he
 simp only at he
 split at he <;> try (cases he; done)
 simp only [Option.some.injEq] at he
 subst he
 rfl
theorem panOf_go {Γ : FuncId -> Option Ct} {o : Oper} {opl : List Oper} {e f : Ef} {s : St} (hf : effOf P Γ b opl o s.sl s.mem = some f) (hd : ∀ t, e.dst = some t -> t ∉ f.rd) : panOf C o (e.go s).sl = panOf C o s.sl := by
 cases hg : o.guard with
 | some g => rw [panOf_guard (by rw [hg]; simp), panOf_guard (by rw [hg]; simp)]
 | none =>
  refine panOf_local fun t ht => ?_
  show setA s.sl e.dst e.v t = s.sl t
  rw [← eff_rd hf hg] at ht
  cases hx : e.dst with
  | none => rfl
  | some x =>
   have hne : t ≠ x := fun htx => hd x hx (htx ▸ ht)
   exact if_neg hne
def RunsP (P : Program) (C : Cx) (b : Nat) (ops : Array Oper) (es : List (Ef × Option Pan)) (s' : St) : List Nat -> St -> Prop
 | [], s => s = s'
 | i :: r, s => ∃ o e p, ops[i]? = some o /\ es[i]? = some (e, p) /\ effOf P (gP C) b ops.toList o s.sl s.mem = some e /\ panOf C o s.sl = p /\ RunsP P C b ops es s' r (e.go s)
theorem runsP_of {s' : St} : (l : List Oper) -> (k : Nat) -> (s : St) -> (fs : List (Ef × Option Pan)) -> runPan P C b ops.toList l s = some (fs, s') -> (∀ i o, l[i]? = some o -> ops[k + i]? = some o) ->
  (∀ i e, fs[i]? = some e -> es[k + i]? = some e) -> RunsP P C b ops es s' (List.range' k l.length) s
 | [], k, s, fs, h, _, _ => by
  simp only [runPan, Option.some.injEq, Prod.mk.injEq] at h
  exact h.2
 | o :: r, k, s, fs, h, ho, he => by
  simp only [runPan] at h
  split at h <;> try (cases h; done)
  rename_i e heff
  split at h <;> try (cases h; done)
  rename_i es' s2 hr
  simp only [Option.some.injEq, Prod.mk.injEq] at h
  obtain ⟨rfl, rfl⟩ := h
  refine ⟨o, e, _, by simpa using ho 0 o rfl, by simpa using he 0 _ rfl, heff, rfl, ?_⟩
  refine runsP_of r (k + 1) _ es' hr (fun i o' hi => ?_) (fun i e' hi => ?_)
  ·have := ho (i + 1) o' (by simpa using hi)
   rwa [show k + 1 + i = k + (i + 1) by omega]
  ·have := he (i + 1) e' (by simpa using hi)
   rwa [show k + 1 + i = k + (i + 1) by omega]
theorem runPan_n {opl : List Oper} : (l : List Oper) -> (s : St) -> (fs : List (Ef × Option Pan)) -> (s' : St) -> runPan P C b opl l s = some (fs, s') -> s'.n = s.n
 | [], s, fs, s', h => by
  simp only [runPan, Option.some.injEq, Prod.mk.injEq] at h
  rw [h.2]
 | o :: r, s, fs, s', h => by
  simp only [runPan] at h
  split at h <;> try (cases h; done)
  split at h <;> try (cases h; done)
  rename_i es' s2 hr
  simp only [Option.some.injEq, Prod.mk.injEq] at h
  obtain ⟨rfl, rfl⟩ := h
  exact (runPan_n r _ es' _ hr).trans rfl
theorem runPan_length {opl : List Oper} : (l : List Oper) -> (s : St) -> (fs : List (Ef × Option Pan)) -> (s' : St) -> runPan P C b opl l s = some (fs, s') -> fs.length = l.length
 | [], s, fs, s', h => by
  simp only [runPan, Option.some.injEq, Prod.mk.injEq] at h
  rw [← h.1]
  rfl
 | o :: r, s, fs, s', h => by
  simp only [runPan] at h
  split at h <;> try (cases h; done)
  split at h <;> try (cases h; done)
  rename_i es' s2 hr
  simp only [Option.some.injEq, Prod.mk.injEq] at h
  obtain ⟨rfl, rfl⟩ := h
  simp [runPan_length r _ es' _ hr]
theorem frontP {s' : St} {j : Nat} : (rem : List Nat) -> (s : St) -> RunsP P C b ops es s' rem s -> rem.Pairwise (· < ·) -> j ∈ rem ->
  (∀ i ∈ rem, i < j -> ∀ e f, es[i]? = some e -> es[j]? = some f -> indep e.1 f.1 = true) ->
  ∃ o f p, ops[j]? = some o /\ es[j]? = some (f, p) /\ effOf P (gP C) b ops.toList o s.sl s.mem = some f /\ panOf C o s.sl = p /\ RunsP P C b ops es s' (rem.erase j) (f.go s)
 | [], _, _, _, hj, _ => by simp at hj
 | i :: r, s, hr, hp, hj, hi => by
  obtain ⟨o, e, p, ho, he, heff, hpan, hr'⟩ := hr
  by_cases hij : i = j
  ·subst hij
   refine ⟨o, e, p, ho, he, heff, hpan, ?_⟩
   rw [List.erase_cons_head]
   exact hr'
  ·have hjr : j ∈ r := by
    rcases List.mem_cons.1 hj with h | h
    ·exact absurd h.symm hij
    ·exact h
   have hlt : i < j := (List.pairwise_cons.1 hp).1 j hjr
   obtain ⟨oj, f, pj, hoj, hfj, hf, hpj, hrr⟩ := frontP r (e.go s) hr' (List.pairwise_cons.1 hp).2 hjr (fun k hk hkj => hi k (List.mem_cons_of_mem _ hk) hkj)
   have hind : indep e f = true := hi i (by simp) hlt _ _ he hfj
   have hsp := indep_spec hind
   have hfs := eff_back hind hf
   refine ⟨oj, f, pj, hoj, hfj, hfs, (panOf_go hfs (fun t ht => (hsp.1 t ht).1)).symm.trans hpj, ?_⟩
   rw [List.erase_cons_tail (by simpa using hij)]
   refine ⟨o, e, p, ho, he, eff_forth hind heff, (panOf_go heff (fun t ht => hsp.2.1 t ht)).trans hpan, ?_⟩
   rw [← go_comm hind]
   exact hrr
theorem pan_sound (hC : CxOK P C) {o : Oper} {st : St} {a : Act} {W : List Tmp} {p : Pan} (hi : InvG P E st a w W F γ) (h : panOf C o st.sl = some p) (hb : p.bad = true) (hn : conj p.good) (K : Act -> World -> Prop) (Q : Exit -> Act -> World -> Prop)
  (hq : ∀ w', I P E (clrS st) a w' -> Q (.panic [{ v := p.pv.val, recovered := false }]) a w') : o.guard = none /\ o.wp P a w K Q := by
 unfold panOf at h
 split at h <;> try (cases h; done)
 rename_i f0 cargs ts f caps args hg ho hvs
 refine ⟨hg, ?_⟩
 split at h <;> try (cases h; done)
 rename_i pc hpc
 split at h <;> try (cases h; done)
 rename_i xs hrs
 split at h <;> try (cases h; done)
 rename_i x n hdec
 simp only [Option.some.injEq] at h
 subst h
 obtain ⟨hn1, hn2⟩ := conj_append.1 hn
 have hev := evMs_rep hi.sl o.op.operands.toList
 rw [hvs] at hev
 have hops : o.op.operands.toList.map a.eval = a.eval f0 :: (cargs.map a.eval).toList := by simp [ho, Op.operands, Call.operands]
 rw [hops] at hev
 obtain ⟨⟨_, hfv⟩, hargs⟩ := hev
 obtain ⟨cv, e1, e2, e3⟩ := hfv
 have hcaps := caps_live e2 e3
 have hrun : (∀ args w, (callFunc f args).run P w = .ok (.enter f args) w) -> (execOp a.eval o).run P w = .ok (.enter f (cargs.map a.eval ++ cv)) w := fun hen => by
  unfold execOp
  rw [ho]
  simp [resolve, e1, Deferred.ofValue, invoke, hen]
 have harr : ((cargs.map a.eval).toList ++ cv.toList).toArray = cargs.map a.eval ++ cv := by simp
 have hall : (args ++ caps.map AV.c).all nmA = true := by
  have : ∀ (l : List AV), (∃ xs u', rsAs (fun _ => none) l = some (xs, u')) -> l.all nmA = true := by
   intro l
   induction l with
   | nil => intros; rfl
   | cons y l ih =>
    rintro ⟨xs, u', hx⟩
    simp only [rsAs] at hx
    split at hx <;> try (cases hx; done)
    rename_i h1 h2
    simp only [List.all_cons, Bool.and_eq_true]
    refine ⟨?_, ih ⟨_, _, h2⟩⟩
    cases y <;> first | rfl | (simp [rsA] at h1)
  exact this _ ⟨_, _, hrs⟩
 have hargs' : Reps P w F (refOK st.mem γ) (args ++ caps.map AV.c) ((cargs.map a.eval).toList ++ cv.toList) := by
  refine reps_append (repsM_plain hargs ?_) hcaps
  rw [List.all_append, Bool.and_eq_true] at hall
  exact hall.1
 obtain ⟨F1, s1, m1, _, r1⟩ := rsAs_sound hi.mem (inv_bd hi) (SubM.of fun _ _ h => by cases h) hrs hargs'
 have hps := decPs_rep hC.ct hdec hn1 r1
 obtain ⟨hen, hcalls⟩ := hC.pc f pc hpc
 have hc := hcalls w F1 x _ s1.bd hps hn2
 unfold Oper.wp
 rw [hrun hen]
 show Calls P f (cargs.map a.eval ++ cv) w _
 rw [harr] at hc
 have hb' : pc.bad x = true := hb
 refine hc.mono fun e w2 hp => ?_
 rcases hp with ⟨hbad, _⟩ | ⟨hbad, rfl, hbel⟩
 ·rw [hb'] at hbad
  cases hbad
 ·refine hq w2 ⟨F1, γ, ?_⟩
  obtain ⟨s2, m2⟩ := Step.below m1 (Step.size' hi) s1.bd hbel (F' := F1) (fun _ h => h) (fun b hb => ⟨.inl hb, Nat.lt_of_lt_of_le (s1.bd b hb) hbel.size⟩)
  have s3 := s1.trans s2
  obtain ⟨γ0, h0⟩ := hi.step
  exact inv_clr (W := W) ⟨hi.n, hi.df, ⟨γ0, h0.trans s3⟩, m2, fun t => (hi.sl t).mono s3.hF s3.hw s3.hR, hi.hg, fun t => s3.repA (hi.gh t)⟩
theorem inv_keep {st : St} {a : Act} {D : List Tmp} {s0 : St} (h : InvG P E (clrS st) a w [] F γ) (hs : ∀ t, t ∉ D -> st.sl t = s0.sl t) : InvG P E ⟨st.n, keepS D s0.sl, st.mem, st.gs⟩ a w [] F γ := by
 refine ⟨h.n, h.df, h.step, h.mem, fun t => ?_, fun t g want v ht => ?_, h.gh⟩
 ·show SlotOK P w F _ _ (if D.contains t then AV.dead else clr s0.sl t) _
  split
  ·trivial
  ·rename_i hd
   have hd' : t ∉ D := fun hm => hd (by simpa using hm)
   have e : clr s0.sl t = clr st.sl t := by
    unfold clr
    rw [hs t hd']
   rw [e]
   exact h.sl t
 ·have ht' : (if D.contains t then AV.dead else clr s0.sl t) = .maybe g want v := ht
  split at ht'
  ·cases ht'
  ·rename_i hd
   have hd' : t ∉ D := fun hm => hd (by simpa using hm)
   have e : clr s0.sl t = clr st.sl t := by
    unfold clr
    rw [hs t hd']
   rw [e] at ht'
   exact h.hg t g want v ht'
def GoodE (pv : PV) (x : Ef × Option Pan) : Prop := match x.2 with
 | none => conj x.1.need
 | some p => (p.bad = false -> conj x.1.need) /\ (p.bad = true -> conj p.good /\ p.pv = pv)
theorem goodN_ok {pv : PV} {x : Ef × Option Pan} (h : conj (goodN pv x)) : GoodE pv x := by
 obtain ⟨e, p⟩ := x
 cases p with
 | none => exact h
 | some p => exact ⟨h.1, h.2⟩
def RegP (P : Program) (E : Env) (C : Cx) (b : Nat) (ops : Array Oper) (es : List (Ef × Option Pan)) (D : List Tmp) (s0 s' : St) (rem : List Nat) (a : Act) (w : World) : Prop :=
 ∃ st W F γ, InvG P E st a w W F γ /\ (∀ t, t ∈ W ↔ ∃ k o, ops[k]? = some o /\ k ∉ rem /\ o.dst = some t) /\ RunsP P C b ops es s' rem st /\ st.n = s'.n /\ st.gs = s0.gs /\
  (∀ (k : Nat) e p, es[k]? = some (e, some p) -> k ∉ rem -> p.bad = false) /\ ((∃ k : Nat, ∃ e p, k ∈ rem /\ es[k]? = some (e, some p)) -> st.mem = s0.mem /\ ∀ t, t ∉ D -> st.sl t = s0.sl t)
theorem regP_step (hC : CxOK P C) {D : List Tmp} {s0 s' : St} {rem : List Nat} {a : Act} (hi : RegP P E C b ops es D s0 s' rem a w) {j : Nat} (hj : j ∈ rem) (hp : rem.Pairwise (· < ·))
  (hfront : ∀ i ∈ rem, i < j -> ∀ e f, es[i]? = some e -> es[j]? = some f -> indep e.1 f.1 = true) (hguard : ∀ o j' want, ops[j]? = some o -> o.guard = some (j', want) -> j' ∉ rem) (hst : StatOK s'.n ops)
  {pv : PV} (hgood : ∀ (i : Nat) x, es[i]? = some x -> GoodE pv x) (hwr : ∀ f p, es[j]? = some (f, p) -> (f.wr ≠ [] ∨ ∃ t, f.dst = some t /\ t ∉ D) -> ∀ (k : Nat) e q, es[k]? = some (e, some q) -> k ∉ rem) (hn0 : s0.n = s'.n)
  (K : Act -> World -> Prop) (Q : Exit -> Act -> World -> Prop) (hK : ∀ a' w', RegP P E C b ops es D s0 s' (rem.erase j) a' w' -> K a' w')
  (hQ : (∃ k : Nat, ∃ e p, es[k]? = some (e, some p) /\ p.bad = true) -> ∀ a' w', I P E ⟨s0.n, keepS D s0.sl, s0.mem, s0.gs⟩ a' w' -> Q (.panic [{ v := pv.val, recovered := false }]) a' w') : wpOp P ops Q j K a w := by
 obtain ⟨st, W, F, γ, hinv, hW, hruns, hn, hgs, hdone, hmem⟩ := hi
 obtain ⟨o, f, p, ho, hf, heff, hpan, hr⟩ := frontP rem st hruns hp hj hfront
 have hnd : rem.Nodup := nodup_of_lt hp
 have hmemE : ∀ k, k ∉ rem.erase j ↔ k = j ∨ k ∉ rem := fun k => by
  rw [hnd.mem_erase_iff]
  constructor
  ·intro h
   by_cases hk : k = j
   ·exact .inl hk
   ·exact .inr fun h' => h ⟨hk, h'⟩
  ·rintro (h | h) ⟨h1, h2⟩
   ·exact h1 h
   ·exact h h2
 unfold wpOp
 rw [ho]
 simp only
 have hg := hgood j _ hf
 by_cases hbad : ∃ q, p = some q /\ q.bad = true
 ·obtain ⟨q, rfl, hq⟩ := hbad
  obtain ⟨hgq, hpv⟩ := hg.2 hq
  have hm0 := hmem ⟨j, f, q, hj, hf⟩
  have key := pan_sound hC (K := K) (Q := Q) hinv hpan hq hgq (fun w' hiw => by
   rw [hpv]
   refine hQ ⟨j, f, q, hf, hq⟩ a w' ?_
   obtain ⟨F1, γ1, hiw⟩ := hiw
   rw [hn0, ← hn, ← hm0.1, ← hgs]
   exact ⟨F1, γ1, inv_keep hiw hm0.2⟩)
  have hw : Region.wanted o (yielded ops a.tmps) = true := by simp [Region.wanted, key.1]
  rw [if_pos hw]
  exact .inl key.2
 ·have hneed : conj f.need := by
   cases p with
   | none => exact hg
   | some q =>
    refine hg.1 ?_
    cases hq : q.bad with
    | false => rfl
    | true => exact absurd ⟨q, rfl, hq⟩ hbad
  have key := op_step (gP_ok hC) (ops := ops) hinv heff hneed (fun x hx => ⟨by rw [hn]; exact hst.lt j o x ho hx, fun hxW => by
    obtain ⟨k, ok, hok, hk, hd⟩ := (hW x).1 hxW
    have := hst.once j k o ok x ho hok hx hd
    subst this
    exact hk hj⟩)
   (fun j' want g hg hd => by
    have h1 := hguard o j' want ho hg
    cases ho' : ops[j']? with
    | none => rw [ho'] at hd; cases hd
    | some o' =>
     rw [ho'] at hd
     exact (hW g).2 ⟨j', o', ho', h1, hd⟩)
   K Q (fun a' w' F' γ' hinv' => hK a' w' ⟨f.go st, _, F', γ', hinv', fun t => ?_, hr, hn, hgs, fun k e q hk hkr => ?_, fun hex => ?_⟩)
  ·split
   ·rename_i hw
    rw [if_pos hw] at key
    exact .inl key
   ·rename_i hw
    rw [if_neg hw] at key
    exact key
  ·rw [List.mem_append, hW]
   constructor
   ·rintro (h | ⟨k, ok, h1, h2, h3⟩)
    ·exact ⟨j, o, ho, (hmemE j).2 (.inl rfl), by simpa using h⟩
    ·exact ⟨k, ok, h1, (hmemE k).2 (.inr h2), h3⟩
   ·rintro ⟨k, ok, h1, h2, h3⟩
    rcases (hmemE k).1 h2 with rfl | h
    ·rw [ho] at h1
     cases h1
     exact .inl (by simp [h3])
    ·exact .inr ⟨k, ok, h1, h, h3⟩
  ·rcases (hmemE k).1 hkr with rfl | h
   ·rw [hf] at hk
    cases hk
    cases hq : q.bad with
    | false => rfl
    | true => exact absurd ⟨q, rfl, hq⟩ hbad
   ·exact hdone k e q hk h
  ·obtain ⟨k, e, q, hk, hke⟩ := hex
   have hkr := List.mem_of_mem_erase hk
   have hm0 := hmem ⟨k, e, q, hkr, hke⟩
   refine ⟨?_, fun t ht => ?_⟩
   ·show upds st.mem f.wr = s0.mem
    have hnil : f.wr = [] := by
     apply Classical.byContradiction
     intro hne
     exact hwr f p hf (.inl hne) k e q hke hkr
    rw [hnil]
    exact hm0.1
   ·show setA st.sl f.dst f.v t = s0.sl t
    rw [← hm0.2 t ht]
    cases hx : f.dst with
    | none => rfl
    | some x =>
     have hne : t ≠ x := fun htx => by
      subst htx
      exact hwr f p hf (.inr ⟨t, hx, ht⟩) k e q hke hkr
     exact if_neg hne
theorem wrOk_spec (h : wrOk ops.toList es = true) {j : Nat} {f : Ef} {p : Option Pan} (hj : es[j]? = some (f, p)) (hne : f.wr ≠ []) {k : Nat} {e : Ef} {q : Pan} (hk : es[k]? = some (e, some q)) : ((masksGo [] ops.toList).getD j 0).testBit k = true := by
 unfold wrOk at h
 rw [List.all_eq_true] at h
 have hjl := (List.getElem?_eq_some_iff.1 hj).1
 have hkl := (List.getElem?_eq_some_iff.1 hk).1
 have h1 := h j (List.mem_range.2 hjl)
 rw [hj] at h1
 split at h1
 ·rename_i f' p' mask hf' hm
  simp only [Option.some.injEq, Prod.mk.injEq] at hf'
  obtain ⟨rfl, rfl⟩ := hf'
  rw [Bool.or_eq_true] at h1
  rcases h1 with h1 | h1
  ·exact absurd (by simpa using h1) hne
  ·rw [List.all_eq_true] at h1
   have h2 := h1 k (List.mem_range.2 hkl)
   rw [hk] at h2
   rw [List.getD_eq_getElem?_getD, hm]
   exact h2
 ·cases h1
theorem early_spec {j : Nat} {f : Ef} {p : Option Pan} {t : Tmp} (hj : es[j]? = some (f, p)) (hd : f.dst = some t) (ht : t ∉ earlyD ops.toList es) {mask : Nat} (hm : (masksGo [] ops.toList)[j]? = some mask) {k : Nat} {e : Ef} {q : Pan} (hk : es[k]? = some (e, some q)) : mask.testBit k = true := by
 apply Classical.byContradiction
 intro hn
 apply ht
 have hjl := (List.getElem?_eq_some_iff.1 hj).1
 have hkl := (List.getElem?_eq_some_iff.1 hk).1
 refine List.mem_filterMap.2 ⟨j, List.mem_range.2 hjl, ?_⟩
 rw [hj, hm]
 show (if _ then none else f.dst) = some t
 rw [if_neg, hd]
 intro hall
 rw [List.all_eq_true] at hall
 have := hall k (List.mem_range.2 hkl)
 rw [hk] at this
 exact hn this
theorem regP_any (hC : CxOK P C) {D : List Tmp} (hD : D = earlyD ops.toList es) {s0 s' : St} (hst : StatOK s'.n ops) (hord : orderOk ops.toList (es.map (·.1)) = true) (hwro : wrOk ops.toList es = true) {pv : PV} (hgood : ∀ (i : Nat) x, es[i]? = some x -> GoodE pv x) (hn0 : s0.n = s'.n) (Q : Exit -> Act -> World -> Prop)
  (hQ : ∀ a w, RegP P E C b ops es D s0 s' [] a w -> Q .normal a w)
  (hQp : (∃ k : Nat, ∃ e p, es[k]? = some (e, some p) /\ p.bad = true) -> ∀ a' w', I P E ⟨s0.n, keepS D s0.sl, s0.mem, s0.gs⟩ a' w' -> Q (.panic [{ v := pv.val, recovered := false }]) a' w') :
  (fuel : Nat) -> ∀ (rem : List Nat) (listed : Array Bool) (a : Act) (w : World), rem.length <= fuel -> rem.Pairwise (· < ·) -> listed.size = ops.size -> (∀ i, i < ops.size -> (listed.getD i true = false ↔ i ∈ rem)) -> (∀ i ∈ rem, i < ops.size) ->
   (∀ k, k < ops.size -> k ∉ rem -> ∀ i, ((masksGo [] ops.toList).getD k 0).testBit i = true -> i ∉ rem) -> RegP P E C b ops es D s0 s' rem a w -> wpAny P .any ops Q fuel listed a w
 | fuel, [], listed, a, w, _, _, hsz, hl, _, _, hi => by
  have hnil : Region.ready .any ops listed = [] := by
   apply List.eq_nil_iff_forall_not_mem.2
   intro i hmem
   obtain ⟨h1, o, ho, _⟩ := mem_ready.1 hmem
   have hlt := (Array.getElem?_eq_some_iff.1 ho).1
   simpa using (hl i hlt).1 h1
  cases fuel with
  | zero => exact ⟨hnil, hQ a w hi⟩
  | succ fuel => exact ⟨fun _ => hQ a w hi, fun i hmem => by rw [hnil] at hmem; simp at hmem⟩
 | 0, i :: r, _, _, _, hlen, _, _, _, _, _, _ => by simp at hlen
 | fuel + 1, i :: r, listed, a, w, hlen, hp, hsz, hl, hlt, hmask, hi => by
  have hready : i ∈ Region.ready .any ops listed := by
   have hio := hlt i (by simp)
   refine mem_ready.2 ⟨(hl i hio).2 (by simp), ops[i], by simp [hio], fun e he hb => ?_⟩
   have hback := hst.back i ops[i] (by simp [hio]) e he hb
   have hnot : e.on ∉ i :: r := fun hh => by
    rcases List.mem_cons.1 hh with h | h
    ·omega
    ·have := (List.pairwise_cons.1 hp).1 _ h
     omega
   have h1 : ¬ listed.getD e.on true = false := fun h => hnot ((hl e.on (by omega)).1 h)
   have hsz' : e.on < listed.size := by omega
   simp only [Array.getD_eq_getD_getElem?, Array.getElem?_eq_getElem hsz', Option.getD_some] at h1 ⊢
   simpa using h1
  refine ⟨fun hnil => by rw [hnil] at hready; simp at hready, fun j hj => ?_⟩
  obtain ⟨hj1, o, ho, hjall⟩ := mem_ready.1 hj
  have hjlt := (Array.getElem?_eq_some_iff.1 ho).1
  have hjrem := (hl j hjlt).1 hj1
  have hlisted : ∀ b, listed.getD b false = true -> b < ops.size /\ b ∉ i :: r := fun b hb => by
   have hbs : b < listed.size := by
    rcases Nat.lt_or_ge b listed.size with h | h
    ·exact h
    ·simp [Array.getElem?_eq_none h] at hb
   refine ⟨by omega, fun hmem => ?_⟩
   have := (hl b (by omega)).2 hmem
   simp only [Array.getD_eq_getD_getElem?, Array.getElem?_eq_getElem hbs, Option.getD_some] at hb this
   rw [hb] at this
   cases this
  obtain ⟨m, hm1, hm2⟩ := (masksGo_get ops.toList []).2 j o (by simpa using ho)
  simp only [List.length_nil, Nat.zero_add] at hm1
  have hmj : ∀ b, ((masksGo [] ops.toList).getD j 0).testBit b = true -> b ∉ i :: r := fun b hb => by
   rw [List.getD_eq_getElem?_getD, hm1] at hb
   obtain ⟨e, he, hb', hor⟩ := hm2 b hb
   obtain ⟨h1, h2⟩ := hlisted e.on (hjall e he hb')
   rcases hor with rfl | h
   ·exact h2
   ·exact hmask e.on h1 h2 b h
  have hnd : (i :: r).Nodup := nodup_of_lt hp
  refine regP_step hC hi hjrem hp (fun k hk hkj e f he hf => ?_) (fun o' j' want ho' hg hmem => ?_) hst hgood (fun f p hf hne k e q hk => ?_) hn0 _ Q (fun a' w' h' => ?_) hQp
  ·have he' : (es.map (·.1))[k]? = some e.1 := by rw [List.getElem?_map, he]; rfl
   have hf' : (es.map (·.1))[j]? = some f.1 := by rw [List.getElem?_map, hf]; rfl
   exact (orderOk_spec hord he' hf' hkj).resolve_left fun h => hmj k h hk
  ·obtain ⟨_, e, he, heq, hb⟩ := hst.guard j o' j' want ho' hg
   rw [ho] at ho'
   cases ho'
   have := (hlisted e.on (hjall e he hb)).2
   rw [heq] at this
   exact this hmem
  ·rcases hne with hne | ⟨t, hdt, htD⟩
   ·exact hmj k (wrOk_spec hwro hf hne hk)
   ·refine hmj k ?_
    rw [List.getD_eq_getElem?_getD, hm1]
    exact early_spec hf hdt (hD ▸ htD) hm1 hk
  ·refine regP_any hC hD hst hord hwro hgood hn0 Q hQ hQp fuel _ (listed.setIfInBounds j true) a' w' ?_ (pairwise_erase hp j) (by simpa using hsz) (fun k hk => ?_) (fun k hk => hlt k (List.mem_of_mem_erase hk)) (fun k hk hkr b hb => ?_) h'
   ·rw [List.length_erase_of_mem hjrem]
    omega
   ·rw [hnd.mem_erase_iff]
    by_cases hkj : j = k
    ·subst hkj
     simp [hsz, hjlt]
    ·simp only [Array.getD_eq_getD_getElem?, Array.getElem?_setIfInBounds_ne hkj]
     rw [← Array.getD_eq_getD_getElem?, hl k hk]
     constructor
     ·exact fun h => ⟨Ne.symm hkj, h⟩
     ·exact fun h => h.2
   ·rw [hnd.mem_erase_iff] at hkr ⊢
    rintro ⟨h1, h2⟩
    by_cases hkj : k = j
    ·subst hkj
     exact hmj b hb h2
    ·exact hmask k hk (fun hh => hkr ⟨hkj, hh⟩) b hb h2
theorem treeP_sat {d : St} {all : List (Ef × Option Pan)} {good : Tr} {Q : XE -> St -> Prop} : {ps : List Pan} -> (treeP d all good ps).sat Q -> (∃ p ∈ ps, p.bad = true /\ conj (all.flatMap (goodN p.pv)) /\ Q (.panic p.pv) d) ∨ ((∀ p ∈ ps, p.bad = false) /\ good.sat Q)
 | [], h => .inr ⟨fun p hp => by simp at hp, h⟩
 | p :: r, h => by
  cases hb : p.bad with
  | true =>
   obtain ⟨h1, h2⟩ := needL_sat _ (h.1 hb)
   exact .inl ⟨p, by simp, hb, h1, h2⟩
  | false =>
   rcases treeP_sat (h.2 hb) with ⟨q, h1, h2⟩ | ⟨h1, h2⟩
   ·exact .inl ⟨q, List.mem_cons_of_mem _ h1, h2⟩
   ·refine .inr ⟨fun q hq => ?_, h2⟩
    rcases List.mem_cons.1 hq with rfl | hq
    ·exact hb
    ·exact h1 q hq
theorem conj_flatMap {A : Type} {f : A -> List Prop} : {l : List A} -> conj (l.flatMap f) -> ∀ x ∈ l, conj (f x)
 | [], _, x, hx => by simp at hx
 | y :: r, h, x, hx => by
  rw [List.flatMap_cons] at h
  obtain ⟨h1, h2⟩ := conj_append.1 h
  rcases List.mem_cons.1 hx with rfl | hx
  ·exact h1
  ·exact conj_flatMap h2 x hx
theorem regionP_run (hC : CxOK P C) {id : Nat} : RunOK P E (.region id ops true) (regionP P C b ops.toList) := by
 intro s t h Q hq a w hi
 unfold regionP at h
 split at h <;> try (cases h; done)
 rename_i hstat
 split at h <;> try (cases h; done)
 rename_i es s' hrun
 split at h <;> try (cases h; done)
 rename_i hord
 simp only [Option.some.injEq] at h
 subst h
 have hn := runPan_n _ _ _ _ hrun
 have hst : StatOK s'.n ops := by rw [hn]; exact statOK_of hstat
 have hruns : RunsP P C b ops es s' (List.range' 0 ops.size) s := by
  have := runsP_of (es := es) ops.toList 0 s es hrun (fun i o hi => by simpa using hi) (fun i e hi => by simpa using hi)
  simpa using this
 have hlen : es.length = ops.size := by
  have := runPan_length _ _ _ _ hrun
  simpa using this
 obtain ⟨F, γ, hi⟩ := hi
 have hstart : ∀ w', InvG P E s a w' [] F γ -> RegP P E C b ops es (earlyD ops.toList es) s s' (List.range' 0 ops.size) a w' := fun w' hi' => by
  refine ⟨s, [], F, γ, hi', fun t => ?_, hruns, hn.symm, rfl, fun k e p hk hnot => ?_, fun _ => ⟨rfl, fun _ _ => rfl⟩⟩
  ·constructor
   ·intro hh; simp at hh
   ·rintro ⟨k, o, hk, hnot, _⟩
    exfalso
    apply hnot
    rw [List.mem_range'_1]
    have := (Array.getElem?_eq_some_iff.1 hk).1
    omega
  ·exfalso
   apply hnot
   rw [List.mem_range'_1]
   have := (List.getElem?_eq_some_iff.1 hk).1
   omega
 have key : ∀ pv : PV, (∀ (i : Nat) x, es[i]? = some x -> GoodE pv x) -> (∀ a' w', RegP P E C b ops es (earlyD ops.toList es) s s' [] a' w' -> After P E Q .normal a' w') ->
   ((∃ k : Nat, ∃ e p, es[k]? = some (e, some p) /\ p.bad = true) -> ∀ a' w', I P E ⟨s.n, keepS (earlyD ops.toList es) s.sl, s.mem, s.gs⟩ a' w' -> After P E Q (.panic [{ v := pv.val, recovered := false }]) a' w') -> (Code.region id ops true).wp P (After P E Q) a w := by
  intro pv hg hend hpan
  refine wp_region_any hC.mo ?_
  refine regP_any hC rfl hst hord.1 hord.2 hg hn.symm _ hend hpan ops.size (List.range' 0 ops.size) _ a _ (by simp) List.pairwise_lt_range' (by simp) (fun i hi' => ?_) (fun i hi' => ?_) (fun k hk hnot => ?_) (hstart _ (inv_drew hi))
  ·simp only [List.mem_range'_1, Array.getD_eq_getD_getElem?, Array.getElem?_replicate, hi', if_true, Option.getD_some, true_iff]
   omega
  ·rw [List.mem_range'_1] at hi'
   omega
  ·exfalso
   apply hnot
   rw [List.mem_range'_1]
   omega
 rcases treeP_sat hq with ⟨p, hp, hb, hall, hQ⟩ | ⟨hno, hgood⟩
 ·refine key p.pv (fun i x hx => goodN_ok (conj_flatMap hall x (List.mem_of_getElem? hx))) ?_ (fun _ a' w' hiw => ⟨.panic p.pv, _, rfl, hiw, hQ⟩)
  rintro a' w' ⟨st, W, F', γ', hinv, _, _, _, _, hdone, _⟩
  exfalso
  obtain ⟨x, hx, hxp⟩ := List.mem_filterMap.1 hp
  obtain ⟨i, hi⟩ := List.getElem?_of_mem hx
  obtain ⟨e, q⟩ := x
  simp only at hxp
  subst hxp
  have := hdone i e p hi (by simp)
  rw [hb] at this
  cases this
 ·obtain ⟨hneed, hq'⟩ := needs_sat _ hgood
  have hbadF : ∀ (k : Nat) e p, es[k]? = some (e, some p) -> p.bad = false := fun k e p hk => hno p (List.mem_filterMap.2 ⟨(e, some p), List.mem_of_getElem? hk, rfl⟩)
  refine key ⟨0, .i64, 0⟩ (fun i x hx => ?_) ?_ ?_
  ·obtain ⟨e, p⟩ := x
   have hne : conj e.need := hneed e (List.mem_map.2 ⟨(e, p), List.mem_of_getElem? hx, rfl⟩)
   cases p with
   | none => exact hne
   | some q => exact ⟨fun _ => hne, fun hb => by rw [hbadF i e q hx] at hb; cases hb⟩
  ·rintro a' w' ⟨st, W, F', γ', hinv, _, hr, _⟩
   have hr' : st = s' := hr
   subst hr'
   exact ⟨.normal, _, rfl, ⟨F', γ', inv_clr hinv⟩, hq'⟩
  ·rintro ⟨k, e, p, hk, hb⟩
   rw [hbadF k e p hk] at hb
   cases hb
end
def deferB : List Oper -> Option (FuncId × Tmp)
 | [⟨none, .defer ⟨.value (.func f), args, _⟩, _, _, _, none⟩] => match args.toList with
  | [.tmp tp] => some (f, tp)
  | _ => none
 | _ => none
def runDx (P : Program) (C : Cx) (run : St -> Option Tr) (T : TypeId) (k : IntKind) (fn : Func) (A : Code) (tp : Tmp) (ps : List PT) (rs : List Ty) (xs : denP ps) : Option (Fr (denL rs)) :=
 if (fn.name == "runtime.NumGoroutine") = false /\ ps.length <= fn.ntmps then match codeA P C 0 lam0 A 0 (startA fn.ntmps (encPs ps xs)) with
  | some (.leaf .normal s1) => match s1.sl tp with
   | .c (.ptr id 0) => match run ⟨s1.n, s1.sl, s1.mem, fun t => if t = 0 then .c (.ptr id 0) else .dead⟩ with
    | some t => frD P T k fn.results.toList rs t
    | none => none
   | _ => none
  | _ => none
 else none
section
variable {P : Program} {w w' : World} {E : Env} {F F' : Nat -> Prop} {γ γ' : Nat -> Value}
theorem dx_sound {C : Cx} (hC : CxOK P C) {run : St -> Option Tr} {f g : FuncId} {T : TypeId} {k : IntKind} {fn : Func} {A c : Code} {rid : Nat} {ops : Array Oper} {tp : Tmp} {ps : List PT} {rs : List Ty} {fr : denP ps -> Fr (denL rs)} (x0 : denP ps)
  (hf : P.funcs[f]? = some fn) (hb : fn.body = some (.seq A (.seq (.region rid ops false) c))) (hd : deferB ops.toList = some (g, tp)) (hT : TolOK P g T k) (hR : ∀ E, RunOK P E c run)
  (hrun : ∀ xs, runDx P C run T k fn A tp ps rs xs = some (fr xs)) : SoundCt P f ⟨ps, rs, fun xs => (fr xs).get, fun xs => [(fr xs).ok]⟩ := by
 have h0 := hrun x0
 unfold runDx at h0
 split at h0 <;> try (cases h0; done)
 rename_i hc
 refine ⟨enters hf hb hc.1, fun w F xs vs hbd hr hok => calls_of_wp_defers hf hb ?_⟩
 have hr' := hrun xs
 unfold runDx at hr'
 simp only [hc, and_self, if_true] at hr'
 split at hr' <;> try (cases hr'; done)
 rename_i s1 ht1
 split at hr' <;> try (cases hr'; done)
 rename_i id hsl
 split at hr' <;> try (cases hr'; done)
 rename_i t ht2
 have hlen : vs.length = ps.length := repPs_len hr
 have hstart := start_inv (D := []) (n := fn.ntmps) hbd (fun R => encPs_rep (R := R) hr) (by have := hc.2; omega)
 have hsz : (vs.toArray).size = vs.length := by simp
 rw [hsz]
 refine wp_seq (wp_mono (codeA_sound hC A 0 (lam0_ok A 0) ht1 (Q := fun e s => e = .normal /\ s = s1) ⟨rfl, rfl⟩ hstart) ?_)
 rintro e a1 w1 ⟨xe, s, rfl, ⟨F1, γ1, hi⟩, rfl, rfl⟩
 have hv0 := inv_rep hi tp
 rw [hsl] at hv0
 obtain ⟨_, b0, hR0, hv0⟩ := hv0
 refine wp_seq (wp_region ?_)
 unfold deferB at hd
 split at hd <;> try (cases hd; done)
 rename_i f0 args ats ty pos aft hops
 split at hd <;> try (cases hd; done)
 rename_i tp0 hargs
 simp only [Option.some.injEq, Prod.mk.injEq] at hd
 obtain ⟨rfl, rfl⟩ := hd
 obtain ⟨ol⟩ := ops
 simp only at hops
 subst hops
 have hargs' : args = #[.tmp tp0] := by
  obtain ⟨l⟩ := args
  simp only at hargs
  rw [hargs]
 subst hargs'
 have hev : a1.eval (.tmp tp0) = .pointer (some ⟨b0, 0, none⟩) := hv0
 have hexec : (execOp a1.eval ⟨none, .defer ⟨.value (.func f0), #[.tmp tp0], ats⟩, ty, pos, aft, none⟩).run P w1 = .ok (.defer { target := .fn (.func f0) #[], args := #[.pointer (some ⟨b0, 0, none⟩)] }) w1 := by
  have hef : a1.eval (.func f0) = .func (.func f0) #[] #[] := rfl
  simp [execOp, resolve, hev, hef, Deferred.ofValue]
 have hrange : List.range (#[(⟨none, .defer ⟨.value (.func f0), #[.tmp tp0], ats⟩, ty, pos, aft, none⟩ : Oper)] : Array Oper).size = [0] := rfl
 rw [hrange]
 show wpOps P _ _ [0] a1 w1
 unfold wpOps
 simp only [List.getElem?_toArray, List.getElem?_cons_zero]
 have hw : Region.wanted (⟨none, .defer ⟨.value (.func f0), #[.tmp tp0], ats⟩, ty, pos, aft, none⟩ : Oper) (yielded #[(⟨none, .defer ⟨.value (.func f0), #[.tmp tp0], ats⟩, ty, pos, aft, none⟩ : Oper)] a1.tmps) = true := rfl
 rw [if_pos hw]
 refine .inl ?_
 unfold Oper.wp
 rw [hexec]
 rw [Oper.upon_defer]
 simp only [wpOps]
 show Code.wp P c (bodyPostD P fn (Post w F rs (fr xs).get)) { a1 with defers := { target := .fn (.func f0) #[], args := #[.pointer (some ⟨b0, 0, none⟩)] } :: a1.defers } w1
 have hi' : InvG P ⟨w, F, fun _ => .pointer (some ⟨b0, 0, none⟩), [{ target := .fn (.func f0) #[], args := #[.pointer (some ⟨b0, 0, none⟩)] }], w.heap.size, Nat.le_refl _⟩ ⟨s.n, s.sl, s.mem, fun t => if t = 0 then .c (.ptr id 0) else .dead⟩ { a1 with defers := { target := .fn (.func f0) #[], args := #[.pointer (some ⟨b0, 0, none⟩)] } :: a1.defers } w1 [] F1 γ1 := by
  refine ⟨hi.n, ?_, hi.step, hi.mem, hi.sl, hi.hg, fun t => ?_⟩
  ·show _ :: a1.defers = [_]
   rw [hi.df]
  ·show RepA P w1 F1 _ (if t = 0 then .c (.ptr id 0) else .dead) _
   split
   ·exact ⟨rfl, b0, hR0, rfl⟩
   ·trivial
 have hwp := hR ⟨w, F, fun _ => .pointer (some ⟨b0, 0, none⟩), [{ target := .fn (.func f0) #[], args := #[.pointer (some ⟨b0, 0, none⟩)] }], w.heap.size, Nat.le_refl _⟩ _ _ ht2 _ (frD_sat hr' hok) _ _ ⟨F1, γ1, hi'⟩
 refine wp_mono hwp ?_
 rintro e a2 w2 ⟨xe, s2, rfl, ⟨F2, γ2, hi2⟩, hx⟩
 have hinv : ∀ W, (invoke (.fn (.func f0) #[]) #[.pointer (some ⟨b0, 0, none⟩)]).run P W = .ok (.enter f0 #[.pointer (some ⟨b0, 0, none⟩)]) W := fun W => by
  have := hT.enter #[.pointer (some ⟨b0, 0, none⟩)] W
  simp [invoke, this]
 have hfin : (∃ n, endA P fn.results.toList rs s2 = some (Fr.needL n (.val (fr xs).get)) /\ conj n) -> Leaves P fn a2.tmps (Post w F rs (fr xs).get) a2.defers .returning w2 := by
  rintro ⟨n, hend, hn⟩
  rw [hi2.df]
  refine leaves_cons (by simp) (hinv w2) ((hT.idle _ w2).mono ?_)
  rintro e u' w' ⟨⟨v, rfl⟩, rfl, rfl⟩
  exact endA_post hi2 rfl hend hn
 cases xe with
 | normal => exact hfin hx
 | ret => exact hfin hx
 | exit _ => exact hx.elim
 | val _ => exact hx.elim
 | jump _ => exact hx.elim
 | panic p =>
  obtain ⟨s', n, hs', hin, hend, hn⟩ := hx
  obtain ⟨hty, hk, b, tyb, old, hG, hheap, hi3⟩ := told_inv hi2 hs' hin
  have hG' : (Value.pointer (some ⟨b0, 0, none⟩)) = .pointer (some ⟨b, 0, none⟩) := hG
  simp only [Value.pointer.injEq, Option.some.injEq, Addr.mk.injEq, and_true] at hG'
  subst hG'
  show Leaves P fn a2.tmps _ a2.defers (.panicking [{ v := .iface p.ty (.int p.k p.n), recovered := false }]) w2
  rw [hi2.df, hty, hk]
  refine leaves_cons (by simp) (hinv w2) ((hT.told b0 tyb old p.n w2 hheap).mono ?_)
  rintro e u' w' ⟨⟨v, rfl⟩, rfl, rfl⟩
  exact endA_post hi3 rfl hend hn
end
end Go.Ab

namespace Go.Ab
open Go Go.RowKit
section
variable {P : Program} {E : Env}
theorem DoesJ.scope2 {c rest : Code} {L0 L N Eo R : LS} {n id l : Nat} {f0 : L0.X -> Fr (Rd L.X Eo.X R.X)} {f : L.X -> Fr (Rd L.X Eo.X R.X)} (hf : findLabel c l = some rest) (h1 : DoesJ P l c L0 ⟨n, id, L, Eo, R⟩ f0) (h2 : DoesJ P l rest L ⟨n, id, L, Eo, R⟩ f)
  {F0 : L0.X -> Fr (Rd N.X Eo.X R.X)} {F : L.X -> Fr (Rd N.X Eo.X R.X)} {inv : L.X -> Prop} {μ : L.X -> Nat}
  (hlaw0 : ∀ x, ∀ Q : Rd N.X Eo.X R.X -> Prop, (F0 x).satP Q -> (f0 x).satP fun
   | .next x' => inv x' /\ (F x').satP Q
   | .out y => Q (.out y)
   | .back z => Q (.back z)
   | .pan p => Q (.pan p))
  (hlaw : ∀ x, inv x -> ∀ Q : Rd N.X Eo.X R.X -> Prop, (F x).satP Q -> (f x).satP fun
   | .next x' => inv x' /\ μ x' < μ x /\ (F x').satP Q
   | .out y => Q (.out y)
   | .back z => Q (.back z)
   | .pan p => Q (.pan p)) : Does P (.scope c) L0 ⟨n, id, N, Eo, R⟩ F0 := by
 intro E a w x Q hi hq
 have hmono : ∀ {J J' : Act -> World -> Prop} {c' : Code} {a : Act} {w : World}, (∀ a w, J a w -> J' a w) -> c'.wp P (Exit.jump l J (AfterR P E ⟨n, id, N, Eo, R⟩ Q)) a w -> c'.wp P (Exit.jump l J' (AfterR P E ⟨n, id, N, Eo, R⟩ Q)) a w := by
  intro J J' c' a w hJ h
  refine wp_mono h fun e a' w' he => ?_
  cases e with
  | goto l' => exact ⟨he.1, hJ _ _ he.2⟩
  | _ => exact he
 refine wp_scope_jumps l (fun a w => ∃ m, ∃ x, inv x /\ μ x = m /\ I P E (L.tpl n x) a w /\ (F x).satP Q) (fun a w => leastOf fun m => ∃ x, inv x /\ μ x = m /\ I P E (L.tpl n x) a w /\ (F x).satP Q) hf ?_ ?_
 ·refine wp_mono (h1 E a w x _ hi (hlaw0 x Q hq)) ?_
  rintro e a' w' ⟨r, hr, hm⟩
  cases r with
  | next x' =>
   obtain ⟨rfl, hi'⟩ := hm
   exact ⟨rfl, ⟨μ x', x', hr.1, rfl, hi', hr.2⟩⟩
  | out y =>
   obtain ⟨rfl, hi'⟩ := hm
   exact ⟨.out y, hr, rfl, hi'⟩
  | back z =>
   obtain ⟨rfl, hi'⟩ := hm
   exact ⟨.back z, hr, rfl, hi'⟩
  | pan v =>
   obtain ⟨rfl, hi'⟩ := hm
   exact ⟨.pan v, hr, rfl, hi'⟩
 ·rintro a w ⟨m, hm⟩
  obtain ⟨⟨x', q1, q2, q3, q4⟩, _⟩ := leastOf_spec (p := fun m => ∃ x, inv x /\ μ x = m /\ I P E (L.tpl n x) a w /\ (F x).satP Q) ⟨m, hm⟩
  refine wp_mono (h2 E a w x' _ q3 (hlaw x' q1 Q q4)) ?_
  rintro e a1 w1 ⟨r, hr, hm1⟩
  cases r with
  | next y =>
   obtain ⟨rfl, hi'⟩ := hm1
   refine ⟨rfl, ⟨μ y, y, hr.1, rfl, hi', hr.2.2⟩, ?_⟩
   rw [← q2]
   exact Nat.lt_of_le_of_lt ((leastOf_spec (p := fun m => ∃ x, inv x /\ μ x = m /\ I P E (L.tpl n x) a1 w1 /\ (F x).satP Q) ⟨μ y, y, hr.1, rfl, hi', hr.2.2⟩).2 (μ y) ⟨y, hr.1, rfl, hi', hr.2.2⟩) hr.2.1
  | out y =>
   obtain ⟨rfl, hi'⟩ := hm1
   exact ⟨.out y, hr, rfl, hi'⟩
  | back z =>
   obtain ⟨rfl, hi'⟩ := hm1
   exact ⟨.back z, hr, rfl, hi'⟩
  | pan v =>
   obtain ⟨rfl, hi'⟩ := hm1
   exact ⟨.pan v, hr, rfl, hi'⟩
end
end Go.Ab

namespace Go.Ab
open Go Go.RowKit
structure GrowOK (P : Program) (f : FuncId) (e : TypeId) (T : Ty) (bytes : Nat) : Prop where
 enters : ∀ args w, (callFunc f args).run P w = .ok (.enter f args) w
 calls : ∀ (w : World) (n : Nat), n <= maxLen -> n * bytes <= 140737488355328 -> Calls P f #[.slice none 0 0, .int .i64 n] w fun en w' =>
  ∃ v, en = .returned v /\ w.grownBy w' none /\ w'.ownsRow w.heap.size e T.size v 0 []
def growK (f : FuncId) (e : TypeId) (T : Ty) (bytes : Nat) (d : Nat) (g : FuncId) (args : List AV) (s : St) : Option Tr :=
 if g = f then match args, s.mem d with
  | [.c .nil, .c (.int .i64 n)], none => some (needL [0 <= n /\ n <= maxLen /\ n * bytes <= 140737488355328] (.leaf (.val (.c (.own d))) ⟨s.n, s.sl, upd s.mem d (.arr e T []), s.gs⟩))
  | _, _ => none
 else none
theorem alloc_old_ab (w : World) (o : Obj) (i : Nat) (h : i < w.heap.size) : (w.alloc o).heap[i]? = w.heap[i]? := by
 first
  | exact heap_alloc_old w o i h
  | exact heap_alloc_old w o h
theorem ownsRow_low {w : World} {B B' : Nat} {e : TypeId} {size n : Nat} {v : Value} {xs : List Value} (h : w.ownsRow B e size v n xs) (hb : B' <= B) : w.ownsRow B' e size v n xs :=
 ownsRow_base h fun g hg => Nat.le_trans hb (h.lt g hg).1
theorem growK_ok {P : Program} {f : FuncId} {e : TypeId} {T : Ty} {bytes : Nat} (h : GrowOK P f e T bytes) : InlOK P (growK f e T bytes) := by
 intro d g args s t ht
 unfold growK at ht
 split at ht <;> try (cases ht; done)
 rename_i hg
 subst hg
 split at ht <;> try (cases ht; done)
 rename_i n hmd
 simp only [Option.some.injEq] at ht
 subst ht
 refine ⟨h.enters, fun E a w F γ vs Q hi hr hq => ?_⟩
 obtain ⟨⟨h0, h1, h2⟩, hqv⟩ := hq
 match vs, hr with
 | [v1, v2], ⟨⟨_, hv1⟩, ⟨_, hv2, _⟩, _⟩ =>
  have e1 : v1 = .slice none 0 0 := hv1
  have e2 : v2 = .int .i64 n := hv2
  subst e1
  subst e2
  obtain ⟨m, rfl⟩ : ∃ m : Nat, n = m := ⟨n.toNat, by omega⟩
  have h3 : ((m * bytes : Nat) : Int) <= 140737488355328 := by rw [Int.natCast_mul]; exact h2
  have h4 : m * bytes <= 140737488355328 := by omega
  refine (h.calls w m (by omega) h4).mono fun en w2 hp => ?_
  obtain ⟨v, rfl, hgr, hown⟩ := hp
  have hBs := Step.size' hi
  have hlow : w2.ownsRow E.B e T.size v ([] : List T.den).length [] := ownsRow_low hown hBs
  obtain ⟨s1, m1⟩ := new_arr (v := v) (l := ([] : List T.den)) (xs := []) hi.mem (inv_bd hi) hBs hmd hgr hlow (fun g hg => (hown.lt g hg).1) (fun i x hx => by simp at hx)
  have hinv : InvG P E ⟨s.n, s.sl, upd s.mem d (.arr e T []), s.gs⟩ a w2 [] F (updγ γ d v) := by
   refine ⟨hi.n, hi.df, ?_, m1, fun t => (hi.sl t).mono s1.hF s1.hw s1.hR, hi.hg, fun t => s1.repA (hi.gh t)⟩
   obtain ⟨γ0, h0⟩ := hi.step
   exact ⟨γ0, h0.trans s1⟩
  exact ⟨.val (.c (.own d)), _, F, _, hqv, hinv, v, rfl, own_new (own_one hown)⟩
end Go.Ab

namespace Go.Ab
open Go Go.RowKit
section
variable {F : Fence} {n : Nat} {P : Program} {w : World}
end
end Go.Ab
namespace Go.Proofs.Ytplkgghjldndkaa
open Go Go.Ab Go.RowKit Go.Proofs Go.Shelf
attribute [local go_sem] Oper.semAt_some
theorem grow_row (w : World) (m : Nat) (z : Array Value) (hz : z.size = 9) (h1 : m <= maxLen) (e : TypeId) :
  w.grownBy ((w.alloc (.cells (Builtin.zeroCells z m ++ Builtin.zeroCells z (grownCap w m 0 e - m)) e)).drew) none /\
   ((w.alloc (.cells (Builtin.zeroCells z m ++ Builtin.zeroCells z (grownCap w m 0 e - m)) e)).drew).ownsRow w.heap.size e 9 (.slice (some ⟨w.heap.size, 0, none⟩) 0 (grownCap w m 0 e)) 0 [] := by
 have hge := grownCap_ge w m 0 e
 have hcm : grownCap w m 0 e <= maxLen := grownCap_le_maxLen w m 0 e h1
 refine ⟨⟨rfl, rfl, rfl, by simp, fun b hb _ => alloc_old_ab w.drew _ b hb⟩, rfl, .inr ⟨w.heap.size, _, _, rfl, Nat.le_refl _, heap_alloc_new w.drew _, Nat.zero_le _, hcm, ?_, ?_⟩⟩
 ·simp only [Array.size_append, size_zeroCells, hz, ← Nat.add_mul]
  congr 1
  omega
 ·rfl
set_option maxRecDepth 100000 in
theorem growBytes : Try.prog.types[46].bytes = 88 := by decide
theorem slicecap0 (m : Nat) (h : 0 < m) : Builtin.nextslicecap m 0 = m := by
 unfold Builtin.nextslicecap
 rw [if_pos (by omega)]
set_option maxRecDepth 100000 in
set_option maxHeartbeats 2000000 in
theorem grow_in (n : Nat) (m : Nat) (h1 : m <= maxLen) (h2 : m * 88 <= 140737488355328) (w : World) :
  CallsIn Fence.wide n Try.prog 89 #[.slice none 0 0, .int .i64 m] w fun e w' =>
   ∃ v, e = .returned v /\ w.grownBy w' none /\ w'.ownsRow w.heap.size 46 9 v 0 [] := by
 have hb : Try.t46.bytes = 88 := growBytes
 refine callsIn_of_wp Try.func89 rfl trivial ?_ rfl
 simp only [Try.ntmps89, List.size_toArray, List.length_cons, List.length_nil, Nat.reduceAdd, Nat.reduceSub, Array.replicate_succ, Array.replicate_zero, List.push_toArray, List.append_toArray, List.nil_append, List.cons_append]
 gi_wp2
 all_goals first
  | (exfalso; simp only [hb] at *; omega)
  | (exfalso; rename_i hlt _ _ _ _ _ ; rw [slicecap0 _ (by omega), hb] at *; omega)
  | (go_ret; exact ⟨_, rfl, World.grownBy.refl _ _, World.ownsRow_nil _ _ _ _⟩)
  | (go_ret; exact ⟨_, rfl, grow_row w m _ rfl h1 _⟩)
theorem growC_ok : GrowOK Try.prog 89 46 changeT 88 :=
 ⟨enters (fn := Try.f89) (by kernel_rfl) rfl rfl, fun w n h1 h2 => (callsIn_wide.1 (grow_in 1 n h1 h2 w))⟩
end Go.Proofs.Ytplkgghjldndkaa
namespace Go.Proofs.Ytplkgghjldndkaa
open Go Go.Ab Go.RowKit Go.Proofs
abbrev lls : Ty := .sl (.sl changeT)
noncomputable def CCc : Cx := cxK [] [] (growK 89 46 changeT 88)
theorem CCc_ok : CxOK Try.prog CCc := cxK_ok (cs := []) (ps := []) mixed trivial trivial (growK_ok growC_ok)
abbrev ptCc1 : Pt := ⟨36, 0, ⟨[(0, .d lls), (9, .d lls), (10, .d i64), (11, .d i64), (3, .d i64)], []⟩, ⟨[(0, .d lls), (3, .d i64)], []⟩, ⟨[], []⟩⟩
abbrev ptCc2 : Pt := ⟨36, 2, ⟨[(25, .d lls), (26, .d i64), (27, .d i64)], [.o 6 46 changeT]⟩, ⟨[], [.o 6 46 changeT]⟩, ⟨[], []⟩⟩
def frCc1 (x : ptCc1.M.X) : Fr ptCc1.Out :=
 let l0 : List (List changeT.den) := x.1.1; let l : List (List changeT.den) := x.1.2.1; let n : Int := x.1.2.2.1; let i : Int := x.1.2.2.2.1; let s : Int := x.1.2.2.2.2.1
 Fr.br (decide (i < n))
  (Fr.need (0 <= i /\ i < (l.length : Int))
   (Fr.br (decide (IntKind.i64.wrap (s + ((List.length (α := changeT.den) (l.getD i.toNat []) : Nat) : Int)) < 0)) (Fr.need False (Fr.val (Rd.back ((), ()))))
    (Fr.val (Rd.next ((l0, l, n, IntKind.i64.wrap (i + 1), IntKind.i64.wrap (s + ((List.length (α := changeT.den) (l.getD i.toNat []) : Nat) : Int)), ()), ())))))
  (Fr.val (Rd.out ((l0, s, ()), ())))
theorem semCc1 : Does Try.prog (loopF Try.f61 0) ptCc1.M ptCc1 frCc1 :=
 Does.of_run CCc_ok (bs := 0) (Λ := lam0) rfl rfl rfl (fun E => lam0_ok _ 0) (fun x => by kernel_rfl)
def frCc2 (x : ptCc2.M.X) : Fr ptCc2.Out :=
 let l : List (List changeT.den) := x.1.1; let n : Int := x.1.2.1; let i : Int := x.1.2.2.1; let o : List changeT.den := x.2.1
 Fr.br (decide (i < n))
  (Fr.need (0 <= i /\ i < (l.length : Int))
   (Fr.need (roomC o.length (List.length (α := changeT.den) (l.getD i.toNat [])))
    (Fr.val (Rd.next ((l, n, IntKind.i64.wrap (i + 1), ()), (o ++ l.getD i.toNat [], ()))))))
  (Fr.val (Rd.out ((), (o, ()))))
theorem semCc2 : Does Try.prog (loopF Try.f61 1) ptCc2.M ptCc2 frCc2 :=
 Does.of_run CCc_ok (bs := 0) (Λ := lam0) rfl rfl rfl (fun E => lam0_ok _ 0) (fun x => by kernel_rfl)
structure InvCc1 (l : List (List changeT.den)) (n i s : Int) : Prop where
 i0 : 0 <= i
 il : i <= n
 nl : n = l.length
 big : (l.length : Int) <= 9223372036854775807
 few : l.flatten.length <= 1000000
 s0 : s = ((l.take i.toNat).flatten.length : Nat)
def FCc1 (x : ptCc1.M.X) : Fr ptCc1.Out := Fr.need (x.1.1 = x.1.2.1 /\ InvCc1 x.1.2.1 x.1.2.2.1 x.1.2.2.2.1 x.1.2.2.2.2.1) (Fr.val (Rd.out ((x.1.1, ((List.flatten (α := changeT.den) x.1.2.1).length : Int), ()), ())))
theorem take_flat (l : List (List changeT.den)) {k : Nat} (hk : k < l.length) : (l.take (k + 1)).flatten = (l.take k).flatten ++ l.getD k [] := by
 rw [List.take_add_one, List.flatten_append, List.getElem?_eq_getElem hk, List.getD_eq_getElem?_getD, List.getElem?_eq_getElem hk]
 simp
theorem take_flat_le (l : List (List changeT.den)) (k : Nat) : (l.take k).flatten.length <= l.flatten.length := by
 conv => rhs; rw [← List.take_append_drop k l]
 rw [List.flatten_append, List.length_append]
 omega
theorem lawCc1 (l0 l : List (List changeT.den)) (n i s : Int) (hinv : l0 = l /\ InvCc1 l n i s) (Q : ptCc1.Out -> Prop) (hq : Q (Rd.out ((l0, (l.flatten.length : Int), ()), ()))) : (frCc1 ((l0, l, n, i, s, ()), ())).satP fun
   | .next x' => (x'.1.1 = x'.1.2.1 /\ InvCc1 x'.1.2.1 x'.1.2.2.1 x'.1.2.2.2.1 x'.1.2.2.2.2.1) /\ (x'.1.2.2.1 - x'.1.2.2.2.1).toNat < (n - i).toNat /\ (FCc1 x').satP Q
   | .out y => Q (.out y)
   | .back z => Q (.back z)
   | .pan p => Q (.pan p) := by
 obtain ⟨rfl, h0, h1, h2, h3, h4, h5⟩ := hinv
 obtain ⟨k, rfl⟩ : ∃ k : Nat, i = k := ⟨i.toNat, by omega⟩
 subst h2
 dsimp only [frCc1, Fr.satP]
 rw [Int.toNat_natCast] at h5 ⊢
 refine ⟨fun hi => ?_, fun hi => ?_⟩
 ·have hk : k < l0.length := by have : (k : Int) < (l0.length : Int) := of_decide_eq_true hi; omega
  have hf := take_flat l0 hk
  have hle := take_flat_le l0 (k + 1)
  have hlen := congrArg List.length hf
  rw [List.length_append] at hlen
  have w1 : IntKind.i64.wrap ((k : Int) + 1) = ((k + 1 : Nat) : Int) := by rw [i64w (by omega)]; omega
  have w2 : IntKind.i64.wrap (s + ((l0.getD k []).length : Int)) = (((l0.take (k + 1)).flatten.length : Nat) : Int) := by rw [i64w (by omega)]; omega
  rw [w1, w2]
  refine ⟨⟨by omega, by omega⟩, fun hn => ?_, fun _ => ?_⟩
  ·have : ((((l0.take (k + 1)).flatten.length : Nat) : Int) < 0) := of_decide_eq_true hn
   omega
  ·have hI : InvCc1 l0 l0.length ((k + 1 : Nat) : Int) (((l0.take (k + 1)).flatten.length : Nat) : Int) := ⟨by omega, by omega, rfl, h3, h4, by rw [Int.toNat_natCast]⟩
   exact ⟨⟨rfl, hI⟩, by omega, ⟨rfl, hI⟩, hq⟩
 ·have hk : ¬ (k : Int) < (l0.length : Int) := of_decide_eq_false hi
  rw [List.take_of_length_le (by omega)] at h5
  rw [h5]
  exact hq
theorem loopCc1 : Does Try.prog (.loop (loopF Try.f61 0)) ptCc1.M ptCc1 FCc1 := by
 refine Does.loop (n := 36) (id := 0) semCc1 (inv := fun x => x.1.1 = x.1.2.1 /\ InvCc1 x.1.2.1 x.1.2.2.1 x.1.2.2.2.1 x.1.2.2.2.2.1) (μ := fun x => (x.1.2.2.1 - x.1.2.2.2.1).toNat) ?_ (fun x Q h => h.1)
 rintro ⟨⟨l0, l, n, i, s, _⟩, _⟩ hinv Q hq
 exact lawCc1 l0 l n i s hinv Q hq.2
structure InvCc2 (l : List (List changeT.den)) (n i : Int) (o : List changeT.den) : Prop where
 i0 : 0 <= i
 il : i <= n
 nl : n = l.length
 big : (l.length : Int) <= 9223372036854775807
 few : l.flatten.length <= 1000000
 o0 : o = (l.take i.toNat).flatten
def FCc2 (x : ptCc2.M.X) : Fr ptCc2.Out := Fr.need (InvCc2 x.1.1 x.1.2.1 x.1.2.2.1 x.2.1) (Fr.val (Rd.out ((), (List.flatten (α := changeT.den) x.1.1, ()))))
theorem room_mil {n m : Nat} (h : n + m <= 1000000) : roomC n m := by
 refine ⟨by unfold maxLen; omega, Nat.le_trans (Nat.mul_le_mul h changeBytes) (by decide)⟩
theorem lawCc2 (l : List (List changeT.den)) (n i : Int) (o : List changeT.den) (hinv : InvCc2 l n i o) (Q : ptCc2.Out -> Prop) (hq : Q (Rd.out ((), (l.flatten, ())))) : (frCc2 ((l, n, i, ()), (o, ()))).satP fun
   | .next x' => InvCc2 x'.1.1 x'.1.2.1 x'.1.2.2.1 x'.2.1 /\ (x'.1.2.1 - x'.1.2.2.1).toNat < (n - i).toNat /\ (FCc2 x').satP Q
   | .out y => Q (.out y)
   | .back z => Q (.back z)
   | .pan p => Q (.pan p) := by
 obtain ⟨h0, h1, h2, h3, h4, h5⟩ := hinv
 obtain ⟨k, rfl⟩ : ∃ k : Nat, i = k := ⟨i.toNat, by omega⟩
 subst h2
 dsimp only [frCc2, Fr.satP]
 rw [Int.toNat_natCast] at h5 ⊢
 subst h5
 refine ⟨fun hi => ?_, fun hi => ?_⟩
 ·have hk : k < l.length := by have : (k : Int) < (l.length : Int) := of_decide_eq_true hi; omega
  have hf := take_flat l hk
  have hle := take_flat_le l (k + 1)
  have hlen := congrArg List.length hf
  rw [List.length_append] at hlen
  have w1 : IntKind.i64.wrap ((k : Int) + 1) = ((k + 1 : Nat) : Int) := by rw [i64w (by omega)]; omega
  rw [w1, ← hf]
  have hI : InvCc2 l l.length ((k + 1 : Nat) : Int) (l.take (k + 1)).flatten := ⟨by omega, by omega, rfl, h3, h4, by rw [Int.toNat_natCast]⟩
  exact ⟨⟨by omega, by omega⟩, room_mil (by omega), hI, by omega, hI, hq⟩
 ·have hk : ¬ (k : Int) < (l.length : Int) := of_decide_eq_false hi
  rw [List.take_of_length_le (by omega)]
  exact hq
theorem loopCc2 : Does Try.prog (.loop (loopF Try.f61 1)) ptCc2.M ptCc2 FCc2 := by
 refine Does.loop (n := 36) (id := 2) semCc2 (inv := fun x => InvCc2 x.1.1 x.1.2.1 x.1.2.2.1 x.2.1) (μ := fun x => (x.1.2.1 - x.1.2.2.1).toNat) ?_ (fun x Q h => h.1)
 rintro ⟨⟨l, n, i, _⟩, o, _⟩ hinv Q hq
 exact lawCc2 l n i o hinv Q hq.2
def cConcat : Ct := ⟨[.d lls], [.sl changeT], fun x => (List.flatten (α := changeT.den) x.1, ()), fun x => [(List.flatten (α := changeT.den) x.1).length <= 1000000]⟩
def frConcat (x : denP [.d lls]) : Fr (denL [.sl changeT]) :=
 let l : List (List changeT.den) := x.1
 Fr.need (l = l /\ InvCc1 l l.length 0 0)
  (Fr.need (0 <= ((l.flatten.length : Nat) : Int) /\ ((l.flatten.length : Nat) : Int) <= maxLen /\ ((l.flatten.length : Nat) : Int) * (88 : Nat) <= 140737488355328)
   (Fr.need (InvCc2 l l.length 0 []) (Fr.val (l.flatten, ()))))
theorem concat_run : SoundCt Try.prog 61 ⟨[.d lls], [.sl changeT], fun xs => (frConcat xs).get, fun xs => [(frConcat xs).ok]⟩ :=
 fn_sound CCc_ok (Λ := (fun k => if k = 0 then ptCc1.han CCc.Γ ptCc1.M FCc1 else ptCc2.han CCc.Γ ptCc2.M FCc2)) (fn := Try.f61) (fr := frConcat) (ps := [.d lls]) (rs := [.sl changeT]) ([], ()) (by kernel_rfl)
  (fun c E hc => lam2f hc (by kernel_rfl) (b0 := loopF Try.f61 0) (b1 := loopF Try.f61 1) (by kernel_rfl) (by kernel_rfl) (Does.han CCc_ok rfl loopCc1) (Does.han CCc_ok rfl loopCc2)) (fun x => by kernel_rfl)
theorem concat_ok : SoundCt Try.prog 61 cConcat :=
 convF concat_run _ _ (fun w F x vs hr hok => by
  obtain ⟨l, _⟩ := x
  obtain ⟨v, vs', rfl, hv, _⟩ := hr
  have hlen : (List.length (α := List changeT.den) l : Int) <= 9223372036854775807 := len_big (RepT.wf hv.2.2).1
  have hf : (List.flatten (α := changeT.den) l).length <= 1000000 := hok
  refine Fr.need_ ⟨rfl, ⟨Int.le_refl _, Int.natCast_nonneg _, rfl, hlen, hf, rfl⟩⟩ (Fr.need_ ⟨by omega, ?_, ?_⟩ (Fr.need_ ⟨Int.le_refl _, Int.natCast_nonneg _, rfl, hlen, hf, rfl⟩ ⟨trivial, rfl⟩))
  ·show ((List.flatten (α := changeT.den) l).length : Int) <= (maxLen : Int)
   unfold maxLen
   omega
  ·show ((List.flatten (α := changeT.den) l).length : Int) * ((88 : Nat) : Int) <= 140737488355328
   omega)
noncomputable def tnC : Code := (Try.f60.body.map scopeOf).getD .skip
noncomputable def tnA : Code := (Try.f60.body.map headOf).getD .skip
noncomputable def tnR : Code := (findLabel tnC 0).getD .skip
noncomputable def CTn : Cx := cx [(72, cOrder)] []
theorem CTn_ok : CxOK Try.prog CTn := cx_ok mixed ⟨order_ok, trivial⟩ trivial
def MTn0 : LS := ⟨[], [.x 1 35 histT, .r 1 1 0]⟩
def MTn : LS := ⟨[(4, .d (.sl i64)), (5, .d i64)], [.x 1 35 histT, .r 1 1 0]⟩
def ptTn : Pt := ⟨34, 0, MTn, ⟨[], []⟩, ⟨[(2, .d i64), (3, .d .bool)], []⟩⟩
def ptTn0 : Pt := ⟨34, 0, MTn0, ⟨[], []⟩, ⟨[(2, .d i64), (3, .d .bool)], []⟩⟩
def fTn (x : MTn.X) : Fr ptTn.Out :=
 let l : List Int := x.1.1; let k : Int := x.1.2.1; let h : histT.den := x.2.1
 let v : Int := l.getD (IntKind.i64.wrap (k - 1)).toNat 0
 Fr.br (k == 0) (Fr.val (Rd.back ((0, false, ()), ())))
  (Fr.need (0 <= IntKind.i64.wrap (k - 1) /\ IntKind.i64.wrap (k - 1) < (l.length : Int))
   (Fr.need (0 <= v /\ v < ((chL h).length : Int))
    (Fr.br (bif ((chL h).getD v.toNat changeT.dflt).2.2.1 != 3 then ((chL h).getD v.toNat changeT.dflt).2.2.1 != 4 else false)
     (Fr.val (Rd.next ((l, IntKind.i64.wrap (k - 1), ()), (h, ()))))
     (Fr.need (0 <= IntKind.i64.wrap (k - 1) /\ IntKind.i64.wrap (k - 1) < (l.length : Int)) (Fr.val (Rd.back ((v, true, ()), ())))))))
def fTn0 (x : MTn0.X) : Fr ptTn.Out :=
 let h : histT.den := x.2.1
 Fr.need (((chL h).length : Int) <= 1000000) (fTn ((orderL h, ((orderL h).length : Int), ()), (h, ())))
theorem semTn0 : DoesJ Try.prog 0 tnC MTn0 ptTn fTn0 := DoesJ.of_run CTn_ok (bs := 0) rfl rfl rfl (fun _ => lam0_ok _ 0) (fun x => by kernel_rfl)
theorem semTn : DoesJ Try.prog 0 tnR MTn ptTn fTn := DoesJ.of_run CTn_ok (bs := 0) rfl rfl rfl (fun _ => lam0_ok _ 0) (fun x => by kernel_rfl)
def isT (c : changeT.den) : Bool := c.2.2.1 == 3 || c.2.2.1 == 4
def turnG (h : histT.den) (l : List Int) : Nat -> Option Int
 | 0 => none
 | k + 1 => if isT (chAt h (l.getD k 0)) = true then some (l.getD k 0) else turnG h l k
structure InvTn (l : List Int) (k : Int) (h : histT.den) : Prop where
 k0 : 0 <= k
 kl : k <= l.length
 big : l.length <= 1000000
 mem : ∀ v ∈ l, 0 <= v /\ v < ((chL h).length : Int)
def outTn (o : Option Int) : Rd MTn0.X (LS.X ⟨[], []⟩) (LS.X ⟨[(2, .d i64), (3, .d .bool)], []⟩) := Rd.back ((o.getD 0, o.isSome, ()), ())
def FTn (x : MTn.X) : Fr ptTn0.Out := Fr.need (InvTn x.1.1 x.1.2.1 x.2.1) (Fr.val (outTn (turnG x.2.1 x.1.1 (x.1.2.1 : Int).toNat)))
def FTn0 (x : MTn0.X) : Fr ptTn0.Out := Fr.need (((chL x.2.1).length : Int) <= 1000000) (Fr.val (outTn (turnG x.2.1 (orderL x.2.1) (orderL x.2.1).length)))
theorem kind_isT (c : changeT.den) : (bif c.2.2.1 != 3 then c.2.2.1 != 4 else false) = !isT c := by
 unfold isT
 show (bif !(c.2.2.1 == 3) then !(c.2.2.1 == 4) else false) = !(c.2.2.1 == 3 || c.2.2.1 == 4)
 cases c.2.2.1 == 3 <;> cases c.2.2.1 == 4 <;> rfl
theorem lawTn (l : List Int) (k : Int) (h : histT.den) (hinv : InvTn l k h) (Q : ptTn0.Out -> Prop) (hq : Q (outTn (turnG h l k.toNat))) : (fTn ((l, k, ()), (h, ()))).satP fun
   | .next x' => InvTn x'.1.1 x'.1.2.1 x'.2.1 /\ (x'.1.2.1 : Int).toNat < k.toNat /\ (FTn x').satP Q
   | .out y => Q (.out y)
   | .back z => Q (.back z)
   | .pan p => Q (.pan p) := by
 obtain ⟨h0, h1, h2, h3⟩ := hinv
 obtain ⟨n, rfl⟩ : ∃ n : Nat, k = n := ⟨k.toNat, by omega⟩
 rw [Int.toNat_natCast] at hq ⊢
 cases n with
 | zero => exact ⟨fun _ => hq, fun hb => (by cases hb)⟩
 | succ m =>
  have w1 : IntKind.i64.wrap (((m + 1 : Nat) : Int) - 1) = (m : Int) := by rw [i64w (by omega)]; omega
  have hm : m < l.length := by omega
  dsimp only [fTn, Fr.satP]
  rw [w1, Int.toNat_natCast]
  have hv : l.getD m 0 = l[m] := by rw [List.getD_eq_getElem?_getD, List.getElem?_eq_getElem hm]; rfl
  have hmem := h3 (l.getD m 0) (by rw [hv]; exact List.getElem_mem hm)
  have hb : 0 <= (m : Int) /\ (m : Int) < (l.length : Int) := ⟨by omega, by omega⟩
  have hkd := kind_isT (chAt h (l.getD m 0))
  refine ⟨fun hz => ?_, fun _ => ⟨hb, hmem, fun hk => ?_, fun hk => ⟨hb, ?_⟩⟩⟩
  ·exfalso
   have : ((m + 1 : Nat) : Int) = 0 := eq_of_beq hz
   omega
  ·have ht : isT (chAt h (l.getD m 0)) = false := by
    have hk' : (bif (chAt h (l.getD m 0)).2.2.1 != 3 then (chAt h (l.getD m 0)).2.2.1 != 4 else false) = true := hk
    rw [hkd] at hk'
    simpa using hk'
   have hI : InvTn l (m : Int) h := ⟨by omega, by omega, h2, h3⟩
   refine ⟨hI, Nat.lt_succ_self m, hI, ?_⟩
   show Q (outTn (turnG h l (m : Int).toNat))
   rw [Int.toNat_natCast]
   have e : turnG h l (m + 1) = turnG h l m := if_neg (by rw [ht]; decide)
   rw [← e]
   exact hq
  ·have ht : isT (chAt h (l.getD m 0)) = true := by
    have hk' : (bif (chAt h (l.getD m 0)).2.2.1 != 3 then (chAt h (l.getD m 0)).2.2.1 != 4 else false) = false := hk
    rw [hkd] at hk'
    simpa using hk'
   have e : turnG h l (m + 1) = some (l.getD m 0) := if_pos ht
   rw [e] at hq
   exact hq
theorem scopeTn : Does Try.prog (.scope tnC) MTn0 ptTn0 FTn0 :=
 DoesJ.scope2 (n := 34) (id := 0) (N := MTn0) (rest := tnR) (by kernel_rfl) semTn0 semTn (F := FTn) (inv := fun x => InvTn x.1.1 x.1.2.1 x.2.1) (μ := fun x => (x.1.2.1 : Int).toNat)
  (by
   rintro ⟨_, h, _⟩ Q hq
   have hlen : (orderL h).length = (chL h).length := orderL_length h
   have h1 : ((chL h).length : Int) <= 1000000 := hq.1
   have hI : InvTn (orderL h) ((orderL h).length : Int) h := ⟨Int.natCast_nonneg _, Int.le_refl _, by omega, fun v hv => orderL_mem hv⟩
   refine ⟨h1, Fr.satP_mono ?_ (lawTn (orderL h) ((orderL h).length : Int) h hI Q ?_)⟩
   ·intro r hr
    cases r with
    | next x' => exact ⟨hr.1, hr.2.2⟩
    | out y => exact hr
    | back z => exact hr
    | pan p => exact hr
   ·rw [Int.toNat_natCast]
    exact hq.2)
  (by
   rintro ⟨⟨l, k, _⟩, h, _⟩ hinv Q hq
   exact lawTn l k h hinv Q hq.2)
def turnO (h : histT.den) : Option Int := turnG h (orderL h) (orderL h).length
def cTurn : Ct := ⟨[.d histT], [i64, .bool], fun x => ((turnO x.1).getD 0, (turnO x.1).isSome, ()), fun x => [((chL x.1).length : Int) <= 1000000]⟩
theorem turn_ok : SoundCt Try.prog 60 cTurn :=
 convF (fx_sound (run := thenA (codeA Try.prog CTn 0 lam0 tnA 0) (ptTn0.han CTn.Γ MTn0 FTn0)) (fn := Try.f60) (c := .seq tnA (.scope tnC)) (ps := [.d histT]) (rs := [i64, .bool])
  (fr := fun x => Fr.need (((chL x.1).length : Int) <= 1000000) (Fr.val ((turnO x.1).getD 0, (turnO x.1).isSome, ()))) (histT.dflt, ()) (by kernel_rfl) (by kernel_rfl)
  (fun E => thenA_run (codeA_run CTn_ok (lam0_ok _ 0)) (Does.run CTn_ok rfl scopeTn)) (fun x => by kernel_rfl)) _ _ (fun _ _ _ _ _ hok => Fr.need_ hok ⟨trivial, rfl⟩)
def tlC : Code -> Code
 | .seq _ c => c
 | _ => .skip
def hdC : Code -> Code
 | .seq c _ => c
 | _ => .skip
def opsC : Code -> Array Oper
 | .region _ ops _ => ops
 | _ => #[]
noncomputable def bwC : Code := (Try.f62.body.map fun c => tlC (tlC c)).getD .skip
noncomputable def CBw : Cx := cx [(92, cRightS)] [(91, cCurve), (93, cMust), (94, cUpto)]
theorem CBw_ok : CxOK Try.prog CBw := cx_ok mixed ⟨rightS_ok, trivial⟩ ⟨curve_ok, must_ok, upto_ok, trivial⟩
noncomputable def runBw : St -> Option Tr :=
 thenA (codeA Try.prog CBw 0 lam0 (hdC bwC) 0) (thenA (codeA Try.prog CBw 0 lam0 (hdC (tlC bwC)) 0)
  (thenA (regionP Try.prog CBw 0 (opsC (hdC (tlC (tlC bwC)))).toList) (codeA Try.prog CBw 0 lam0 (tlC (tlC (tlC bwC))) 0)))
def frBw3 (b1 b2 : Bool) (p1 p2 : PV) (v : Int) : Fr (denL [i64, i64]) :=
 Fr.br b1 (Fr.need (b1 = false -> b1 = false) (Fr.need (b1 = true -> True /\ p1 = p1) (Fr.need (b2 = false -> b2 = false) (Fr.need (b2 = true -> True /\ p2 = p1) (Fr.need (inR .i64 p1.n) (Fr.val (0, p1.n, ())))))))
  (Fr.br b2 (Fr.need (b1 = false -> b1 = false) (Fr.need (b1 = true -> True /\ p1 = p2) (Fr.need (b2 = false -> b2 = false) (Fr.need (b2 = true -> True /\ p2 = p2) (Fr.need (inR .i64 p2.n) (Fr.val (0, p2.n, ())))))))
   (Fr.need (b1 = false) (Fr.need (b2 = false) (Fr.val (v, 0, ())))))
def frBw2 (f : stepT.den) (a b : Int) : Fr (denL [i64, i64]) :=
 frBw3 (cUpto.bad (f, b, ())) (cUpto.bad (f, a, ())) (cUpto.pv (f, b, ())) (cUpto.pv (f, a, ())) (IntKind.i64.wrap ((cUpto.f (f, b, ())).1 - (cUpto.f (f, a, ())).1))
def frBw (x : denP [.d slsT, .d spanT]) : Fr (denL [i64, i64]) :=
 Fr.br (cCurve.bad (x.1, ())) (Fr.need (inR .i64 (cCurve.pv (x.1, ())).n) (Fr.val (0, (cCurve.pv (x.1, ())).n, ())))
  (Fr.br (!(cRightS.f (x.2.1, ())).1)
   (Fr.br (cMust.bad (1, ())) (Fr.need (inR .i64 (cMust.pv (1, ())).n) (Fr.val (0, (cMust.pv (1, ())).n, ()))) (frBw2 (cCurve.f (x.1, ())).1 x.2.1.1 x.2.1.2.1))
   (frBw2 (cCurve.f (x.1, ())).1 x.2.1.1 x.2.1.2.1))
theorem runBw_ok (E : Env) : RunOK Try.prog E bwC runBw :=
 thenA_run (x := hdC bwC) (y := tlC bwC) (codeA_run CBw_ok (lam0_ok _ 0)) (thenA_run (x := hdC (tlC bwC)) (y := tlC (tlC bwC)) (codeA_run CBw_ok (lam0_ok _ 0))
  (thenA_run (x := hdC (tlC (tlC bwC))) (y := tlC (tlC (tlC bwC))) (regionP_run (id := 5) (ops := opsC (hdC (tlC (tlC bwC)))) CBw_ok) (codeA_run CBw_ok (lam0_ok _ 0))))
theorem Between_fr : SoundCt Try.prog 62 ⟨[.d slsT, .d spanT], [i64, i64], fun xs => (frBw xs).get, fun xs => [(frBw xs).ok]⟩ :=
 dx_sound CBw_ok (run := runBw) (fn := Try.f62) (A := hdC (Try.f62.body.getD .skip)) (c := bwC) (rid := 1) (ops := opsC (hdC (tlC (Try.f62.body.getD .skip)))) (tp := 5) (fr := frBw) (ps := [.d slsT, .d spanT]) (rs := [i64, i64]) ([], (0, 0, ()), ()) (by kernel_rfl) (by kernel_rfl) (by kernel_rfl) told_ok runBw_ok (fun x => by kernel_rfl)
theorem pick3 {u1 u2 : Int × Int} {b1 b2 : Bool} {v : Int} (h1 : b1 = !(u1.2 == 0)) (h2 : b2 = !(u2.2 == 0)) :
  (if b1 = true then ((0 : Int), u1.2, ()) else if b2 = true then ((0 : Int), u2.2, ()) else (v, (0 : Int), ())) =
   ((if u1.2 ≠ 0 then ((0 : Int), u1.2) else if u2.2 ≠ 0 then ((0 : Int), u2.2) else (v, (0 : Int))).1, (if u1.2 ≠ 0 then ((0 : Int), u1.2) else if u2.2 ≠ 0 then ((0 : Int), u2.2) else (v, (0 : Int))).2, ()) := by
 subst h1
 subst h2
 by_cases q1 : u1.2 = 0
 ·by_cases q2 : u2.2 = 0
  ·simp [q1, q2]
  ·simp [q1, q2]
 ·simp [q1]
theorem betw_in {a b : Int} (h1 : 0 <= a /\ a <= 4000000000000000000) (h2 : 0 <= b /\ b <= 4000000000000000000) : -9223372036854775808 <= a - b /\ a - b <= 9223372036854775807 := by omega
theorem frBw3_eq {b1 b2 : Bool} {p1 p2 : PV} {v : Int} (h : b1 = true -> b2 = true -> p2 = p1) (h1 : inR .i64 p1.n) (h2 : inR .i64 p2.n) :
  (frBw3 b1 b2 p1 p2 v).ok /\ (frBw3 b1 b2 p1 p2 v).get = if b1 = true then (0, p1.n, ()) else if b2 = true then (0, p2.n, ()) else (v, 0, ()) := by
 cases b1 with
 | true => exact ⟨⟨fun _ => ⟨fun h => (by cases h), fun _ => ⟨trivial, rfl⟩, fun h => h, fun hb => ⟨trivial, h rfl hb⟩, h1, trivial⟩, fun h => (by cases h)⟩, rfl⟩
 | false =>
  cases b2 with
  | true => exact ⟨⟨fun h => (by cases h), fun _ => ⟨fun _ => ⟨fun h => h, fun h => (by cases h), fun h => (by cases h), fun _ => ⟨trivial, rfl⟩, h2, trivial⟩, fun h => (by cases h)⟩⟩, rfl⟩
  | false => exact ⟨⟨fun h => (by cases h), fun _ => ⟨fun h => (by cases h), fun _ => ⟨rfl, rfl, trivial⟩⟩⟩, rfl⟩
def BetwG (l : List sliceT.den) (s : spanT.den) : Int × Int :=
 if (curveO l).isNone = true ∨ rightS s = false then (0, 1)
 else if (uptoO (curveF l) s.2.1).2 ≠ 0 then (0, (uptoO (curveF l) s.2.1).2)
 else if (uptoO (curveF l) s.1).2 ≠ 0 then (0, (uptoO (curveF l) s.1).2)
 else ((uptoO (curveF l) s.2.1).1 - (uptoO (curveF l) s.1).1, 0)
def cBetwG : Ct := ⟨[.d slsT, .d spanT], [i64, i64], fun x => ((BetwG x.1 x.2.1).1, (BetwG x.1 x.2.1).2, ()), fun _ => []⟩
theorem betwG_ok : SoundCt Try.prog 62 cBetwG :=
 conv Between_fr _ _ fun w F xs vs hr _ => by
  obtain ⟨l, s, _⟩ := xs
  by_cases hc : (curveO l).isNone = true
  ·have hb : cCurve.bad (l, ()) = true := hc
   refine ⟨⟨fun _ => ⟨errR err1, trivial⟩, fun h => (by have h' : cCurve.bad (l, ()) = false := h; rw [hb] at h'; cases h')⟩, ?_⟩
   show (if cCurve.bad (l, ()) = true then ((0 : Int), (1 : Int), ()) else _) = ((BetwG l s).1, (BetwG l s).2, ())
   unfold BetwG
   rw [hb, if_pos rfl, if_pos (.inl hc)]
  ·have hc' : (curveO l).isNone = false := Bool.eq_false_iff.2 hc
   have hb : cCurve.bad (l, ()) = false := hc'
   have hp := curve_pos hc'
   by_cases hs : rightS s = true
   ·have hn : (!(cRightS.f (s, ())).1) = false := by show (!(rightS s)) = false; rw [hs]; rfl
    have hpv : cUpto.bad (curveF l, s.2.1, ()) = true -> cUpto.bad (curveF l, s.1, ()) = true -> cUpto.pv (curveF l, s.1, ()) = cUpto.pv (curveF l, s.2.1, ()) := by
     intro h1 h2
     have key : ∀ d, cUpto.bad (curveF l, d, ()) = true -> (uptoO (curveF l) d).2 = 5 := fun d hd => by
      have hd' : (!((uptoO (curveF l) d).2 == 0)) = true := hd
      rw [uptoO_days hp] at hd' ⊢
      split
      ·rename_i hle
       rw [if_pos hle] at hd'
       cases hd'
      ·rfl
     show (⟨_, _, (uptoO (curveF l) s.1).2⟩ : PV) = ⟨_, _, (uptoO (curveF l) s.2.1).2⟩
     rw [key _ h1, key _ h2]
    obtain ⟨k1, k2⟩ := frBw3_eq (v := IntKind.i64.wrap ((cUpto.f (curveF l, s.2.1, ())).1 - (cUpto.f (curveF l, s.1, ())).1)) hpv (errR (uptoO_err (curveF l) s.2.1)) (errR (uptoO_err (curveF l) s.1))
    refine ⟨⟨fun h => (by have h' : cCurve.bad (l, ()) = true := h; rw [hb] at h'; cases h'), fun _ => ⟨fun h => (by have h' : (!(cRightS.f (s, ())).1) = true := h; rw [hn] at h'; cases h'), fun _ => k1⟩⟩, ?_⟩
    show (if cCurve.bad (l, ()) = true then _ else if (!(cRightS.f (s, ())).1) = true then _ else (frBw2 (curveF l) s.1 s.2.1).get) = ((BetwG l s).1, (BetwG l s).2, ())
    rw [hb, if_neg (by decide), hn, if_neg (by decide)]
    refine k2.trans ?_
    have hw := i64w (betw_in (uptoO_val (curveF l) s.2.1) (uptoO_val (curveF l) s.1))
    have hG : BetwG l s = if (uptoO (curveF l) s.2.1).2 ≠ 0 then (0, (uptoO (curveF l) s.2.1).2) else if (uptoO (curveF l) s.1).2 ≠ 0 then (0, (uptoO (curveF l) s.1).2) else ((uptoO (curveF l) s.2.1).1 - (uptoO (curveF l) s.1).1, 0) := if_neg (fun h => h.elim hc (fun h => by rw [hs] at h; cases h))
    rw [hG, ← hw]
    exact pick3 rfl rfl
   ·have hn : (!(cRightS.f (s, ())).1) = true := by show (!(rightS s)) = true; simpa using hs
    refine ⟨⟨fun h => (by have h' : cCurve.bad (l, ()) = true := h; rw [hb] at h'; cases h'), fun _ => ⟨fun _ => ⟨fun _ => ⟨errR err1, trivial⟩, fun h => (by cases h)⟩, fun h => (by have h' : (!(cRightS.f (s, ())).1) = false := h; rw [hn] at h'; cases h')⟩⟩, ?_⟩
    show (if cCurve.bad (l, ()) = true then _ else if (!(cRightS.f (s, ())).1) = true then ((0 : Int), (1 : Int), ()) else _) = ((BetwG l s).1, (BetwG l s).2, ())
    have hB : BetwG l s = (0, 1) := if_pos (.inr (by simpa using hs))
    rw [hb, if_neg (by decide), hn, if_pos rfl, hB]
noncomputable def CKp : Cx := cx [(19, cOf), (60, cTurn), (61, cConcat), (62, cBetwG), (63, cBp)] []
theorem CKp_ok : CxOK Try.prog CKp := cx_ok mixed ⟨of_ok, turn_ok, concat_ok, betwG_ok, bp_ok, trivial⟩ trivial
def pcsK (h : histT.den) (a : Int) : List (List changeT.den) :=
 [List.take (a - 0).toNat (List.drop (0 : Int).toNat (chL h)), List.take (((chL h).length : Int) - IntKind.i64.wrap (a + 1)).toNat (List.drop (IntKind.i64.wrap (a + 1)).toNat (chL h))]
def setCh (h : histT.den) (l : List changeT.den) : histT.den := (h.1, h.2.1, h.2.2.1, l, ())
def frKp2 (h x : histT.den) (t : tarT.den) (day : Int) : Fr (denL [i64, i64]) :=
 Fr.need (fewH x) (Fr.need (fewT t)
  (Fr.br ((cOf.f (x, t, ())).2.1 != 0) (Fr.val (0, (cOf.f (x, t, ())).2.1, ()))
   (Fr.br ((cBetwG.f ((cOf.f (x, t, ())).1, (day, h.2.2.1.1.2.1, ()), ())).2.1 != 0) (Fr.val (0, (cBetwG.f ((cOf.f (x, t, ())).1, (day, h.2.2.1.1.2.1, ()), ())).2.1, ()))
    (Fr.val ((cBp.f ((cBetwG.f ((cOf.f (x, t, ())).1, (day, h.2.2.1.1.2.1, ()), ())).1, 1000, ())).1, (cBp.f ((cBetwG.f ((cOf.f (x, t, ())).1, (day, h.2.2.1.1.2.1, ()), ())).1, 1000, ())).2.1, ())))))
def frKept (x : denP [.d histT, .d tarT]) : Fr (denL [i64, i64]) :=
 let h : histT.den := x.1; let t : tarT.den := x.2.1
 let a : Int := (cTurn.f (h, ())).1; let is : Bool := (cTurn.f (h, ())).2.1
 Fr.need (fewH h) (Fr.need (fewT t) (Fr.br ((cOf.f (h, t, ())).2.1 != 0) (Fr.val (0, (cOf.f (h, t, ())).2.1, ()))
  (Fr.need (((chL h).length : Int) <= 1000000)
   (Fr.need ((!is) = false -> 0 <= a /\ a < ((chL h).length : Int))
    (Fr.need ((bif !is then true else ((chL h).getD a.toNat changeT.dflt).2.2.1 != 3) = false -> 0 <= a /\ a < ((chL h).length : Int))
     (Fr.br (bif bif !is then true else ((chL h).getD a.toNat changeT.dflt).2.2.1 != 3 then true else ((chL h).getD a.toNat changeT.dflt).2.2.2.2.2.1 != 1) (Fr.val (0, 0, ()))
      (Fr.need (0 <= a /\ a < ((chL h).length : Int))
       (Fr.need (0 <= (none : Option Int).getD 0 /\ (none : Option Int).getD 0 <= a /\ a <= ((chL h).length : Int))
        (Fr.need (0 <= IntKind.i64.wrap (a + 1) /\ IntKind.i64.wrap (a + 1) <= ((chL h).length : Int) /\ ((chL h).length : Int) <= ((chL h).length : Int))
         (Fr.need ((pcsK h a).flatten.length <= 1000000)
          (frKp2 h (setCh h (cConcat.f (pcsK h a, ())).1) t ((chL h).getD a.toNat changeT.dflt).2.1)))))))))))
theorem kept_run : SoundCt Try.prog 28 ⟨[.d histT, .d tarT], [i64, i64], fun xs => (frKept xs).get, fun xs => [(frKept xs).ok]⟩ :=
 fn_sound CKp_ok (Λ := lam0) (fn := Try.f28) (fr := frKept) (ps := [.d histT, .d tarT]) (rs := [i64, i64]) (histT.dflt, tarT.dflt, ()) (by kernel_rfl) (fun c E _ => lam0_ok c 0) (fun x => by kernel_rfl)
def without (h : histT.den) (a : Nat) : histT.den := setCh h ((chL h).take a ++ (chL h).drop (a + 1))
def keptA (h : histT.den) (t : tarT.den) (a : Int) : Int × Int :=
 if (chAt h a).2.2.1 = 3 /\ (chAt h a).2.2.2.2.2.1 = 1 then
  (if (ofF (without h a.toNat) t).2 = 0 then
   (if (BetwG (ofF (without h a.toNat) t).1 ((chAt h a).2.1, h.2.2.1.1.2.1, ())).2 = 0 then bpF (BetwG (ofF (without h a.toNat) t).1 ((chAt h a).2.1, h.2.2.1.1.2.1, ())).1 1000
    else (0, (BetwG (ofF (without h a.toNat) t).1 ((chAt h a).2.1, h.2.2.1.1.2.1, ())).2))
   else (0, (ofF (without h a.toNat) t).2))
 else (0, 0)
def keptF (h : histT.den) (t : tarT.den) : Int × Int :=
 if (ofF h t).2 = 0 then (match turnO h with | none => (0, 0) | some a => keptA h t a) else (0, (ofF h t).2)
def cKeptP : Ct := ⟨[.d histT, .d tarT], [i64, i64], fun x => ((keptF x.1 x.2.1).1, (keptF x.1 x.2.1).2, ()), fun x => [fewH x.1, fewT x.2.1]⟩
theorem turnG_mem (h : histT.den) (l : List Int) : (k : Nat) -> k <= l.length -> ∀ v, turnG h l k = some v -> v ∈ l /\ isT (chAt h v) = true
 | 0, _, _, hv => by cases hv
 | k + 1, hk, v, hv => by
  unfold turnG at hv
  split at hv
  ·rename_i ht
   cases hv
   refine ⟨?_, ht⟩
   have : l.getD k 0 = l[k] := by rw [List.getD_eq_getElem?_getD, List.getElem?_eq_getElem (by omega)]; rfl
   rw [this]
   exact List.getElem_mem _
  ·exact turnG_mem h l k (by omega) v hv
theorem turnO_mem {h : histT.den} {a : Int} (ha : turnO h = some a) : (0 <= a /\ a < ((chL h).length : Int)) /\ isT (chAt h a) = true := by
 obtain ⟨h1, h2⟩ := turnG_mem h (orderL h) _ (Nat.le_refl _) a ha
 exact ⟨orderL_mem h1, h2⟩
theorem pcs_flat {h : histT.den} {a : Nat} (ha : a < (chL h).length) (hf : (chL h).length <= 1000000) : IntKind.i64.wrap ((a : Int) + 1) = ((a + 1 : Nat) : Int) /\ (pcsK h a).flatten = (chL h).take a ++ (chL h).drop (a + 1) := by
 have w : IntKind.i64.wrap ((a : Int) + 1) = ((a + 1 : Nat) : Int) := by rw [i64w (by omega)]; omega
 refine ⟨w, ?_⟩
 unfold pcsK
 rw [w, Int.sub_zero, Int.toNat_natCast, Int.toNat_natCast, show (((chL h).length : Int) - ((a + 1 : Nat) : Int)).toNat = (chL h).length - (a + 1) by omega]
 show List.flatten [List.take a (chL h), List.take ((chL h).length - (a + 1)) (List.drop (a + 1) (chL h))] = _
 have e : List.take ((chL h).length - (a + 1)) (List.drop (a + 1) (chL h)) = List.drop (a + 1) (chL h) := List.take_of_length_le (by rw [List.length_drop]; exact Nat.le_refl _)
 rw [e]
 simp
theorem without_few {h : histT.den} (hf : fewH h) (a : Nat) : fewH (without h a) := by
 have hsub : List.Sublist ((chL h).take a ++ (chL h).drop (a + 1)) (chL h) := by
  conv => rhs; rw [← List.take_append_drop a (chL h)]
  refine List.Sublist.append (List.Sublist.refl _) ?_
  rw [← List.drop_drop]
  exact List.drop_sublist 1 _
 refine ⟨Nat.le_trans (List.Sublist.length_le hsub) hf.1, hf.2.1, fun c hc => hf.2.2 c (hsub.subset hc)⟩
theorem bif3k {b : Bool} {x y : Int} : (bif bif !b then true else x != 3 then true else y != 1) = false ↔ b = true /\ x = 3 /\ y = 1 := by
 cases b with
 | false => simp
 | true =>
  by_cases h1 : x = 3
  ·by_cases h2 : y = 1
   ·simp [h1, h2]
   ·simp [h1, h2]
  ·simp [h1]
theorem kp2_eq {h x : histT.den} {t : tarT.den} {day : Int} (hx : fewH x) (ht : fewT t) : (frKp2 h x t day).ok /\ (frKp2 h x t day).get =
  (let r : Int × Int := if (ofF x t).2 = 0 then (if (BetwG (ofF x t).1 (day, h.2.2.1.1.2.1, ())).2 = 0 then bpF (BetwG (ofF x t).1 (day, h.2.2.1.1.2.1, ())).1 1000 else (0, (BetwG (ofF x t).1 (day, h.2.2.1.1.2.1, ())).2)) else (0, (ofF x t).2)
   (r.1, r.2, ())) := by
 refine Fr.need_ hx (Fr.need_ ht ?_)
 by_cases h1 : (ofF x t).2 = 0
 ·refine Fr.br_f (by show ((ofF x t).2 != 0) = false; simp [h1]) ?_
  simp only [h1, if_true]
  by_cases h2 : (BetwG (ofF x t).1 (day, h.2.2.1.1.2.1, ())).2 = 0
  ·refine Fr.br_f (by show ((BetwG (ofF x t).1 (day, h.2.2.1.1.2.1, ())).2 != 0) = false; simp [h2]) ⟨trivial, ?_⟩
   simp only [h2, if_true]
   rfl
  ·refine Fr.br_t (by show ((BetwG (ofF x t).1 (day, h.2.2.1.1.2.1, ())).2 != 0) = true; simp [h2]) ⟨trivial, ?_⟩
   simp only [h2, if_false]
   rfl
 ·refine Fr.br_t (by show ((ofF x t).2 != 0) = true; simp [h1]) ⟨trivial, ?_⟩
  simp only [h1, if_false]
  rfl
theorem kept_eq (h : histT.den) (t : tarT.den) (hf : fewH h) (ht : fewT t) : (frKept (h, t, ())).ok /\ (frKept (h, t, ())).get = ((keptF h t).1, (keptF h t).2, ()) := by
 have hl : (chL h).length <= 500000 := hf.1
 refine Fr.need_ hf (Fr.need_ ht ?_)
 unfold keptF
 by_cases h1 : (ofF h t).2 = 0
 ·refine Fr.br_f (by show ((ofF h t).2 != 0) = false; simp [h1]) (Fr.need_ (show ((chL h).length : Int) <= 1000000 by omega) ?_)
  rw [if_pos h1]
  cases ho : turnO h with
  | none =>
   have e2 : (cTurn.f (h, ())).2.1 = false := by show (turnO h).isSome = false; rw [ho]; rfl
   rw [e2]
   exact Fr.need_ (fun hh => by cases hh) (Fr.need_ (fun hh => by cases hh) (Fr.br_t rfl ⟨trivial, rfl⟩))
  | some a =>
   obtain ⟨⟨a0, a1⟩, hT⟩ := turnO_mem ho
   have e1 : (cTurn.f (h, ())).1 = a := by show (turnO h).getD 0 = a; rw [ho]; rfl
   have e2 : (cTurn.f (h, ())).2.1 = true := by show (turnO h).isSome = true; rw [ho]; rfl
   rw [e1, e2]
   refine Fr.need_ (fun _ => ⟨a0, a1⟩) (Fr.need_ (fun _ => ⟨a0, a1⟩) ?_)
   show _ /\ _ = ((keptA h t a).1, (keptA h t a).2, ())
   cases hb : (bif bif !true then true else ((chL h).getD a.toNat changeT.dflt).2.2.1 != 3 then true else ((chL h).getD a.toNat changeT.dflt).2.2.2.2.2.1 != 1) with
   | true =>
    refine Fr.br_t rfl ⟨trivial, ?_⟩
    have hn : ¬ ((chAt h a).2.2.1 = 3 /\ (chAt h a).2.2.2.2.2.1 = 1) := fun hh => by
     have hb' : (bif bif !true then true else (chAt h a).2.2.1 != 3 then true else (chAt h a).2.2.2.2.2.1 != 1) = true := hb
     rw [bif3k.2 ⟨rfl, hh⟩] at hb'
     cases hb'
    unfold keptA
    rw [if_neg hn]
    rfl
   | false =>
    obtain ⟨_, k1, k2⟩ := bif3k.1 hb
    obtain ⟨n, rfl⟩ : ∃ n : Nat, a = n := ⟨a.toNat, by omega⟩
    obtain ⟨w, hfl⟩ := pcs_flat (h := h) (a := n) (by omega) (by omega)
    have hwf := without_few hf n
    have hlen : ((pcsK h n).flatten).length <= 1000000 := by
     rw [hfl]
     have : (chL (without h n)).length <= 500000 := hwf.1
     exact Nat.le_trans this (by decide)
    have hnl : n < (chL h).length := by omega
    have q1 : 0 <= IntKind.i64.wrap ((n : Int) + 1) /\ IntKind.i64.wrap ((n : Int) + 1) <= ((chL h).length : Int) := by rw [w]; omega
    refine Fr.br_f rfl (Fr.need_ ⟨a0, a1⟩ (Fr.need_ ⟨Int.le_refl _, a0, Int.le_of_lt a1⟩ (Fr.need_ ⟨q1.1, q1.2, Int.le_refl _⟩ (Fr.need_ hlen ?_))))
    have hx : setCh h (cConcat.f (pcsK h n, ())).1 = without h n := by
     show setCh h (List.flatten (pcsK h n)) = setCh h _
     rw [hfl]
    rw [hx]
    have := kp2_eq (h := h) (x := without h n) (t := t) (day := (chAt h n).2.1) hwf ht
    refine ⟨this.1, this.2.trans ?_⟩
    unfold keptA
    have hk : (chAt h n).2.2.1 = 3 /\ (chAt h n).2.2.2.2.2.1 = 1 := ⟨k1, k2⟩
    rw [if_pos hk, Int.toNat_natCast]
 ·refine Fr.br_t (by show ((ofF h t).2 != 0) = true; simp [h1]) ⟨trivial, ?_⟩
  rw [if_neg h1]
  rfl
theorem keptP_ok : SoundCt Try.prog 28 cKeptP :=
 convF kept_run _ _ (fun w F x vs hr hok => by
  obtain ⟨h, t, _⟩ := x
  exact kept_eq h t hok.1 hok.2)
theorem keptF_val (h : histT.den) (t : tarT.den) : 0 <= (keptF h t).1 /\ (keptF h t).1 <= 4000000000000000000 := by
 have z : (0 : Int) <= 0 /\ (0 : Int) <= 4000000000000000000 := by decide
 unfold keptF
 split
 ·split
  ·exact z
  ·unfold keptA
   split
   ·split
    ·split
     ·exact evenF_val _ _ _ (by decide)
     ·exact z
    ·exact z
   ·exact z
 ·exact z
theorem UptoF_val (l : List sliceT.den) (d : Int) : 0 <= (UptoF l d).1 /\ (UptoF l d).1 <= 4000000000000000000 := by
 unfold UptoF
 split
 ·exact val0
 ·exact uptoO_val _ _
theorem over_iff {a b : Int} : a > 4000000000000000000 - b ↔ 4000000000000000000 < a + b := by omega
def dueW (w k : Int) : Int × Int := if 4000000000000000000 < w + k then (0, 5) else (w + k, 0)
def dueF (h : histT.den) (t : tarT.den) : Int × Int :=
 if (keptF h t).2 = 0 then (if (UptoF (ofF h t).1 292195).2 = 0 then dueW (UptoF (ofF h t).1 292195).1 (keptF h t).1 else (0, (UptoF (ofF h t).1 292195).2)) else (0, (keptF h t).2)
def cDue : Ct := ⟨[.d histT, .d tarT], [i64, i64], fun x => ((dueF x.1 x.2.1).1, (dueF x.1 x.2.1).2, ()), fun x => [fewH x.1, fewT x.2.1]⟩
theorem dueF_val (h : histT.den) (t : tarT.den) : 0 <= (dueF h t).1 /\ (dueF h t).1 <= 4000000000000000000 := by
 have z : (0 : Int) <= 0 /\ (0 : Int) <= 4000000000000000000 := by decide
 have k := keptF_val h t
 have u := UptoF_val (ofF h t).1 292195
 unfold dueF
 split
 ·split
  ·unfold dueW
   split
   ·exact z
   ·exact ⟨by show 0 <= _ + _; omega, by show _ + _ <= (4000000000000000000 : Int); omega⟩
  ·exact z
 ·exact z
noncomputable def CDu : Cx := cx [(28, cKeptP), (19, cOf), (59, cWritten)] []
theorem CDu_ok : CxOK Try.prog CDu := cx_ok mixed ⟨keptP_ok, of_ok, Written_ok, trivial⟩ trivial
def frDueG (h : histT.den) (t : tarT.den) (over : Bool) : Fr (denL [i64, i64]) :=
 let K : denL [i64, i64] := cKeptP.f (h, t, ()); let W : denL [i64, i64] := cWritten.f ((cOf.f (h, t, ())).1, ())
 Fr.need (fewH h) (Fr.need (fewT t) (Fr.br (K.2.1 != 0) (Fr.val (0, K.2.1, ()))
  (Fr.need (fewH h) (Fr.need (fewT t) (Fr.br (W.2.1 != 0) (Fr.val (0, W.2.1, ()))
   (Fr.br over (Fr.val (0, 5, ())) (Fr.val (IntKind.i64.wrap (W.1 + K.1), 0, ()))))))))
def frDue (x : denP [.d histT, .d tarT]) : Fr (denL [i64, i64]) :=
 frDueG x.1 x.2.1 (decide ((cWritten.f ((cOf.f (x.1, x.2.1, ())).1, ())).1 > IntKind.i64.wrap (4000000000000000000 - (cKeptP.f (x.1, x.2.1, ())).1)))
theorem due_run : SoundCt Try.prog 27 ⟨[.d histT, .d tarT], [i64, i64], fun xs => (frDue xs).get, fun xs => [(frDue xs).ok]⟩ :=
 fn_sound CDu_ok (Λ := lam0) (fn := Try.f27) (fr := frDue) (ps := [.d histT, .d tarT]) (rs := [i64, i64]) (histT.dflt, tarT.dflt, ()) (by kernel_rfl) (fun c E _ => lam0_ok c 0) (fun x => by kernel_rfl)
theorem dueG_eq {h : histT.den} {t : tarT.den} {over : Bool} (hf : fewH h) (ht : fewT t) (ho : over = decide (4000000000000000000 < (UptoF (ofF h t).1 292195).1 + (keptF h t).1)) :
  (frDueG h t over).ok /\ (frDueG h t over).get = ((dueF h t).1, (dueF h t).2, ()) := by
 have k := keptF_val h t
 have u := UptoF_val (ofF h t).1 292195
 refine Fr.need_ hf (Fr.need_ ht ?_)
 unfold dueF
 by_cases h1 : (keptF h t).2 = 0
 ·rw [if_pos h1]
  refine Fr.br_f (by show ((keptF h t).2 != 0) = false; simp [h1]) (Fr.need_ hf (Fr.need_ ht ?_))
  by_cases h2 : (UptoF (ofF h t).1 292195).2 = 0
  ·rw [if_pos h2]
   refine Fr.br_f (by show ((UptoF (ofF h t).1 292195).2 != 0) = false; simp [h2]) ?_
   unfold dueW
   by_cases h3 : 4000000000000000000 < (UptoF (ofF h t).1 292195).1 + (keptF h t).1
   ·rw [if_pos h3]
    exact Fr.br_t (ho.trans (decide_eq_true h3)) ⟨trivial, rfl⟩
   ·rw [if_neg h3]
    refine Fr.br_f (ho.trans (decide_eq_false h3)) ⟨trivial, ?_⟩
    show (IntKind.i64.wrap ((UptoF (ofF h t).1 292195).1 + (keptF h t).1), (0 : Int), ()) = _
    rw [i64w (by omega)]
  ·rw [if_neg h2]
   exact Fr.br_t (by show ((UptoF (ofF h t).1 292195).2 != 0) = true; simp [h2]) ⟨trivial, rfl⟩
 ·rw [if_neg h1]
  exact Fr.br_t (by show ((keptF h t).2 != 0) = true; simp [h1]) ⟨trivial, rfl⟩
theorem due_ok : SoundCt Try.prog 27 cDue :=
 convF due_run _ _ (fun w F x vs hr hok => by
  obtain ⟨h, t, _⟩ := x
  have k := keptF_val h t
  have u := UptoF_val (ofF h t).1 292195
  refine dueG_eq hok.1 hok.2 ?_
  show decide ((UptoF (ofF h t).1 292195).1 > IntKind.i64.wrap (4000000000000000000 - (keptF h t).1)) = _
  rw [i64w (by omega)]
  exact decide_eq_decide.2 over_iff)
def givenF (h : histT.den) (t : tarT.den) (c : changeT.den) : Int × Int :=
 if (putF h c).2 = 0 then (if (dueF h t).2 = 0 then (if (dueF (putF h c).1 t).2 = 0 then ((dueF h t).1 - (dueF (putF h c).1 t).1, 0) else (0, (dueF (putF h c).1 t).2)) else (0, (dueF h t).2)) else (0, (putF h c).2)
def cGiven : Ct := ⟨[.d histT, .d tarT, .d changeT], [i64, i64], fun x => ((givenF x.1 x.2.1 x.2.2.1).1, (givenF x.1 x.2.1 x.2.2.1).2, ()), fun x => [fewH x.1, fewT x.2.1]⟩
noncomputable def CGv : Cx := cx [(17, cPut), (27, cDue)] []
theorem CGv_ok : CxOK Try.prog CGv := cx_ok mixed ⟨put_ok, due_ok, trivial⟩ trivial
def frGiven (x : denP [.d histT, .d tarT, .d changeT]) : Fr (denL [i64, i64]) :=
 let h : histT.den := x.1; let t : tarT.den := x.2.1; let c : changeT.den := x.2.2.1
 let p : denL [histT, i64] := cPut.f (h, c, ()); let a : denL [i64, i64] := cDue.f (h, t, ()); let b : denL [i64, i64] := cDue.f (p.1, t, ())
 Fr.need (fewH h) ((Fr.br (p.2.1 != 0) (Fr.val (0, p.2.1, ()))
  (Fr.need (fewH h) (Fr.need (fewT t) (Fr.br (a.2.1 != 0) (Fr.val (0, a.2.1, ()))
   (Fr.need (fewH p.1) (Fr.need (fewT t) (Fr.br (b.2.1 != 0) (Fr.val (0, b.2.1, ())) (Fr.val (IntKind.i64.wrap (a.1 - b.1), 0, ()))))))))))
theorem given_run : SoundCt Try.prog 29 ⟨[.d histT, .d tarT, .d changeT], [i64, i64], fun xs => (frGiven xs).get, fun xs => [(frGiven xs).ok]⟩ :=
 fn_sound CGv_ok (Λ := lam0) (fn := Try.f29) (fr := frGiven) (ps := [.d histT, .d tarT, .d changeT]) (rs := [i64, i64]) (histT.dflt, tarT.dflt, changeT.dflt, ()) (by kernel_rfl) (fun c E _ => lam0_ok c 0) (fun x => by kernel_rfl)
theorem addCh_few {h : histT.den} {c : changeT.den} (hf : fewH h) (hl : (chL h).length < 2000) (hc : c.2.2.2.2.1.length <= 1000000) : fewH (addCh h c) := by
 have e : chL (addCh h c) = ([] ++ chL h) ++ [c] := rfl
 refine ⟨?_, hf.2.1, fun c' hc' => ?_⟩
 ·rw [e, List.nil_append, List.length_append]
  show _ + 1 <= 500000
  omega
 ·rw [e, List.nil_append, List.mem_append] at hc'
  rcases hc' with hc' | hc'
  ·exact hf.2.2 c' hc'
  ·cases List.mem_singleton.1 hc'
   exact hc
theorem put_few {h : histT.den} {c : changeT.den} (hf : fewH h) : fewH (putF h c).1 := by
 have z : fewH h00 := ⟨by decide, by decide, fun c hc => by cases hc⟩
 unfold putF
 split
 ·rename_i h1
  split
  ·exact z
  ·split
   ·exact z
   ·exact addCh_few hf (by omega) (changeB_covers h1.1)
 ·exact z
theorem given_eq (h : histT.den) (t : tarT.den) (c : changeT.den) (hf : fewH h) (ht : fewT t) : (frGiven (h, t, c, ())).ok /\ (frGiven (h, t, c, ())).get = ((givenF h t c).1, (givenF h t c).2, ()) := by
 have d1 := dueF_val h t
 have d2 := dueF_val (putF h c).1 t
 refine Fr.need_ hf ?_
 unfold givenF
 by_cases h1 : (putF h c).2 = 0
 ·rw [if_pos h1]
  refine Fr.br_f (by show ((putF h c).2 != 0) = false; simp [h1]) (Fr.need_ hf (Fr.need_ ht ?_))
  by_cases h2 : (dueF h t).2 = 0
  ·rw [if_pos h2]
   refine Fr.br_f (by show ((dueF h t).2 != 0) = false; simp [h2]) (Fr.need_ (put_few hf) (Fr.need_ ht ?_))
   by_cases h3 : (dueF (putF h c).1 t).2 = 0
   ·rw [if_pos h3]
    refine Fr.br_f (by show ((dueF (putF h c).1 t).2 != 0) = false; simp [h3]) ⟨trivial, ?_⟩
    show (IntKind.i64.wrap ((dueF h t).1 - (dueF (putF h c).1 t).1), (0 : Int), ()) = _
    rw [i64w (by omega)]
   ·rw [if_neg h3]
    exact Fr.br_t (by show ((dueF (putF h c).1 t).2 != 0) = true; simp [h3]) ⟨trivial, rfl⟩
  ·rw [if_neg h2]
   exact Fr.br_t (by show ((dueF h t).2 != 0) = true; simp [h2]) ⟨trivial, rfl⟩
 ·rw [if_neg h1]
  exact Fr.br_t (by show ((putF h c).2 != 0) = true; simp [h1]) ⟨trivial, rfl⟩
theorem given_ok : SoundCt Try.prog 29 cGiven :=
 convF given_run _ _ (fun w F x vs hr hok => by
  obtain ⟨h, t, c, _⟩ := x
  exact given_eq h t c hok.1 hok.2)
noncomputable def CWo : Cx := cx [] []
theorem CWo_ok : CxOK Try.prog CWo := cx_ok (cs := []) (ps := []) mixed trivial trivial
abbrev ptSt : Pt := ⟨21, 0, ⟨[(8, .d i64), (7, .d i64), (6, .d (.sl changeT))], []⟩, ⟨[], []⟩, ⟨[(2, .d .bool)], []⟩⟩
def frSt (x : ptSt.M.X) : Fr ptSt.Out :=
 let k : Int := x.1.1; let n : Int := x.1.2.1; let l : List changeT.den := x.1.2.2.1
 Fr.br (decide (k < n))
  (Fr.need (0 <= k /\ k < (l.length : Int))
   (Fr.br (bif (l.getD k.toNat changeT.dflt).2.2.1 == 3 then true else (l.getD k.toNat changeT.dflt).2.2.1 == 4) (Fr.val (Rd.back ((false, ()), ())))
    (Fr.val (Rd.next ((IntKind.i64.wrap (k + 1), n, l, ()), ())))))
  (Fr.val (Rd.out ((), ())))
theorem semSt : Does Try.prog (loopF Try.f24 0) ptSt.M ptSt frSt :=
 Does.of_run CWo_ok (bs := 0) (Λ := lam0) rfl rfl rfl (fun E => lam0_ok _ 0) (fun x => by kernel_rfl)
structure InvSt (k n : Int) (l : List changeT.den) : Prop where
 k0 : 0 <= k
 kl : k <= n
 nl : n = l.length
 big : (l.length : Int) <= 9223372036854775807
def FSt (x : ptSt.M.X) : Fr ptSt.Out :=
 Fr.need (InvSt x.1.1 x.1.2.1 x.1.2.2.1) (Fr.br (List.any (List.drop (x.1.1 : Int).toNat x.1.2.2.1) isT) (Fr.val (Rd.back ((false, ()), ()))) (Fr.val (Rd.out ((), ()))))
theorem lawSt (k n : Int) (l : List changeT.den) (hinv : InvSt k n l) (Q : ptSt.Out -> Prop) (hq : (Fr.br ((l.drop k.toNat).any isT) (Fr.val (Rd.back ((false, ()), ()))) (Fr.val (Rd.out ((), ()))) : Fr ptSt.Out).satP Q) : (frSt ((k, n, l, ()), ())).satP fun
   | .next x' => InvSt x'.1.1 x'.1.2.1 x'.1.2.2.1 /\ (x'.1.2.1 - x'.1.1).toNat < (n - k).toNat /\ (FSt x').satP Q
   | .out y => Q (.out y)
   | .back z => Q (.back z)
   | .pan p => Q (.pan p) := by
 obtain ⟨h0, h1, h2, h3⟩ := hinv
 obtain ⟨m, rfl⟩ : ∃ n : Nat, k = n := ⟨k.toNat, by omega⟩
 subst h2
 dsimp only [frSt, Fr.satP]
 simp only [Int.toNat_natCast] at hq ⊢
 refine ⟨fun hi => ?_, fun hi => ?_⟩
 ·have hm : m < l.length := by have : (m : Int) < (l.length : Int) := of_decide_eq_true hi; omega
  have w1 : IntKind.i64.wrap ((m : Int) + 1) = ((m + 1 : Nat) : Int) := by rw [i64w (by omega)]; omega
  have hd : l.drop m = l.getD m changeT.dflt :: l.drop (m + 1) := by
   rw [List.drop_eq_getElem_cons hm, List.getD_eq_getElem?_getD, List.getElem?_eq_getElem hm]
   rfl
  have hk : (bif (l.getD m changeT.dflt).2.2.1 == 3 then true else (l.getD m changeT.dflt).2.2.1 == 4) = isT (l.getD m changeT.dflt) := by
   unfold isT
   cases (l.getD m changeT.dflt).2.2.1 == 3 <;> rfl
  rw [w1]
  rw [hd, List.any_cons] at hq
  refine ⟨⟨by omega, by omega⟩, fun ht => ?_, fun ht => ?_⟩
  ·have ht' : isT (l.getD m changeT.dflt) = true := hk.symm.trans ht
   rw [ht'] at hq
   exact hq.1 rfl
  ·have ht' : isT (l.getD m changeT.dflt) = false := hk.symm.trans ht
   rw [ht', Bool.false_or] at hq
   have hI : InvSt ((m + 1 : Nat) : Int) l.length l := ⟨by omega, by omega, rfl, h3⟩
   refine ⟨hI, by omega, hI, ?_⟩
   show (Fr.br ((l.drop ((m + 1 : Nat) : Int).toNat).any isT) (Fr.val (Rd.back ((false, ()), ()))) (Fr.val (Rd.out ((), ()))) : Fr ptSt.Out).satP Q
   rw [Int.toNat_natCast]
   exact hq
 ·have hm : ¬ (m : Int) < (l.length : Int) := of_decide_eq_false hi
  rw [List.drop_of_length_le (by omega)] at hq
  exact hq.2 rfl
theorem loopSt : Does Try.prog (.loop (loopF Try.f24 0)) ptSt.M ptSt FSt := by
 refine Does.loop (n := 21) (id := 0) semSt (inv := fun x => InvSt x.1.1 x.1.2.1 x.1.2.2.1) (μ := fun x => (x.1.2.1 - x.1.1).toNat) ?_ (fun x Q h => h.1)
 rintro ⟨⟨k, n, l, _⟩, _⟩ hinv Q hq
 exact lawSt k n l hinv Q hq.2
def steadyB (h : histT.den) : Bool := !((chL h).any isT)
def cSteady : Ct := ⟨[.d histT], [.bool], fun x => (steadyB x.1, ()), fun _ => []⟩
theorem steady_ok : SoundCt Try.prog 24 cSteady :=
 convF (fn_sound CWo_ok (Λ := fun _ => ptSt.han CWo.Γ ptSt.M FSt) (fn := Try.f24) (ps := [.d histT]) (rs := [.bool])
  (fr := fun x => Fr.need (InvSt 0 ((chL x.1).length : Int) (chL x.1)) (Fr.br (((chL x.1).drop (0 : Int).toNat).any isT) (Fr.val (false, ())) (Fr.val (true, ())))) (histT.dflt, ()) (by kernel_rfl)
  (fun c E hc => lam1f hc (by kernel_rfl) (b := loopF Try.f24 0) (by kernel_rfl) (Does.han CWo_ok rfl loopSt)) (fun x => by kernel_rfl)) _ _ (fun w F x vs hr _ => by
   obtain ⟨h, _⟩ := x
   obtain ⟨v, vs', rfl, hv, _⟩ := hr
   have hlen : ((chL h).length : Int) <= 9223372036854775807 := len_big (RepT.wf hv.2.2).2.2.2.1.1
   refine Fr.need_ ⟨Int.le_refl _, Int.natCast_nonneg _, rfl, hlen⟩ ?_
   show _ /\ _ = (!((chL h).any isT), ())
   have hd : (chL h).drop (0 : Int).toNat = chL h := rfl
   rw [hd]
   cases (chL h).any isT with
   | true => exact Fr.br_t rfl ⟨trivial, rfl⟩
   | false => exact Fr.br_f rfl ⟨trivial, rfl⟩)
abbrev p7 : Pt := ⟨73, 0, ⟨[(3, .d i64)], [.x 1 62 verT, .r 1 1 0]⟩, ⟨[], [.x 1 62 verT, .r 1 1 0]⟩, ⟨[(2, .d .bool)], []⟩⟩
def baseL (v : verT.den) : List Int := [v.2.1.1, v.2.1.2.1, v.2.1.2.2.1, v.2.1.2.2.2.1]
def f7 (x : p7.M.X) : Fr p7.Out :=
 let k : Int := x.1.1; let v : verT.den := x.2.1
 Fr.br (decide (k < 4))
  (Fr.need (0 <= k /\ k < ((4 : Nat) : Int)) (Fr.need (decide ((baseL v).getD k.toNat 0 < 0) = false -> 0 <= k /\ k < ((4 : Nat) : Int))
   (Fr.br (bif decide ((baseL v).getD k.toNat 0 < 0) then true else decide ((baseL v).getD k.toNat 0 > 100000)) (Fr.val (Rd.back ((false, ()), ()))) (Fr.val (Rd.next ((IntKind.i64.wrap (k + 1), ()), (v, ())))))))
  (Fr.val (Rd.out ((), (v, ()))))
def Hp : histT.den := (1, 1, ((1, 101, ()), (0, 36500, 0, 0, ()), [(1, 10, 10, 0, 10000, ())], ()), [], ())
def Tp : tarT.den := ([(1, (10000, 0, 0, 0, ()), [], [10000], [10000, 10000, 10000, 10000, 10000, 10000, 10000, 10000], 0, ())], ())
noncomputable def CEx : Cx := cx [] []
theorem CEx_ok : CxOK Try.prog CEx := cx_ok (cs := []) (ps := []) mixed trivial trivial
def cPlain : Ct := ⟨[], [histT, tarT], fun _ => (Hp, Tp, ()), fun _ => []⟩
theorem plain15_ok : SoundCt Try.prog 58 cPlain :=
 convF (fn_sound CEx_ok (Λ := lam0) (fn := Try.f58) (fr := fun _ => Fr.val (Hp, Tp, ())) (ps := []) (rs := [histT, tarT]) () (by kernel_rfl) (fun c E _ => lam0_ok c 0) (fun x => by kernel_rfl)) _ _ (fun _ _ _ _ _ _ => ⟨trivial, rfl⟩)
def canC (booked day way : Int) : changeT.den := (booked, day, 3, (0, 0, 0, 0, ()), [], way, ())
def cCancel : Ct := ⟨[.d i64, .d i64, .d i64], [changeT], fun x => (canC x.1 x.2.1 x.2.2.1, ()), fun _ => []⟩
theorem cancel_ok : SoundCt Try.prog 26 cCancel :=
 convF (fn_sound CEx_ok (Λ := lam0) (fn := Try.f26) (fr := fun x => Fr.val (canC x.1 x.2.1 x.2.2.1, ())) (ps := [.d i64, .d i64, .d i64]) (rs := [changeT]) (0, 0, 0, ()) (by kernel_rfl) (fun c E _ => lam0_ok c 0) (fun x => by kernel_rfl)) _ _ (fun _ _ _ _ _ _ => ⟨trivial, rfl⟩)
noncomputable def CAl15 : Cx := cx [(58, cPlain), (27, cDue), (26, cCancel), (29, cGiven), (17, cPut), (28, cKeptP)] []
theorem CAl15_ok : CxOK Try.prog CAl15 := cx_ok mixed ⟨plain15_ok, due_ok, cancel_ok, given_ok, put_ok, keptP_ok, trivial⟩ trivial
def frAl15 (_ : denP []) : Fr (denL [.bool]) :=
 Fr.need (fewH Hp) (Fr.need (fewT Tp)
  (Fr.need (fewH Hp) (Fr.need (fewT Tp) (
   (Fr.need (fewH Hp) (Fr.need (fewT Tp) (
    (Fr.need (fewH Hp) (Fr.need (fewT Tp) (
     (Fr.need (fewH Hp) (
      (Fr.need (fewH (putF Hp (canC 50 41 1)).1) (Fr.need (fewT Tp)
       (Fr.need (fewH Hp) (Fr.need (fewT ([], ())) (Fr.val (true, ()))))))))))))))))))
theorem al15_run : SoundCt Try.prog 25 ⟨[], [.bool], fun xs => (frAl15 xs).get, fun xs => [(frAl15 xs).ok]⟩ :=
 fn_sound CAl15_ok (Λ := lam0) (fn := Try.f25) (fr := frAl15) (ps := []) (rs := [.bool]) () (by kernel_rfl) (fun c E _ => lam0_ok c 0) (fun x => by kernel_rfl)
def cLawR (ps : List PT) : Ct := ⟨ps, [.bool], fun _ => (true, ()), fun _ => []⟩
def cYesR : Ct := ⟨[], [.bool], fun _ => (true, ()), fun _ => []⟩
theorem fewHp : fewH Hp := ⟨by decide, by decide, fun c hc => by cases hc⟩
theorem fewTp : fewT Tp := by
 refine ⟨by decide, fun v hv => ?_⟩
 simp only [Tp, List.mem_cons, List.not_mem_nil, or_false] at hv
 subst hv
 exact ⟨by decide, by decide, by decide⟩
theorem fewT0' : fewT ([], ()) := ⟨by decide, fun v hv => by cases hv⟩
theorem alive15_ok : SoundCt Try.prog 25 cYesR :=
 convF al15_run _ _ (fun _ _ _ _ _ _ => by
  have hx : fewH (putF Hp (canC 50 41 1)).1 := put_few fewHp
  exact ⟨⟨fewHp, fewTp, fewHp, fewTp, fewHp, fewTp, fewHp, fewTp, fewHp, hx, fewTp, fewHp, fewT0', trivial⟩, rfl⟩)
theorem chL_add (h : histT.den) (c : changeT.den) : chL (addCh h c) = chL h ++ [c] := by
 show ([] ++ chL h) ++ [c] = _
 rw [List.nil_append]
theorem chsO_mem' {h : histT.den} {c : changeT.den} : c ∈ chsO h ↔ c ∈ chL h := by
 have hk := chsO_same h (dayC c)
 have h1 : ∀ l : List changeT.den, c ∈ l ↔ c ∈ l.filter (fun x => dayC x == dayC c) := fun l => by
  rw [List.mem_filter]
  exact ⟨fun hh => ⟨hh, beq_self_eq_true _⟩, fun hh => hh.1⟩
 rw [h1 (chsO h), h1 (chL h)]
 constructor
 ·intro hh
  first | rw [hk]; exact hh | rw [← hk]; exact hh
 ·intro hh
  first | rw [← hk]; exact hh | rw [hk]; exact hh
theorem cond_split (day : Int) (l : List changeT.den) (k : Int) : (l.filter fun x => decide (x.2.1 <= day)).filter (fun x => dayC x == k) = if k <= day then l.filter (fun x => dayC x == k) else [] := by
 rw [List.filter_filter]
 split
 ·rename_i h
  refine List.filter_congr fun x _ => ?_
  by_cases hx : dayC x = k
  ·have hx' : x.2.1 = k := hx
   rw [hx', decide_eq_true h, Bool.and_true]
  ·have : (dayC x == k) = false := beq_eq_false_iff_ne.2 hx
   rw [this, Bool.false_and]
 ·rename_i h
  refine List.filter_eq_nil_iff.2 fun x _ => ?_
  by_cases hx : dayC x = k
  ·have hx' : x.2.1 = k := hx
   rw [hx', decide_eq_false h, Bool.and_false]
   decide
  ·have : (dayC x == k) = false := beq_eq_false_iff_ne.2 hx
   rw [this, Bool.false_and]
   decide
theorem cond_split2 (day : Int) (l : List changeT.den) (k : Int) : (l.filter fun x => decide (day < x.2.1)).filter (fun x => dayC x == k) = if k <= day then [] else l.filter (fun x => dayC x == k) := by
 rw [List.filter_filter]
 split
 ·rename_i h
  refine List.filter_eq_nil_iff.2 fun x _ => ?_
  by_cases hx : dayC x = k
  ·have hx' : x.2.1 = k := hx
   rw [hx', decide_eq_false (Int.not_lt.2 h), Bool.and_false]
   decide
  ·have : (dayC x == k) = false := beq_eq_false_iff_ne.2 hx
   rw [this, Bool.false_and]
   decide
 ·rename_i h
  refine List.filter_congr fun x _ => ?_
  by_cases hx : dayC x = k
  ·have hx' : x.2.1 = k := hx
   rw [hx', decide_eq_true (Int.not_le.1 h), Bool.and_true]
  ·have : (dayC x == k) = false := beq_eq_false_iff_ne.2 hx
   rw [this, Bool.false_and]
def upL (day : Int) (l : List changeT.den) : List changeT.den := l.filter fun x => decide (x.2.1 <= day)
def behL (day : Int) (l : List changeT.den) : List changeT.den := l.filter fun x => decide (day < x.2.1)
theorem upL_le {day : Int} {l : List changeT.den} : ∀ x ∈ upL day l, x.2.1 <= day := fun _ hx => of_decide_eq_true (List.mem_filter.1 hx).2
theorem behL_lt {day : Int} {l : List changeT.den} : ∀ x ∈ behL day l, day < x.2.1 := fun _ hx => of_decide_eq_true (List.mem_filter.1 hx).2
theorem sort_three {day : Int} {l m : List changeT.den} (hl : SortK dayC l) (hm : ∀ x ∈ m, x.2.1 = day) : SortK dayC (upL day l ++ (m ++ behL day l)) := by
 unfold SortK
 refine List.pairwise_append.2 ⟨hl.filter _, List.pairwise_append.2 ⟨?_, hl.filter _, fun x hx y hy => ?_⟩, fun x hx y hy => ?_⟩
 ·refine List.Pairwise.imp_of_mem (R := fun _ _ => True) (fun {a b} ha hb _ => ?_) (List.pairwise_of_forall (fun _ _ => trivial))
  show a.2.1 <= b.2.1
  rw [hm a ha, hm b hb]
  exact Int.le_refl _
 ·show x.2.1 <= y.2.1
  rw [hm x hx]
  exact Int.le_of_lt (behL_lt y hy)
 ·show x.2.1 <= y.2.1
  have h1 := upL_le x hx
  rcases List.mem_append.1 hy with hy | hy
  ·rw [hm y hy]
   exact h1
  ·exact Int.le_trans h1 (Int.le_of_lt (behL_lt y hy))
theorem chsO_parts (h : histT.den) (day : Int) : chsO h = upL day (chsO h) ++ behL day (chsO h) := by
 have hs := sort_three (day := day) (m := []) (chsO_sortK h) (fun x hx => by cases hx)
 rw [List.nil_append] at hs
 refine SameK.eq (key := dayC) (chsO_sortK h) hs fun k => ?_
 rw [List.filter_append]
 unfold upL behL
 rw [cond_split, cond_split2]
 split
 ·rw [List.append_nil]
 ·rw [List.nil_append]
theorem chsO_add (h : histT.den) (c : changeT.den) : chsO (addCh h c) = upL c.2.1 (chsO h) ++ ([c] ++ behL c.2.1 (chsO h)) := by
 refine SameK.eq (key := dayC) (chsO_sortK _) (sort_three (m := [c]) (chsO_sortK h) (fun x hx => by rw [List.mem_singleton.1 hx])) fun k => ?_
 have h1 : (chsO (addCh h c)).filter (fun x => dayC x == k) = (chL h ++ [c]).filter (fun x => dayC x == k) := by
  have := chsO_same (addCh h c) k
  rw [chL_add] at this
  first | exact this | exact this.symm
 have h2 : (chsO h).filter (fun x => dayC x == k) = (chL h).filter (fun x => dayC x == k) := by
  have := chsO_same h k
  first | exact this | exact this.symm
 rw [h1, List.filter_append, List.filter_append, List.filter_append, ← h2]
 unfold upL behL
 rw [cond_split, cond_split2]
 by_cases hk : k <= c.2.1
 ·rw [if_pos hk, if_pos hk, List.append_nil]
 ·rw [if_neg hk, if_neg hk, List.nil_append]
  have : [c].filter (fun x => dayC x == k) = [] := by
   refine List.filter_eq_nil_iff.2 fun x hx => ?_
   rw [List.mem_singleton.1 hx]
   have : (dayC c == k) = false := beq_eq_false_iff_ne.2 fun he => hk (by rw [← he]; exact Int.le_refl _)
   rw [this]
   decide
  rw [this, List.append_nil, List.nil_append]
def lastT (l : List changeT.den) : Option changeT.den := l.reverse.find? isT
theorem turnG_last (h : histT.den) (l : List Int) : (k : Nat) -> k <= l.length -> (turnG h l k).map (chAt h) = lastT ((l.take k).map (chAt h))
 | 0, _ => rfl
 | k + 1, hk => by
  have hkl : k < l.length := by omega
  have ht : l.take (k + 1) = l.take k ++ [l.getD k 0] := by rw [List.take_add_one, List.getElem?_eq_getElem hkl, List.getD_eq_getElem?_getD, List.getElem?_eq_getElem hkl]; rfl
  have ih := turnG_last h l k (by omega)
  rw [ht, List.map_append]
  unfold lastT at ih ⊢
  rw [List.reverse_append]
  show _ = List.find? isT (chAt h (l.getD k 0) :: ((l.take k).map (chAt h)).reverse)
  unfold turnG
  by_cases hT : isT (chAt h (l.getD k 0)) = true
  ·rw [if_pos hT, List.find?_cons_of_pos hT]
   rfl
  ·rw [if_neg hT, List.find?_cons_of_neg hT, ih]
theorem turnO_last (h : histT.den) : (turnO h).map (chAt h) = lastT (chsO h) := by
 unfold turnO
 rw [turnG_last h (orderL h) _ (Nat.le_refl _), List.take_length]
 rfl
theorem lastT_none {l : List changeT.den} (h : ∀ x ∈ l, isT x = false) : lastT l = none :=
 List.find?_eq_none.2 fun x hx => by rw [h x (List.mem_reverse.1 hx)]; decide
theorem lastT_mid {a b : List changeT.den} {c : changeT.den} (hc : isT c = true) (hb : ∀ x ∈ b, isT x = false) : lastT (a ++ c :: b) = some c := by
 unfold lastT
 rw [List.reverse_append, List.reverse_cons, List.append_assoc]
 rw [List.find?_append]
 have : List.find? isT b.reverse = none := lastT_none hb
 rw [this]
 show List.find? isT (c :: a.reverse) = some c
 exact List.find?_cons_of_pos hc
theorem steady_iff {h : histT.den} : steadyB h = true ↔ ∀ x ∈ chL h, isT x = false := by
 unfold steadyB
 rw [Bool.not_eq_true', ← Bool.not_eq_true, List.any_eq_true]
 constructor
 ·intro hh x hx
  cases hT : isT x with
  | false => rfl
  | true => exact absurd ⟨x, hx, hT⟩ hh
 ·rintro hh ⟨x, hx, hT⟩
  rw [hh x hx] at hT
  cases hT
theorem steady_ord {h : histT.den} (hs : steadyB h = true) : ∀ x ∈ chsO h, isT x = false := fun x hx => steady_iff.1 hs x (chsO_mem'.1 hx)
theorem steady_turn {h : histT.den} (hs : steadyB h = true) : turnO h = none := by
 have := turnO_last h
 rw [lastT_none (steady_ord hs)] at this
 cases ho : turnO h with
 | none => rfl
 | some a => rw [ho] at this; cases this
theorem doesK_flag {k : Core} {c : changeT.den} (hc : isT c = false) : (doesK k c).1 = k.1 := by
 unfold isT at hc
 rw [Bool.or_eq_false_iff] at hc
 have h3 : ¬ c.2.2.1 = 3 := beq_eq_false_iff_ne.1 hc.1
 have h4 : ¬ c.2.2.1 = 4 := beq_eq_false_iff_ne.1 hc.2
 unfold doesK
 rw [if_neg h3, if_neg h4]
 split
 ·rfl
 ·split <;> rfl
theorem hold_flag {d : Int} : {l : List changeT.den} -> (∀ x ∈ l, isT x = false) -> (k : Core) -> (holdK d l k).1 = k.1
 | [], _, _ => rfl
 | c :: l, h, k => by
  simp only [holdK]
  rw [hold_flag (fun x hx => h x (List.mem_cons_of_mem _ hx))]
  split
  ·rfl
  ·exact doesK_flag (h c (by simp))
theorem st_back {h : histT.den} {c r : changeT.den} (hs : steadyB h = true) (hc : c.2.2.1 = 3) (hr : r.2.2.1 = 4) (hd : r.2.1 = c.2.1) (d : Int) : stOf (addCh (addCh h c) r) d = stOf h d := by
 have e1 : chsO (addCh (addCh h c) r) = upL c.2.1 (chsO h) ++ ([c, r] ++ behL c.2.1 (chsO h)) := by
  rw [chsO_add, hd, chsO_add]
  have u1 : upL c.2.1 (upL c.2.1 (chsO h) ++ ([c] ++ behL c.2.1 (chsO h))) = upL c.2.1 (chsO h) ++ [c] := by
   unfold upL
   rw [List.filter_append, List.filter_append, List.filter_filter]
   have x1 : List.filter (fun a => decide (a.2.1 <= c.2.1) && decide (a.2.1 <= c.2.1)) (chsO h) = List.filter (fun a => decide (a.2.1 <= c.2.1)) (chsO h) := List.filter_congr fun x _ => by rw [Bool.and_self]
   have x2 : List.filter (fun x => decide (x.2.1 <= c.2.1)) [c] = [c] := List.filter_cons_of_pos (decide_eq_true (Int.le_refl _))
   have x3 : List.filter (fun x => decide (x.2.1 <= c.2.1)) (behL c.2.1 (chsO h)) = [] := List.filter_eq_nil_iff.2 fun x hx => by
    rw [decide_eq_false (Int.not_le.2 (behL_lt x hx))]
    decide
   rw [x1, x2, x3, List.append_nil]
  have u2 : behL c.2.1 (upL c.2.1 (chsO h) ++ ([c] ++ behL c.2.1 (chsO h))) = behL c.2.1 (chsO h) := by
   unfold behL
   rw [List.filter_append, List.filter_append, List.filter_filter]
   have x1 : List.filter (fun x => decide (c.2.1 < x.2.1)) (upL c.2.1 (chsO h)) = [] := List.filter_eq_nil_iff.2 fun x hx => by
    rw [decide_eq_false (Int.not_lt.2 (upL_le x hx))]
    decide
   have x2 : List.filter (fun x => decide (c.2.1 < x.2.1)) [c] = [] := List.filter_eq_nil_iff.2 fun x hx => by
    rw [List.mem_singleton.1 hx, decide_eq_false (Int.lt_irrefl _)]
    decide
   rw [x1, x2, List.nil_append, List.nil_append]
   exact List.filter_congr fun x _ => by rw [Bool.and_self]
  rw [u1, u2, List.append_assoc]
  rfl
 unfold stOf
 rw [e1]
 conv => rhs; rw [chsO_parts h c.2.1]
 rw [holdK_append d (true, h.2.2.1.2.1, h.2.2.1.2.2.1), holdK_append d (true, h.2.2.1.2.1, h.2.2.1.2.2.1)]
 show holdK d (c :: r :: behL c.2.1 (chsO h)) _ = _
 simp only [holdK]
 have hfl := hold_flag (d := d) (l := upL c.2.1 (chsO h)) (fun x hx => steady_ord hs x (List.mem_filter.1 hx).1) (true, h.2.2.1.2.1, h.2.2.1.2.2.1)
 have e2 : ∀ k : Core, k.1 = true -> (if r.2.1 > d then (if c.2.1 > d then k else doesK k c) else doesK (if c.2.1 > d then k else doesK k c) r) = k := fun k hk => by
  rw [hd]
  by_cases hx : c.2.1 > d
  ·rw [if_pos hx, if_pos hx]
  ·rw [if_neg hx, if_neg hx]
   unfold doesK
   rw [if_neg (show ¬ r.2.2.1 = 1 by rw [hr]; decide), if_neg (show ¬ r.2.2.1 = 2 by rw [hr]; decide), if_neg (show ¬ r.2.2.1 = 3 by rw [hr]; decide), if_pos hr,
    if_neg (show ¬ c.2.2.1 = 1 by rw [hc]; decide), if_neg (show ¬ c.2.2.1 = 2 by rw [hc]; decide), if_pos hc]
   exact Prod.ext hk.symm rfl
 have hkey := e2 _ hfl
 show holdK d (behL c.2.1 (chsO h)) _ = _
 exact (congrArg (holdK d (behL c.2.1 (chsO h))) hkey).trans (holdK_append d (true, h.2.2.1.2.1, h.2.2.1.2.2.1) _ _ _).symm
theorem putF_ok {h : histT.den} {c : changeT.den} (hp : (putF h c).2 = 0) : changeB c = true /\ inB h.2.2.1.1.1 h.2.2.1.1.2.1 c.2.1 = true /\ (chL h).length < 2000 /\ (putF h c).1 = addCh h c := by
 unfold putF at *
 split at hp
 ·rename_i hc
  rw [if_pos hc]
  split at hp
  ·cases hp
  ·rename_i h1
   rw [if_neg h1]
   split at hp
   ·cases hp
   ·rename_i h2
    rw [if_neg h2]
    exact ⟨hc.1, hc.2, Nat.lt_of_not_le h2, rfl⟩
 ·cases hp
theorem keptF_steady {h : histT.den} (t : tarT.den) (hs : steadyB h = true) : keptF h t = (0, (ofF h t).2) := by
 unfold keptF
 rw [steady_turn hs]
 by_cases c : (ofF h t).2 = 0
 ·rw [if_pos c, c]
 ·rw [if_neg c]
theorem due_told {h : histT.den} {t : tarT.den} (hd : (dueF h t).2 = 0) : (keptF h t).2 = 0 /\ (ofF h t).2 = 0 /\ (UptoF (ofF h t).1 292195).2 = 0 /\ (dueF h t).1 = earn (ofF h t).1 292195 + (keptF h t).1 := by
 unfold dueF at *
 split at hd
 ·rename_i h1
  rw [if_pos h1]
  split at hd
  ·rename_i h2
   rw [if_pos h2]
   have h0 : (ofF h t).2 = 0 := by
    unfold keptF at h1
    split at h1
    ·rename_i h0
     exact h0
    ·exact h1
   refine ⟨h1, h0, h2, ?_⟩
   have hU := (upto_told h2).2.2.2 292195
   unfold dueW at *
   split at hd
   ·cases hd
   ·rename_i h3
    rw [if_neg h3, hU]
    rfl
  ·rename_i h2
   exact absurd hd h2
 ·rename_i h1
  exact absurd hd h1
theorem given_told {h : histT.den} {t : tarT.den} {c : changeT.den} (hd : (givenF h t c).2 = 0) : (putF h c).2 = 0 /\ (dueF h t).2 = 0 /\ (dueF (putF h c).1 t).2 = 0 /\ (givenF h t c).1 = (dueF h t).1 - (dueF (putF h c).1 t).1 := by
 unfold givenF at *
 split at hd
 ·rename_i h1
  rw [if_pos h1]
  split at hd
  ·rename_i h2
   rw [if_pos h2]
   split at hd
   ·rename_i h3
    rw [if_pos h3]
    exact ⟨h1, h2, h3, rfl⟩
   ·rename_i h3
    exact absurd hd h3
  ·rename_i h2
   exact absurd hd h2
 ·rename_i h1
  exact absurd hd h1
end Go.Proofs.Ytplkgghjldndkaa
