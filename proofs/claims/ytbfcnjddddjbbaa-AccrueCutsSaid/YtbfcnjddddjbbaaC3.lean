/-
  accrue.curve: what a year costs on each day.
-/
import Derived.Test.YtbfcnjddddjbbaaC2
namespace Go.Proofs.Ytbfcnjddddjbbaa
open Go Go.Ab Go.RowKit Go.Proofs

noncomputable def CC : Cx := cxK [(28, cFullSl)] [(21, cMust)] kA
theorem CC_ok : CxOK Try.prog CC := cxK_ok mixed ⟨fullSl_ok, trivial⟩ ⟨must_ok, trivial⟩ kA_ok

abbrev ptC : Pt := ⟨41, 0, ⟨[(15, .d i64), (14, .d i64), (13, .d slsT), (5, .d i64)], [.y 3 45 [(3, i64), (3, i64)], .r 3 3 0, .g 4 27 3, .x 2 45 stepT, .r 2 2 0]⟩, ⟨[], [.y 3 45 [(3, i64), (3, i64)], .r 3 3 0, .x 2 45 stepT, .r 2 2 0]⟩, ⟨[], []⟩⟩

/-- One slice. -/
def addS (p : List Int × List Int) (s : sliceT.den) : List Int × List Int := addAV (addAV p s.1.1 s.2.2.2.2.1) s.1.2.1 0

def frC2 (x : ptC.M.X) (s : sliceT.den) : Fr ptC.Out :=
  Fr.need (x.2.1.1.length < 1000000 ∧ x.2.1.1.length = x.2.1.2.1.length)
    (Fr.need ((addAV (x.2.1.1, x.2.1.2.1) s.1.1 s.2.2.2.2.1).1.length < 1000000 ∧ (addAV (x.2.1.1, x.2.1.2.1) s.1.1 s.2.2.2.2.1).1.length = (addAV (x.2.1.1, x.2.1.2.1) s.1.1 s.2.2.2.2.1).2.length)
      (Fr.val (Rd.next ((IntKind.i64.wrap (x.1.1 + 1), x.1.2.1, x.1.2.2.1, s.1.2.1, ()), ((addS (x.2.1.1, x.2.1.2.1) s).1, (addS (x.2.1.1, x.2.1.2.1) s).2, ()), x.2.2.1, ()))))

def frC (x : ptC.M.X) : Fr ptC.Out :=
  Fr.br (decide (x.1.1 < x.1.2.1))
    (Fr.need (0 ≤ x.1.1 ∧ x.1.1 < x.1.2.2.1.length)
      (Fr.br (!(cFullSl.f (x.1.2.2.1.getD x.1.1.toNat sliceT.dflt, x.1.2.2.2.1, ())).1)
        (Fr.br (cMust.bad (1, ())) (Fr.val (Rd.pan (cMust.pv (1, ()))))
          (frC2 x (x.1.2.2.1.getD x.1.1.toNat sliceT.dflt)))
        (frC2 x (x.1.2.2.1.getD x.1.1.toNat sliceT.dflt))))
    (Fr.val (Rd.out ((), (x.2.1.1, x.2.1.2.1, ()), x.2.2.1, ())))

theorem semC : Does Try.prog (loopF Try.f19 0) ptC.M ptC frC :=
  Does.of_run CC_ok (bs := 0) (Λ := lam0) rfl rfl rfl (fun E => lam0_ok _ 0) (fun x => by kernel_rfl)

/-- All slices, one behind the other; none: one of them may not stand there. -/
def curveGo : List sliceT.den → Int → List Int × List Int → Option (List Int × List Int)
  | [], _, p => some p
  | s :: l, e, p => if fullSl s e = true then curveGo l s.1.2.1 (addS p s) else none

def outC (r : stepT.den) (o : Option (List Int × List Int)) : Fr ptC.Out :=
  Fr.br o.isSome (Fr.val (Rd.out ((), ((o.getD ([], [])).1, (o.getD ([], [])).2, ()), r, ()))) (Fr.val (Rd.pan ⟨24, .i64, 1⟩))

structure InvC (i n : Int) (l : List sliceT.den) (p : List Int × List Int) : Prop where
  len : n = l.length
  lo : 0 ≤ i
  hi : i ≤ n
  most : l.length ≤ 2000
  both : p.1.length = p.2.length
  few : p.1.length ≤ 2 * i

def FC (x : ptC.M.X) : Fr ptC.Out :=
  Fr.need (InvC x.1.1 x.1.2.1 x.1.2.2.1 (x.2.1.1, x.2.1.2.1)) (outC x.2.2.1 (curveGo (x.1.2.2.1.drop x.1.1.toNat) x.1.2.2.2.1 (x.2.1.1, x.2.1.2.1)))

theorem lawC (i n : Int) (l : List sliceT.den) (e : Int) (at_ val : List Int) (r : stepT.den) (hinv : InvC i n l (at_, val)) (Q : ptC.Out → Prop) (hq : (outC r (curveGo (l.drop i.toNat) e (at_, val))).satP Q) :
    (frC ((i, n, l, e, ()), (at_, val, ()), r, ())).satP fun
      | .next x' => InvC x'.1.1 x'.1.2.1 x'.1.2.2.1 (x'.2.1.1, x'.2.1.2.1) ∧ (x'.1.2.1 - x'.1.1).toNat < (n - i).toNat ∧ (FC x').satP Q
      | .out y => Q (.out y)
      | .back z => Q (.back z)
      | .pan p => Q (.pan p) := by
  obtain ⟨rfl, h4, h5, h6, h7, h8⟩ := hinv
  refine ⟨fun hi => ?_, fun hi => ?_⟩
  · have hi' : i < l.length := by simpa using hi
    have hl : i.toNat < l.length := by omega
    have e1 : l.drop i.toNat = l[i.toNat] :: l.drop (i.toNat + 1) := List.drop_eq_getElem_cons hl
    have g1 : l.getD i.toNat sliceT.dflt = l[i.toNat] := by rw [List.getD_eq_getElem?_getD, List.getElem?_eq_getElem hl]; rfl
    rw [e1] at hq
    generalize hs : l[i.toNat] = s at *
    refine ⟨⟨h4, hi'⟩, fun hb => ?_, fun hb => ?_⟩
    · have hb' : fullSl s e = false := by
        have : (!(cFullSl.f (l.getD i.toNat sliceT.dflt, e, ())).1) = true := hb
        rw [g1] at this
        simpa [cFullSl] using this
      have hq' : Q (Rd.pan ⟨24, .i64, 1⟩) := by
        unfold curveGo at hq
        rw [hb'] at hq
        exact hq.2 rfl
      exact ⟨fun _ => hq', fun hc => by cases hc⟩
    · have hb' : fullSl s e = true := by
        have : (!(cFullSl.f (l.getD i.toNat sliceT.dflt, e, ())).1) = false := hb
        rw [g1] at this
        simpa [cFullSl] using this
      unfold curveGo at hq
      rw [hb', if_pos rfl] at hq
      have a1 := addAV_len (p := (at_, val)) s.1.1 s.2.2.2.2.1 h7
      have a2 := addAV_len (p := addAV (at_, val) s.1.1 s.2.2.2.2.1) s.1.2.1 0 a1.1
      show (frC2 ((i, (l.length : Int), l, e, ()), (at_, val, ()), r, ()) (l.getD i.toNat sliceT.dflt)).satP _
      rw [g1]
      have hw : IntKind.i64.wrap (i + 1) = i + 1 := i64w (by omega)
      have hn : (i + 1).toNat = i.toNat + 1 := by omega
      have h7' : at_.length = val.length := h7
      have h8' : (at_.length : Int) ≤ 2 * i := h8
      have a1' : (addAV (at_, val) s.1.1 s.2.2.2.2.1).1.length ≤ at_.length + 1 := a1.2
      have hI : InvC (i + 1) l.length l (addS (at_, val) s) := ⟨rfl, by omega, by omega, h6, a2.1, by
        have : (addS (at_, val) s).1.length ≤ (addAV (at_, val) s.1.1 s.2.2.2.2.1).1.length + 1 := a2.2
        omega⟩
      refine ⟨⟨by show at_.length < 1000000; omega, h7⟩, ⟨by show (addAV (at_, val) s.1.1 s.2.2.2.2.1).1.length < 1000000; omega, a1.1⟩, ?_⟩
      show InvC (IntKind.i64.wrap (i + 1)) l.length l (addS (at_, val) s) ∧ ((l.length : Int) - IntKind.i64.wrap (i + 1)).toNat < ((l.length : Int) - i).toNat ∧ (FC ((IntKind.i64.wrap (i + 1), (l.length : Int), l, s.1.2.1, ()), ((addS (at_, val) s).1, (addS (at_, val) s).2, ()), r, ())).satP Q
      rw [hw]
      refine ⟨hI, by omega, hI, ?_⟩
      show (outC r (curveGo (l.drop (i + 1).toNat) s.1.2.1 (addS (at_, val) s))).satP Q
      rw [hn]
      exact hq
  · have hi' : ¬ i < l.length := by simpa using hi
    have hl : l.drop i.toNat = [] := List.drop_eq_nil_of_le (by omega)
    rw [hl] at hq
    exact hq.1 rfl

theorem loopC : Does Try.prog (.loop (loopF Try.f19 0)) ptC.M ptC FC := by
  refine Does.loop (n := 41) (id := 0) semC (inv := fun x => InvC x.1.1 x.1.2.1 x.1.2.2.1 (x.2.1.1, x.2.1.2.1)) (μ := fun x => (x.1.2.1 - x.1.1).toNat) ?_ (fun x Q h => h.1)
  rintro ⟨⟨i, n, l, e, _⟩, ⟨at_, val, _⟩, r, _⟩ hinv Q hq
  exact lawC i n l e at_ val r hinv Q hq.2

noncomputable def ΛC : Nat → St → Option Tr := fun _ => ptC.han CC.Γ ptC.M FC

def curveO (l : List sliceT.den) : Option (List Int × List Int) := if l.length ≤ 2000 then curveGo l 1 ([], []) else none

def frCv2 (x : denP [.d slsT]) : Fr (Oc (denL [stepT])) :=
  Fr.need (InvC 0 x.1.length x.1 ([], []))
    (Fr.br (curveGo (x.1.drop (Int.toNat 0)) 1 ([], [])).isSome (Fr.val (Oc.ok ((((curveGo (x.1.drop (Int.toNat 0)) 1 ([], [])).getD ([], [])).1, ((curveGo (x.1.drop (Int.toNat 0)) 1 ([], [])).getD ([], [])).2, ()), ())))
      (Fr.val (Oc.pan ⟨24, .i64, 1⟩)))

def frCv (x : denP [.d slsT]) : Fr (Oc (denL [stepT])) :=
  Fr.br (decide ((x.1.length : Int) > 2000))
    (Fr.br (cMust.bad (1, ())) (Fr.val (Oc.pan (cMust.pv (1, ())))) (frCv2 x))
    (frCv2 x)

theorem curve_fp : SoundPc Try.prog 19 ⟨[.d slsT], [stepT], fun xs => (frCv xs).get.val, fun xs => (frCv xs).get.bad, fun xs => (frCv xs).get.pv, fun xs => [(frCv xs).ok]⟩ :=
  fp_sound CC_ok (Λ := ΛC) (fn := Try.f19) ([], ()) (by kernel_rfl) (fun c E hc => lam1f hc (by kernel_rfl) (b := loopF Try.f19 0) (by kernel_rfl) (Does.han CC_ok rfl loopC)) (fun xs => by kernel_rfl)

/-- curve: the step, or 'argument'. -/
def curveF (l : List sliceT.den) : stepT.den := (((curveO l).getD ([], [])).1, ((curveO l).getD ([], [])).2, ())
def cCurve : Pc := ⟨[.d slsT], [stepT], fun x => (curveF x.1, ()), fun x => (curveO x.1).isNone, fun _ => ⟨24, .i64, 1⟩, fun _ => []⟩

theorem curve_ok : SoundPc Try.prog 19 cCurve :=
  convP curve_fp _ _ _ _ fun w F xs vs hr _ => by
    obtain ⟨l, _⟩ := xs
    by_cases hl : l.length ≤ 2000
    · have hd : decide ((l.length : Int) > 2000) = false := by simp; omega
      have hI : InvC 0 l.length l ([], []) := ⟨rfl, Int.le_refl _, by omega, hl, rfl, by simp⟩
      have hO : curveO l = curveGo l 1 ([], []) := if_pos hl
      have hget : (frCv (l, ())).get = if (curveGo l 1 ([], [])).isSome = true then Oc.ok (curveF l, ()) else Oc.pan ⟨24, .i64, 1⟩ := by
        show (if decide ((l.length : Int) > 2000) = true then _ else (if (curveGo l 1 ([], [])).isSome = true then Oc.ok _ else Oc.pan _)) = _
        rw [hd]
        unfold curveF
        rw [hO]
        rfl
      refine ⟨⟨fun hb => ?_, fun _ => ⟨hI, fun _ => trivial, fun _ => trivial⟩⟩, ?_, ?_, ?_⟩
      · have hb' : decide ((l.length : Int) > 2000) = true := hb
        rw [hd] at hb'
        cases hb'
      · show (frCv (l, ())).get.bad = (curveO l).isNone
        rw [hget, hO]
        cases curveGo l 1 ([], []) <;> rfl
      · intro hb
        have hb' : (curveO l).isNone = false := hb
        show (frCv (l, ())).get.val = (curveF l, ())
        rw [hget]
        rw [hO] at hb'
        cases h : curveGo l 1 ([], []) with
        | none => rw [h] at hb'; cases hb'
        | some p => rfl
      · intro hb
        have hb' : (curveO l).isNone = true := hb
        show (frCv (l, ())).get.pv = _
        rw [hget]
        rw [hO] at hb'
        cases h : curveGo l 1 ([], []) with
        | none => rfl
        | some p => rw [h] at hb'; cases hb'
    · have hd : decide ((l.length : Int) > 2000) = true := by simp; omega
      have hO : curveO l = none := if_neg hl
      have hget : (frCv (l, ())).get = Oc.pan ⟨24, .i64, 1⟩ := by
        show (if decide ((l.length : Int) > 2000) = true then _ else _) = _
        rw [hd]
        rfl
      refine ⟨⟨fun _ => ⟨fun _ => trivial, fun hc => by cases hc⟩, fun hb => ?_⟩, ?_, ?_, ?_⟩
      · have hb' : decide ((l.length : Int) > 2000) = false := hb
        rw [hd] at hb'
        cases hb'
      · show (frCv (l, ())).get.bad = (curveO l).isNone
        rw [hget, hO]
        rfl
      · intro hb
        have hb' : (curveO l).isNone = false := hb
        rw [hO] at hb'
        cases hb'
      · intro _
        show (frCv (l, ())).get.pv = _
        rw [hget]
        rfl

end Go.Proofs.Ytbfcnjddddjbbaa
