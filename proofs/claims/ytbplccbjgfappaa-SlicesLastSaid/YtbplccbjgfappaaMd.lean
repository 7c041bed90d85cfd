/-
  Parts of the proof, one behind the other: I27, I29, I30, I31.
-/
import Derived.Test.YtbplccbjgfappaaMc
/-
  quote.Year: what a year of covers costs.
-/
namespace Go.Proofs.Ytbplccbjgfappaa
open Go Go.Ab Go.RowKit Go.Proofs

noncomputable def CY1 : Cx := cx [] []
theorem CY1_ok : CxOK Try.prog CY1 := cx_ok (cs := []) (ps := []) mixed trivial trivial
noncomputable def XiY : FuncId → Option (Func × (Nat → St → Option Tr)) := envF [(72, (Try.f72, lam0)), (107, (Try.f107, lam0))]
theorem XiY_ok : ∀ f fn Λ, XiY f = some (fn, Λ) → Try.prog.funcs[f]? = some fn ∧ ∀ c E', fn.body = some c → LamOK Try.prog E' Λ c 0 := fun f fn Λ h => by
  simp only [XiY, envF] at h
  split at h
  · rename_i hf
    subst hf
    cases h
    exact ⟨by kernel_rfl, fun c E' _ => lam0_ok c 0⟩
  · split at h
    · rename_i hf
      subst hf
      cases h
      exact ⟨by kernel_rfl, fun c E' _ => lam0_ok c 0⟩
    · cases h
noncomputable def CY : Cx := cxK [(73, cOne)] [] (inlK Try.prog CY1 XiY)
theorem CY_ok : CxOK Try.prog CY := cxK_ok mixed ⟨one_ok, trivial⟩ trivial (inlK_ok CY1_ok XiY_ok)

def MY : LS := ⟨[(16, .d (.sl coverT)), (17, .d i64), (18, .d i64), (9, .d i64), (10, .d .bool)], [.x 3 79 verT, .r 3 3 0, .x 4 25 riskT, .r 4 4 0, .x 160001 3 i64, .g 8 107 [160001]]⟩
def EY : LS := ⟨[(9, .d i64), (10, .d .bool)], []⟩
def ptY : Pt := ⟨43, 0, MY, EY, ⟨[(6, .d i64), (7, .d i64)], []⟩⟩

def fY1 (v : verT.den) (r : riskT.den) (l : List coverT.den) (n i s : Int) (b : Bool) (q : Int) (c : coverT.den) : Fr ptY.Out :=
  Fr.br ((cOne.f (v, r, c, ())).2.1 != 0) (Fr.val (Rd.back ((0, (cOne.f (v, r, c, ())).2.1, ()), ())))
    (Fr.br b
      (Fr.br (decide ((cOne.f (v, r, c, ())).1 > IntKind.i64.wrap (4000000000000000000 - q)))
        (Fr.val (Rd.next ((l, n, IntKind.i64.wrap (i + 1), 0, false, ()), (v, r, q, ()))))
        (Fr.val (Rd.next ((l, n, IntKind.i64.wrap (i + 1), IntKind.i64.wrap (q + (cOne.f (v, r, c, ())).1), true, ()), (v, r, IntKind.i64.wrap (q + (cOne.f (v, r, c, ())).1), ())))))
      (Fr.val (Rd.next ((l, n, IntKind.i64.wrap (i + 1), s, b, ()), (v, r, q, ())))))
def fY (x : MY.X) : Fr ptY.Out :=
  Fr.br (decide (x.1.2.2.1 < x.1.2.1))
    (Fr.need (0 ≤ x.1.2.2.1 ∧ x.1.2.2.1 < x.1.1.length) (fY1 x.2.1 x.2.2.1 x.1.1 x.1.2.1 x.1.2.2.1 x.1.2.2.2.1 x.1.2.2.2.2.1 x.2.2.2.1 (x.1.1.getD x.1.2.2.1.toNat coverT.dflt)))
    (Fr.val (Rd.out ((x.1.2.2.2.1, x.1.2.2.2.2.1, ()), ())))
theorem semY : Does Try.prog (loopF Try.f38 0) MY ptY fY := Does.of_run CY_ok (bs := 0) rfl rfl rfl (fun _ => lam0_ok _ 0) (fun x => by kernel_rfl)

/-- The sum so far, whether it is told, and why not. -/
def yrGo (v : verT.den) (r : riskT.den) : List coverT.den → Int → Bool → Int × Bool × Int
  | [], q, b => (if b = true then q else 0, b, 0)
  | c :: l, q, b => if (oneF v r c).2 = 0 then
      (if b = true then (if (oneF v r c).1 > 4000000000000000000 - q then yrGo v r l q false else yrGo v r l (q + (oneF v r c).1) true) else yrGo v r l q false)
    else (0, false, (oneF v r c).2)

theorem oneF_pos {v : verT.den} {r : riskT.den} {c : coverT.den} (h : (oneF v r c).2 = 0) : 0 ≤ (oneF v r c).1 := by
  unfold oneF at h ⊢
  split
  · rename_i h1
    rw [if_pos h1] at h
    split
    · exact Int.le_refl 0
    · rename_i h2
      rw [if_neg h2] at h
      split
      · have hv : verB v = true := (Bool.and_eq_true_iff.1 h1).1
        have hmin : 0 ≤ v.2.2.2.2.2.1 := by
          unfold verB at hv
          rw [Bool.and_eq_true] at hv
          exact (of_decide_eq_true hv.1).2.2.1
        show 0 ≤ (if (bpGo (oneL v r c) r.2.1).1 < v.2.2.2.2.2.1 then v.2.2.2.2.2.1 else (bpGo (oneL v r c) r.2.1).1)
        split
        · exact hmin
        · rename_i h3
          exact Int.le_trans hmin (Int.not_lt.1 h3)
      · exact Int.le_refl 0
  · exact Int.le_refl 0

def InY (l : List coverT.den) (n i s : Int) (b : Bool) (q : Int) : Prop := 0 ≤ i ∧ i ≤ n ∧ n = l.length ∧ n ≤ 9223372036854775807 ∧ 0 ≤ q ∧ q ≤ 4000000000000000000 ∧ s = if b = true then q else 0
def outY (y : Int × Bool × Int) : Fr ptY.Out := Fr.br (y.2.2 != 0) (Fr.val (Rd.back ((0, y.2.2, ()), ()))) (Fr.val (Rd.out ((y.1, y.2.1, ()), ())))
def FY (x : MY.X) : Fr ptY.Out := Fr.need (InY x.1.1 x.1.2.1 x.1.2.2.1 x.1.2.2.2.1 x.1.2.2.2.2.1 x.2.2.2.1) (outY (yrGo x.2.1 x.2.2.1 (x.1.1.drop x.1.2.2.1.toNat) x.2.2.2.1 x.1.2.2.2.2.1))

theorem lawY (v : verT.den) (r : riskT.den) (l : List coverT.den) (n i s : Int) (b : Bool) (q : Int) (hinv : InY l n i s b q) (Q : ptY.Out → Prop) (hq : (outY (yrGo v r (l.drop i.toNat) q b)).satP Q) :
    (fY ((l, n, i, s, b, ()), (v, r, q, ()))).satP fun
      | .next x' => InY x'.1.1 x'.1.2.1 x'.1.2.2.1 x'.1.2.2.2.1 x'.1.2.2.2.2.1 x'.2.2.2.1 ∧ (x'.1.2.1 - x'.1.2.2.1).toNat < (n - i).toNat ∧ (FY x').satP Q
      | .out y => Q (.out y)
      | .back z => Q (.back z)
      | .pan p => Q (.pan p) := by
  obtain ⟨h1, h2, rfl, h4, h5, h6, h7⟩ := hinv
  refine ⟨fun hi => ?_, fun hi => ?_⟩
  · have hi' : i < (l.length : Int) := of_decide_eq_true hi
    obtain ⟨k, rfl⟩ : ∃ k : Nat, i = k := ⟨i.toNat, by omega⟩
    have hl : k < l.length := by omega
    have g1 : l.getD (k : Int).toNat coverT.dflt = l[k] := by
      rw [show (k : Int).toNat = k by omega, List.getD_eq_getElem?_getD, List.getElem?_eq_getElem hl]; rfl
    have hw : IntKind.i64.wrap ((k : Int) + 1) = k + 1 := IntWalk.i64_in _ (by omega)
    have hd : l.drop (k : Int).toNat = l[k] :: l.drop (k + 1) := by
      rw [show (k : Int).toNat = k by omega]
      exact List.drop_eq_getElem_cons hl
    have hn1 : ((k : Int) + 1).toNat = k + 1 := by omega
    rw [hd] at hq
    refine ⟨⟨by omega, hi'⟩, ?_⟩
    show (fY1 v r l l.length k s b q (l.getD (k : Int).toNat coverT.dflt)).satP _
    rw [g1]
    unfold fY1
    rw [hw]
    generalize l[k] = c at *
    have hμ : ((l.length : Int) - ((k : Int) + 1)).toNat < ((l.length : Int) - k).toNat := by omega
    refine ⟨fun he => ?_, fun he => ?_⟩
    · have he' : ¬ (oneF v r c).2 = 0 := bne_iff_ne.1 he
      have e : yrGo v r (c :: l.drop (k + 1)) q b = (0, false, (oneF v r c).2) := if_neg he'
      rw [e] at hq
      exact hq.1 he
    · have he' : (oneF v r c).2 = 0 := by
        have : ((oneF v r c).2 != 0) = false := he
        simpa using this
      have hpos := oneF_pos he'
      have e : yrGo v r (c :: l.drop (k + 1)) q b = (if b = true then (if (oneF v r c).1 > 4000000000000000000 - q then yrGo v r (l.drop (k + 1)) q false else yrGo v r (l.drop (k + 1)) (q + (oneF v r c).1) true) else yrGo v r (l.drop (k + 1)) q false) := if_pos he'
      rw [e] at hq
      have hw2 : IntKind.i64.wrap (4000000000000000000 - q) = 4000000000000000000 - q := IntWalk.i64_in _ (by omega)
      refine ⟨fun hb => ?_, fun hb => ?_⟩
      · rw [if_pos hb] at hq
        rw [hw2]
        refine ⟨fun hg => ?_, fun hg => ?_⟩
        · have hg' : (oneF v r c).1 > 4000000000000000000 - q := of_decide_eq_true hg
          rw [if_pos hg'] at hq
          have hI : InY l l.length ((k : Int) + 1) 0 false q := ⟨by omega, by omega, rfl, h4, h5, h6, rfl⟩
          refine ⟨hI, hμ, hI, ?_⟩
          show (outY (yrGo v r (l.drop ((k : Int) + 1).toNat) q false)).satP Q
          rw [hn1]
          exact hq
        · have hg' : ¬ (oneF v r c).1 > 4000000000000000000 - q := of_decide_eq_false hg
          rw [if_neg hg'] at hq
          have hw3 : IntKind.i64.wrap (q + (cOne.f (v, r, c, ())).1) = q + (oneF v r c).1 := IntWalk.i64_in (q + (oneF v r c).1) (by omega)
          rw [hw3]
          have hI : InY l l.length ((k : Int) + 1) (q + (oneF v r c).1) true (q + (oneF v r c).1) := ⟨by omega, by omega, rfl, h4, by omega, by omega, rfl⟩
          refine ⟨hI, hμ, hI, ?_⟩
          show (outY (yrGo v r (l.drop ((k : Int) + 1).toNat) (q + (oneF v r c).1) true)).satP Q
          rw [hn1]
          exact hq
      · subst hb
        rw [if_neg (by decide)] at hq
        have hI : InY l l.length ((k : Int) + 1) s false q := ⟨by omega, by omega, rfl, h4, h5, h6, h7⟩
        refine ⟨hI, hμ, hI, ?_⟩
        show (outY (yrGo v r (l.drop ((k : Int) + 1).toNat) q false)).satP Q
        rw [hn1]
        exact hq
  · have hi' : ¬ i < (l.length : Int) := of_decide_eq_false hi
    have e : l.drop i.toNat = [] := List.drop_eq_nil_of_le (by omega)
    rw [e] at hq
    subst h7
    exact hq.2 rfl

theorem loopY : Does Try.prog (.loop (loopF Try.f38 0)) MY ptY FY := by
  refine Does.loop (n := 43) (id := 0) semY (inv := fun x => InY x.1.1 x.1.2.1 x.1.2.2.1 x.1.2.2.2.1 x.1.2.2.2.2.1 x.2.2.2.1) (μ := fun x => (x.1.2.1 - x.1.2.2.1).toNat) ?_ (fun x Q h => h.1)
  rintro ⟨⟨l, n, i, s, b, _⟩, v, r, q, _⟩ hinv Q hq
  exact lawY v r l n i s b q hinv Q hq.2

/-- What a year of covers costs; or why it is not told. -/
def yearF (v : verT.den) (r : riskT.den) (l : List coverT.den) : Int × Int :=
  if (yrGo v r l 0 true).2.2 = 0 then (if (yrGo v r l 0 true).2.1 = true then ((yrGo v r l 0 true).1, 0) else (0, 5)) else (0, (yrGo v r l 0 true).2.2)
def cYear : Ct := ⟨[.d verT, .d riskT, .d (.sl coverT)], [i64, i64], fun x => ((yearF x.1 x.2.1 x.2.2.1).1, (yearF x.1 x.2.1 x.2.2.1).2, ()), fun _ => []⟩

def frYear (x : denP [.d verT, .d riskT, .d (.sl coverT)]) : Fr (denL [i64, i64]) :=
  Fr.need (InY x.2.2.1 x.2.2.1.length 0 0 true 0)
    (Fr.br ((yrGo x.1 x.2.1 x.2.2.1 0 true).2.2 != 0) (Fr.val (0, (yrGo x.1 x.2.1 x.2.2.1 0 true).2.2, ()))
      (Fr.br (!(yrGo x.1 x.2.1 x.2.2.1 0 true).2.1) (Fr.val (0, 5, ())) (Fr.val ((yrGo x.1 x.2.1 x.2.2.1 0 true).1, 0, ()))))

theorem year_run : SoundCt Try.prog 38 ⟨[.d verT, .d riskT, .d (.sl coverT)], [i64, i64], fun xs => (frYear xs).get, fun xs => [(frYear xs).ok]⟩ :=
  fn_sound CY_ok (Λ := fun _ => ptY.han CY.Γ MY FY) (fn := Try.f38) (fr := frYear) (ps := [.d verT, .d riskT, .d (.sl coverT)]) (rs := [i64, i64]) (verT.dflt, riskT.dflt, [], ()) (by kernel_rfl)
    (fun c E hc => lam1f hc (by kernel_rfl) (b := loopF Try.f38 0) (by kernel_rfl) (Does.han CY_ok rfl loopY)) (fun x => by kernel_rfl)

theorem year_ok : SoundCt Try.prog 38 cYear :=
  convF year_run _ _ (fun w F x vs hr _ => by
    obtain ⟨v, r, l, _⟩ := x
    obtain ⟨v1, vs1, rfl, _, v2, vs2, rfl, _, v3, vs3, rfl, h3, _⟩ := hr
    have hlen : (l.length : Int) ≤ 9223372036854775807 := wf_len h3
    have hI : InY l l.length 0 0 true 0 := ⟨by omega, by omega, rfl, hlen, by decide, by decide, rfl⟩
    refine Fr.need_ hI ?_
    show (Fr.br ((yrGo v r l 0 true).2.2 != 0) (Fr.val (0, (yrGo v r l 0 true).2.2, ())) (Fr.br (!(yrGo v r l 0 true).2.1) (Fr.val (0, 5, ())) (Fr.val ((yrGo v r l 0 true).1, 0, ())))  : Fr (denL [i64, i64])).ok ∧ (Fr.br ((yrGo v r l 0 true).2.2 != 0) (Fr.val (0, (yrGo v r l 0 true).2.2, ())) (Fr.br (!(yrGo v r l 0 true).2.1) (Fr.val (0, 5, ())) (Fr.val ((yrGo v r l 0 true).1, 0, ())))  : Fr (denL [i64, i64])).get = ((yearF v r l).1, (yearF v r l).2, ())
    unfold yearF
    generalize yrGo v r l 0 true = y
    obtain ⟨s, b, e⟩ := y
    by_cases he : e = 0
    · subst he
      refine Fr.br_f rfl ?_
      cases b with
      | true => exact Fr.br_f rfl ⟨trivial, rfl⟩
      | false => exact Fr.br_t rfl ⟨trivial, rfl⟩
    · rw [if_neg he]
      exact Fr.br_t (bne_iff_ne.2 he) ⟨trivial, rfl⟩)

end Go.Proofs.Ytbplccbjgfappaa

/-
  slices.cut, as it is carried out in slices.Of: its loop.
-/
namespace Go.Proofs.Ytbplccbjgfappaa
open Go Go.Ab Go.RowKit Go.Proofs

noncomputable def CC1 : Cx := cx [(52, cHolds)] []
theorem CC1_ok : CxOK Try.prog CC1 := cx_ok (ps := []) mixed ⟨holds_ok, trivial⟩ trivial
noncomputable def XiC : FuncId → Option (Func × (Nat → St → Option Tr)) := envF [(81, (Try.f81, lam0)), (83, (Try.f83, lam0))]
theorem XiC_ok : ∀ f fn Λ, XiC f = some (fn, Λ) → Try.prog.funcs[f]? = some fn ∧ ∀ c E', fn.body = some c → LamOK Try.prog E' Λ c 0 := fun f fn Λ h => by
  simp only [XiC, envF] at h
  split at h
  · rename_i hf
    subst hf
    cases h
    exact ⟨by kernel_rfl, fun c E' _ => lam0_ok c 0⟩
  · split at h
    · rename_i hf
      subst hf
      cases h
      exact ⟨by kernel_rfl, fun c E' _ => lam0_ok c 0⟩
    · cases h
noncomputable def CC2 : Cx := cxK [(82, cOrder)] [] (inlK Try.prog CC1 XiC)
theorem CC2_ok : CxOK Try.prog CC2 := cxK_ok (ps := []) mixed ⟨order_ok, trivial⟩ trivial (inlK_ok CC1_ok XiC_ok)

abbrev msC : List MI := [.x 280001 31 histT, .r 1 280001 0, .x 280003 23 spanT, .r 3 280003 0, .x 280004 46 sliceT, .r 4 280004 0, .y 280005 37 [(some 46, sliceT)], .r 5 280005 0, .g 6 81 [280004, 280005], .x 6 79 verT, .r 10006 6 0]
def MC : LS := ⟨[(26, .d ints), (27, .d i64), (28, .d i64)], msC⟩
def EC : LS := ⟨[], msC⟩
def ptC5 : Pt := ⟨52, 0, MC, EC, ⟨[], []⟩⟩

/-- The last place. -/
def lastI (out : List sliceT.den) : Int := IntKind.i64.wrap ((out.length : Int) - 1)
def setTo (s : sliceT.den) (b : Int) : sliceT.den := ((s.1.1, b, ()), s.2)

/-- What a day's end does. -/
def endT {α : Type} (s : sliceT.den) (out : List sliceT.den) (day : Int) (K : List sliceT.den → Fr α) : Fr α :=
  Fr.br (s.1.1 == day) (K out)
    (Fr.need (decide (lastI out ≥ 0) = true → 0 ≤ lastI out ∧ lastI out < (out.length : Int))
      (Fr.need (decide (lastI out ≥ 0) = true → (lastI out).toNat < out.length)
        (Fr.br (bif decide (lastI out ≥ 0) then (cHolds.f (out.getD (lastI out).toNat sliceT.dflt, setTo s day, ())).1 else false)
          (Fr.need (0 ≤ lastI out ∧ lastI out < (out.length : Int)) (Fr.need ((lastI out).toNat < out.length) (K (out.set (lastI out).toNat (setTo (out.getD (lastI out).toNat sliceT.dflt) day)))))
          (Fr.need (out.length + [setTo s day].length ≤ maxLen ∧ (out.length + [setTo s day].length) * 88 ≤ 140737488355328) (K (out ++ [setTo s day]))))))
/-- What a change does. -/
def doesT {α : Type} (s : sliceT.den) (c : changeT.den) (K : sliceT.den → Fr α) : Fr α :=
  Fr.br (c.2.2.1 == 1) (K (s.1, s.2.1, c.2.2.2.1, s.2.2.2.1, s.2.2.2.2.1, ()))
    (Fr.br (c.2.2.1 == 2) (Fr.need (([] : List coverT.den).length + c.2.2.2.2.1.length ≤ maxLen ∧ (([] : List coverT.den).length + c.2.2.2.2.1.length) * 40 ≤ 140737488355328) (K (s.1, s.2.1, s.2.2.1, [] ++ c.2.2.2.2.1, s.2.2.2.2.1, ())))
      (Fr.br (c.2.2.1 == 3) (K (s.1, false, s.2.2.1, s.2.2.2.1, s.2.2.2.2.1, ()))
        (Fr.br (c.2.2.1 == 4) (K (s.1, true, s.2.2.1, s.2.2.2.1, s.2.2.2.2.1, ())) (K s))))

def frC5 (x : MC.X) : Fr ptC5.Out :=
  let l : List Int := x.1.1; let n : Int := x.1.2.1; let i : Int := x.1.2.2.1; let h : histT.den := x.2.1; let sp : spanT.den := x.2.2.1; let s : sliceT.den := x.2.2.2.1; let out : List sliceT.den := x.2.2.2.2.1.1; let v : verT.den := x.2.2.2.2.2.1
  let j : Int := l.getD i.toNat i64.dflt
  Fr.br (decide (i < n))
    (Fr.need (0 ≤ i ∧ i < (l.length : Int))
      (Fr.need (0 ≤ j ∧ j < ((chL h).length : Int))
        (endT s out (chAt h j).2.1 fun out' =>
          Fr.need (0 ≤ j ∧ j < ((chL h).length : Int))
            (doesT (((chAt h j).2.1, s.1.2.1, ()), s.2) (chAt h j) fun s' => Fr.val (Rd.next ((l, n, IntKind.i64.wrap (i + 1), ()), (h, sp, s', (out', ()), v, ())))))))
    (Fr.val (Rd.out ((), (h, sp, s, (out, ()), v, ()))))
theorem semC5 : Does Try.prog (loopF Try.f41 0) MC ptC5 frC5 := Does.of_run CC2_ok (bs := 280000) rfl rfl rfl (fun _ => lam0_ok _ 0) (fun x => by kernel_rfl)

theorem pushR_eq (s : sliceT.den) : (out : List sliceT.den) → 0 < out.length → pushR out s = if holdsB (out.getD (out.length - 1) sliceT.dflt) s = true then out.set (out.length - 1) (setTo (out.getD (out.length - 1) sliceT.dflt) s.1.2.1) else out ++ [s]
  | [], h => absurd h (by decide)
  | [x], _ => rfl
  | x :: y :: r, _ => by
    have ih := pushR_eq s (y :: r) (by simp)
    have e1 : (x :: y :: r).length - 1 = ((y :: r).length - 1) + 1 := by simp
    have e2 : (x :: y :: r).getD ((x :: y :: r).length - 1) sliceT.dflt = (y :: r).getD ((y :: r).length - 1) sliceT.dflt := by
      rw [e1]
      rfl
    show x :: pushR (y :: r) s = _
    rw [ih, e2, e1]
    split
    · rfl
    · rfl

theorem pushR_length (s : sliceT.den) : (out : List sliceT.den) → (pushR out s).length ≤ out.length + 1
  | [] => by simp [pushR]
  | [x] => by unfold pushR; split <;> simp
  | x :: y :: r => by
    have := pushR_length s (y :: r)
    simp only [pushR, List.length_cons] at this ⊢
    omega
theorem endS_length (s : sliceT.den) (out : List sliceT.den) (day : Int) : (endS s out day).length ≤ out.length + 1 := by
  unfold endS
  split
  · omega
  · exact pushR_length _ _

theorem lastI_eq {out : List sliceT.den} (h : out.length ≤ 1000000) : lastI out = (out.length : Int) - 1 := IntWalk.i64_in _ (by omega)

theorem endT_sat {α : Type} {s : sliceT.den} {out : List sliceT.den} {day : Int} {K : List sliceT.den → Fr α} {Q : α → Prop} (hl : out.length ≤ 1000000) (h : (K (endS s out day)).satP Q) : (endT s out day K).satP Q := by
  unfold endS at h
  have hw := lastI_eq hl
  have hm : out.length + 1 ≤ maxLen ∧ (out.length + 1) * 88 ≤ 140737488355328 := ⟨by unfold maxLen; omega, by omega⟩
  refine ⟨fun hb => ?_, fun hb => ?_⟩
  · have hb' : s.1.1 = day := eq_of_beq (α := Int) hb
    rw [if_pos hb'] at h
    exact h
  · have hb' : ¬ s.1.1 = day := ne_of_beq_false (α := Int) hb
    rw [if_neg hb'] at h
    refine ⟨fun hd => ?_, fun hd => ?_, ?_⟩
    · have := of_decide_eq_true hd
      omega
    · have := of_decide_eq_true hd
      omega
    · by_cases h0 : 0 < out.length
      · have hge : decide (lastI out ≥ 0) = true := decide_eq_true (by omega)
        have ht : (lastI out).toNat = out.length - 1 := by omega
        have hp := pushR_eq (setTo s day) out h0
        rw [hge, ht]
        refine ⟨fun hh => ?_, fun hh => ?_⟩
        · have hh' : holdsB (out.getD (out.length - 1) sliceT.dflt) (setTo s day) = true := hh
          rw [if_pos hh'] at hp
          refine ⟨⟨by omega, by omega⟩, by omega, ?_⟩
          have e : pushR out ((s.1.1, day, ()), s.2) = out.set (out.length - 1) (setTo (out.getD (out.length - 1) sliceT.dflt) day) := hp
          rw [e] at h
          exact h
        · have hh' : ¬ holdsB (out.getD (out.length - 1) sliceT.dflt) (setTo s day) = true := by
            intro hx
            have : holdsB (out.getD (out.length - 1) sliceT.dflt) (setTo s day) = false := hh
            rw [hx] at this
            cases this
          rw [if_neg hh'] at hp
          have e : pushR out ((s.1.1, day, ()), s.2) = out ++ [setTo s day] := hp
          rw [e] at h
          exact ⟨hm, h⟩
      · have h00 : out = [] := List.length_eq_zero_iff.1 (by omega)
        subst h00
        have hge : decide (lastI [] ≥ 0) = false := decide_eq_false (by rw [hw]; decide)
        rw [hge]
        exact ⟨fun hh => (by cases hh), fun _ => ⟨hm, h⟩⟩

theorem doesT_sat {α : Type} {s : sliceT.den} {c : changeT.den} {K : sliceT.den → Fr α} {Q : α → Prop} (hl : c.2.2.2.2.1.length ≤ 1000000) (h : (K (doesC s c)).satP Q) : (doesT s c K).satP Q := by
  unfold doesC at h
  have hm : ([] : List coverT.den).length + c.2.2.2.2.1.length ≤ maxLen ∧ (([] : List coverT.den).length + c.2.2.2.2.1.length) * 40 ≤ 140737488355328 := by
    simp only [List.length_nil, Nat.zero_add]
    exact ⟨by unfold maxLen; omega, by omega⟩
  refine ⟨fun k => ?_, fun k => ⟨fun k2 => ?_, fun k2 => ⟨fun k3 => ?_, fun k3 => ⟨fun k4 => ?_, fun k4 => ?_⟩⟩⟩⟩
  · have k' : c.2.2.1 = 1 := eq_of_beq (α := Int) k
    rw [if_pos k'] at h
    exact h
  · have k' : ¬ c.2.2.1 = 1 := ne_of_beq_false (α := Int) k
    have k2' : c.2.2.1 = 2 := eq_of_beq (α := Int) k2
    rw [if_neg k', if_pos k2'] at h
    exact ⟨hm, h⟩
  · have k' : ¬ c.2.2.1 = 1 := ne_of_beq_false (α := Int) k
    have k2' : ¬ c.2.2.1 = 2 := ne_of_beq_false (α := Int) k2
    have k3' : c.2.2.1 = 3 := eq_of_beq (α := Int) k3
    rw [if_neg k', if_neg k2', if_pos k3'] at h
    exact h
  · have k' : ¬ c.2.2.1 = 1 := ne_of_beq_false (α := Int) k
    have k2' : ¬ c.2.2.1 = 2 := ne_of_beq_false (α := Int) k2
    have k3' : ¬ c.2.2.1 = 3 := ne_of_beq_false (α := Int) k3
    have k4' : c.2.2.1 = 4 := eq_of_beq (α := Int) k4
    rw [if_neg k', if_neg k2', if_neg k3', if_pos k4'] at h
    exact h
  · have k' : ¬ c.2.2.1 = 1 := ne_of_beq_false (α := Int) k
    have k2' : ¬ c.2.2.1 = 2 := ne_of_beq_false (α := Int) k2
    have k3' : ¬ c.2.2.1 = 3 := ne_of_beq_false (α := Int) k3
    have k4' : ¬ c.2.2.1 = 4 := ne_of_beq_false (α := Int) k4
    rw [if_neg k', if_neg k2', if_neg k3', if_neg k4'] at h
    exact h

structure InvC5 (l : List Int) (n i : Int) (h : histT.den) (out : List sliceT.den) : Prop where
  i0 : 0 ≤ i
  il : i ≤ n
  nl : n = l.length
  few : l.length ≤ 500000
  inl : ∀ x ∈ l, 0 ≤ x ∧ x < ((chL h).length : Int)
  cov : ∀ c ∈ chL h, c.2.2.2.2.1.length ≤ 1000000
  outs : (out.length : Int) ≤ i

def FC5 (x : MC.X) : Fr ptC5.Out :=
  let l : List Int := x.1.1; let n : Int := x.1.2.1; let i : Int := x.1.2.2.1; let h : histT.den := x.2.1; let sp : spanT.den := x.2.2.1; let s : sliceT.den := x.2.2.2.1; let out : List sliceT.den := x.2.2.2.2.1.1; let v : verT.den := x.2.2.2.2.2.1
  Fr.need (InvC5 l n i h out) (Fr.val (Rd.out ((), (h, sp, (goCut ((l.drop i.toNat).map (chAt h)) s out).1, ((goCut ((l.drop i.toNat).map (chAt h)) s out).2, ()), v, ()))))

theorem lawC5 (l : List Int) (n i : Int) (h : histT.den) (sp : spanT.den) (s : sliceT.den) (out : List sliceT.den) (v : verT.den) (hinv : InvC5 l n i h out) (Q : ptC5.Out → Prop)
    (hq : Q (Rd.out ((), (h, sp, (goCut ((l.drop i.toNat).map (chAt h)) s out).1, ((goCut ((l.drop i.toNat).map (chAt h)) s out).2, ()), v, ())))) :
    (frC5 ((l, n, i, ()), (h, sp, s, (out, ()), v, ()))).satP fun
      | .next x' => InvC5 x'.1.1 x'.1.2.1 x'.1.2.2.1 x'.2.1 x'.2.2.2.2.1.1 ∧ ((x'.1.2.1 : Int) - x'.1.2.2.1).toNat < (n - i).toNat ∧ (FC5 x').satP Q
      | .out y => Q (.out y)
      | .back z => Q (.back z)
      | .pan p => Q (.pan p) := by
  obtain ⟨h0, h1, rfl, h2, h3, h4, h5⟩ := hinv
  obtain ⟨i', rfl⟩ : ∃ n : Nat, i = n := ⟨i.toNat, by omega⟩
  simp only [Int.toNat_natCast] at hq
  dsimp only [frC5, Fr.satP, Ty.den, PT.den]
  simp only [Int.toNat_natCast]
  refine ⟨fun hi => ?_, fun hi => ?_⟩
  · have hlt : i' < l.length := by have : (i' : Int) < (l.length : Int) := of_decide_eq_true hi; omega
    have w : IntKind.i64.wrap ((i' : Int) + 1) = (i' + 1 : Nat) := succ_nat (by omega)
    rw [w]
    have hm := h3 _ (getD_mem (d := (0 : Int)) hlt)
    rw [drop_at hlt, List.map_cons] at hq
    have hcm : chAt h (l.getD i' 0) ∈ chL h := by
      unfold chAt
      exact getD_mem (by omega)
    have hE := endS_length s out (chAt h (l.getD i' 0)).2.1
    have hI : InvC5 l (l.length : Int) ((i' + 1 : Nat) : Int) h (endS s out (chAt h (l.getD i' 0)).2.1) := ⟨by omega, by omega, rfl, h2, h3, h4, by omega⟩
    have hμ : ((l.length : Int) - ((i' + 1 : Nat) : Int)).toNat < ((l.length : Int) - (i' : Int)).toNat := by omega
    refine ⟨⟨by omega, by omega⟩, hm, endT_sat (by omega) ⟨hm, doesT_sat (h4 _ hcm) ⟨hI, hμ, hI, hq⟩⟩⟩
  · have hge : ¬ i' < l.length := by have : ¬ (i' : Int) < (l.length : Int) := of_decide_eq_false hi; omega
    rw [List.drop_eq_nil_of_le (by omega)] at hq
    exact hq

theorem loopC5 : Does Try.prog (.loop (loopF Try.f41 0)) MC ptC5 FC5 := by
  refine Does.loop (n := 52) (id := 0) semC5 (inv := fun x => InvC5 x.1.1 x.1.2.1 x.1.2.2.1 x.2.1 x.2.2.2.2.1.1) (μ := fun x => ((x.1.2.1 : Int) - x.1.2.2.1).toNat) ?_ (fun x Q h => h.1)
  rintro ⟨⟨l, n, i, _⟩, h, sp, s, ⟨out, _⟩, v, _⟩ hinv Q hq
  exact lawC5 l n i h sp s out v hinv Q hq.2

end Go.Proofs.Ytbplccbjgfappaa

/-
  slices.Of: a policy's slices, and what a year of each costs.
-/
namespace Go.Proofs.Ytbplccbjgfappaa
open Go Go.Ab Go.RowKit Go.Proofs

noncomputable def XiOf : FuncId → Option (Func × (Nat → St → Option Tr)) := envF [(41, (Try.f41, fun _ => ptC5.han CC2.Γ MC FC5))]
theorem XiOf_ok : ∀ f fn Λ, XiOf f = some (fn, Λ) → Try.prog.funcs[f]? = some fn ∧ ∀ c E', fn.body = some c → LamOK Try.prog E' Λ c 0 := fun f fn Λ h => by
  simp only [XiOf, envF] at h
  split at h
  · rename_i hf
    subst hf
    cases h
    exact ⟨by kernel_rfl, fun c E' hc => lam1f hc (by kernel_rfl) (b := loopF Try.f41 0) (by kernel_rfl) (Does.han CC2_ok rfl loopC5)⟩
  · cases h
noncomputable def COf : Cx := cxK [(40, cHist), (37, cTarAt), (38, cYear)] [] (inlK Try.prog CC2 XiOf)
theorem COf_ok : CxOK Try.prog COf := cxK_ok (ps := []) mixed ⟨sRight_ok, tarAt_ok, year_ok, trivial⟩ trivial (inlK_ok CC2_ok XiOf_ok)

def MO : LS := ⟨[(29, .d i64), (30, .d i64)], [.o 8 46 sliceT, .al 28 8, .x 6 79 verT, .r 6 6 0]⟩
def EO : LS := ⟨[], [.o 8 46 sliceT]⟩
def ptO : Pt := ⟨56, 0, MO, EO, ⟨[(4, .d slsT), (5, .d i64)], []⟩⟩

def yrS (v : verT.den) (s : sliceT.den) : Int × Int := yearF v s.2.2.1 s.2.2.2.1
def setY (s : sliceT.den) (y : Int) : sliceT.den := (s.1, s.2.1, s.2.2.1, s.2.2.2.1, y, ())
def fO (x : MO.X) : Fr ptO.Out :=
  let n : Int := x.1.1; let i : Int := x.1.2.1; let l : List sliceT.den := x.2.1; let v : verT.den := x.2.2.1
  let s : sliceT.den := l.getD i.toNat sliceT.dflt
  Fr.br (decide (i < n))
    (Fr.need (0 ≤ i ∧ i < (l.length : Int)) (Fr.need (i.toNat < l.length)
      (Fr.br (!s.2.1) (Fr.val (Rd.next ((n, IntKind.i64.wrap (i + 1), ()), (l, v, ()))))
        (Fr.need (0 ≤ i ∧ i < (l.length : Int)) (Fr.need (i.toNat < l.length)
          (Fr.br ((cYear.f (v, s.2.2.1, s.2.2.2.1, ())).2.1 != 0) (Fr.val (Rd.back (([], (cYear.f (v, s.2.2.1, s.2.2.2.1, ())).2.1, ()), ())))
            (Fr.val (Rd.next ((n, IntKind.i64.wrap (i + 1), ()), (l.set i.toNat (setY s (cYear.f (v, s.2.2.1, s.2.2.2.1, ())).1), v, ()))))))))))
    (Fr.val (Rd.out ((), (l, ()))))
theorem semO : Does Try.prog (loopF Try.f17 0) MO ptO fO := Does.of_run COf_ok (bs := 0) rfl rfl rfl (fun _ => lam0_ok _ 0) (fun x => by kernel_rfl)

/-- A slice, with what a year costs. -/
def priceV (v : verT.den) (s : sliceT.den) : sliceT.den := if s.2.1 = true then setY s (yrS v s).1 else s
/-- Why that isn't told. -/
def errP (v : verT.den) : List sliceT.den → Int
  | [] => 0
  | s :: l => if s.2.1 = true then (if (yrS v s).2 = 0 then errP v l else (yrS v s).2) else errP v l

structure InvO (n i : Int) (l : List sliceT.den) : Prop where
  i0 : 0 ≤ i
  il : i ≤ n
  nl : n = l.length
  few : l.length ≤ 1000000
def outO (l : List sliceT.den) (e : Int) : Fr ptO.Out := Fr.br (e != 0) (Fr.val (Rd.back (([], e, ()), ()))) (Fr.val (Rd.out ((), (l, ()))))
def FO (x : MO.X) : Fr ptO.Out :=
  let n : Int := x.1.1; let i : Int := x.1.2.1; let l : List sliceT.den := x.2.1; let v : verT.den := x.2.2.1
  Fr.need (InvO n i l) (outO (l.take i.toNat ++ (l.drop i.toNat).map (priceV v)) (errP v (l.drop i.toNat)))

theorem lawO (n i : Int) (l : List sliceT.den) (v : verT.den) (hinv : InvO n i l) (Q : ptO.Out → Prop) (hq : (outO (l.take i.toNat ++ (l.drop i.toNat).map (priceV v)) (errP v (l.drop i.toNat))).satP Q) :
    (fO ((n, i, ()), (l, v, ()))).satP fun
      | .next x' => InvO x'.1.1 x'.1.2.1 x'.2.1 ∧ ((x'.1.1 : Int) - x'.1.2.1).toNat < (n - i).toNat ∧ (FO x').satP Q
      | .out y => Q (.out y)
      | .back z => Q (.back z)
      | .pan p => Q (.pan p) := by
  obtain ⟨h0, h1, rfl, h2⟩ := hinv
  obtain ⟨i', rfl⟩ : ∃ n : Nat, i = n := ⟨i.toNat, by omega⟩
  simp only [Int.toNat_natCast] at hq
  dsimp only [fO, Fr.satP, Ty.den, PT.den]
  simp only [Int.toNat_natCast]
  refine ⟨fun hi => ?_, fun hi => ?_⟩
  · have hlt : i' < l.length := by have : (i' : Int) < (l.length : Int) := of_decide_eq_true hi; omega
    have w : IntKind.i64.wrap ((i' : Int) + 1) = (i' + 1 : Nat) := succ_nat (by omega)
    rw [w]
    have hg : l.getD i' sliceT.dflt = l[i'] := by rw [List.getD_eq_getElem?_getD, List.getElem?_eq_getElem hlt]; rfl
    have hd : l.drop i' = l.getD i' sliceT.dflt :: l.drop (i' + 1) := by rw [hg]; exact List.drop_eq_getElem_cons hlt
    have hμ : ((l.length : Int) - ((i' + 1 : Nat) : Int)).toNat < ((l.length : Int) - (i' : Int)).toNat := by omega
    have hb : 0 ≤ (i' : Int) ∧ (i' : Int) < (l.length : Int) := ⟨by omega, by omega⟩
    rw [hd] at hq
    generalize hs : l.getD i' sliceT.dflt = s at *
    have htk : l.take (i' + 1) = l.take i' ++ [s] := by
      rw [hg]
      exact (List.take_append_getElem hlt).symm
    refine ⟨hb, hlt, fun hoff => ?_, fun hon => ⟨hb, hlt, fun he => ?_, fun he => ?_⟩⟩
    · have hoff' : ¬ s.2.1 = true := by
        intro hx
        rw [hx] at hoff
        cases hoff
      have hI : InvO (l.length : Int) ((i' + 1 : Nat) : Int) l := ⟨by omega, by omega, rfl, h2⟩
      refine ⟨hI, hμ, hI, ?_⟩
      have e1 : errP v (s :: l.drop (i' + 1)) = errP v (l.drop (i' + 1)) := if_neg hoff'
      have e2 : priceV v s = s := if_neg hoff'
      rw [e1, List.map_cons, e2] at hq
      show (outO (l.take (i' + 1) ++ (l.drop (i' + 1)).map (priceV v)) (errP v (l.drop (i' + 1)))).satP Q
      rw [htk, List.append_assoc]
      exact hq
    · have hon' : s.2.1 = true := by
        cases hx : s.2.1 with
        | true => rfl
        | false => rw [hx] at hon; cases hon
      have he' : ¬ (yrS v s).2 = 0 := bne_iff_ne.1 he
      have e1 : errP v (s :: l.drop (i' + 1)) = (yrS v s).2 := by
        unfold errP
        rw [if_pos hon', if_neg he']
      rw [e1] at hq
      exact hq.1 he
    · have hon' : s.2.1 = true := by
        cases hx : s.2.1 with
        | true => rfl
        | false => rw [hx] at hon; cases hon
      have he' : (yrS v s).2 = 0 := by
        have : ((yrS v s).2 != 0) = false := he
        simpa using this
      have hlen : (l.set i' (setY s (yrS v s).1)).length = l.length := List.length_set
      have hI : InvO (l.length : Int) ((i' + 1 : Nat) : Int) (l.set i' (setY s (yrS v s).1)) := ⟨by omega, by omega, by rw [hlen], by rw [hlen]; exact h2⟩
      refine ⟨hI, hμ, hI, ?_⟩
      have e1 : errP v (s :: l.drop (i' + 1)) = errP v (l.drop (i' + 1)) := by
        conv => lhs; unfold errP
        rw [if_pos hon', if_pos he']
      have e2 : priceV v s = setY s (yrS v s).1 := if_pos hon'
      rw [e1, List.map_cons, e2] at hq
      show (outO ((l.set i' (setY s (yrS v s).1)).take (i' + 1) ++ ((l.set i' (setY s (yrS v s).1)).drop (i' + 1)).map (priceV v)) (errP v ((l.set i' (setY s (yrS v s).1)).drop (i' + 1)))).satP Q
      have e3 : (l.set i' (setY s (yrS v s).1)).drop (i' + 1) = l.drop (i' + 1) := List.drop_set_of_lt (by omega)
      have e4 : (l.set i' (setY s (yrS v s).1)).take (i' + 1) = l.take i' ++ [setY s (yrS v s).1] := by
        rw [List.take_add_one, List.take_set_of_le (by omega)]
        simp [hlt]
      rw [e3, e4, List.append_assoc]
      exact hq
  · have hge : ¬ i' < l.length := by have : ¬ (i' : Int) < (l.length : Int) := of_decide_eq_false hi; omega
    rw [List.drop_eq_nil_of_le (by omega), List.take_of_length_le (by omega)] at hq
    have hq' := hq.2 rfl
    simp only [List.map_nil, List.append_nil] at hq'
    exact hq'

theorem loopO : Does Try.prog (.loop (loopF Try.f17 0)) MO ptO FO := by
  refine Does.loop (n := 56) (id := 0) semO (inv := fun x => InvO x.1.1 x.1.2.1 x.2.1) (μ := fun x => ((x.1.1 : Int) - x.1.2.1).toNat) ?_ (fun x Q h => h.1)
  rintro ⟨⟨n, i, _⟩, l, v, _⟩ hinv Q hq
  exact lawO n i l v hinv Q hq.2

def frOf1 (v : verT.den) (l : List sliceT.den) : Fr (denL [slsT, i64]) :=
  Fr.need (InvO l.length 0 l) (Fr.br (errP v (l.drop (0 : Int).toNat) != 0) (Fr.val ([], errP v (l.drop (0 : Int).toNat), ())) (Fr.val (l.take (0 : Int).toNat ++ (l.drop (0 : Int).toNat).map (priceV v), 0, ())))
def goH (h : histT.den) : sliceT.den × List sliceT.den := goCut (((orderL h).drop (0 : Int).toNat).map (chAt h)) ((h.2.2.1.1.1, 0, ()), true, h.2.2.1.2.1, [] ++ h.2.2.1.2.2.1, 0, ()) []
def frOfF (x : denP [.d histT, .d tarT]) : Fr (denL [slsT, i64]) :=
  Fr.br (!(cHist.f (x.1, ())).1) (Fr.val ([], 1, ()))
    (Fr.need (fewT x.2.1)
      (Fr.br ((cTarAt.f (x.2.1, x.1.2.2.1.1.1, ())).2.1 != 0) (Fr.val ([], (cTarAt.f (x.2.1, x.1.2.2.1.1.1, ())).2.1, ()))
        (Fr.need (([] : List coverT.den).length + x.1.2.2.1.2.2.1.length ≤ maxLen ∧ (([] : List coverT.den).length + x.1.2.2.1.2.2.1.length) * 40 ≤ 140737488355328)
          (Fr.need (((chL x.1).length : Int) ≤ 1000000)
            (Fr.need (InvC5 (orderL x.1) ((orderL x.1).length : Int) 0 x.1 [])
              (endT (goH x.1).1 (goH x.1).2 x.1.2.2.1.1.2.1 (frOf1 (cTarAt.f (x.2.1, x.1.2.2.1.1.1, ())).1)))))))

theorem of_run : SoundCt Try.prog 17 ⟨[.d histT, .d tarT], [slsT, i64], fun xs => (frOfF xs).get, fun xs => [(frOfF xs).ok]⟩ :=
  fn_sound COf_ok (Λ := fun _ => ptO.han COf.Γ MO FO) (fn := Try.f17) (fr := frOfF) (ps := [.d histT, .d tarT]) (rs := [slsT, i64]) (histT.dflt, tarT.dflt, ()) (by kernel_rfl)
    (fun c E hc => lam1f hc (by kernel_rfl) (b := loopF Try.f17 0) (by kernel_rfl) (Does.han COf_ok rfl loopO)) (fun x => by kernel_rfl)

/-- Of lists that memory bears. -/
def fewH (h : histT.den) : Prop := (chL h).length ≤ 500000 ∧ h.2.2.1.2.2.1.length ≤ 1000000 ∧ ∀ c ∈ chL h, c.2.2.2.2.1.length ≤ 1000000

/-- A policy's slices; or why there are none. -/
def ofF (h : histT.den) (t : tarT.den) : List sliceT.den × Int :=
  if histB h = true then
    (if (verAt h.2.2.1.1.1 t.1.reverse).2 = 0 then
      (if errP (verAt h.2.2.1.1.1 t.1.reverse).1 (cutL h) = 0 then ((cutL h).map (priceV (verAt h.2.2.1.1.1 t.1.reverse).1), 0) else ([], errP (verAt h.2.2.1.1.1 t.1.reverse).1 (cutL h)))
    else ([], (verAt h.2.2.1.1.1 t.1.reverse).2))
  else ([], 1)
def cOf : Ct := ⟨[.d histT, .d tarT], [slsT, i64], fun x => ((ofF x.1 x.2.1).1, (ofF x.1 x.2.1).2, ()), fun x => [fewH x.1, fewT x.2.1]⟩

theorem orderL_length (h : histT.den) : (orderL h).length = (chL h).length := by
  unfold orderL
  rw [sortB_length, rangeI_length]
theorem orderL_mem {h : histT.den} {x : Int} (hx : x ∈ orderL h) : 0 ≤ x ∧ x < ((chL h).length : Int) := rangeI_mem (sortB_mem.1 hx)

theorem goCut_length : (l : List changeT.den) → (s : sliceT.den) → (out : List sliceT.den) → (goCut l s out).2.length ≤ out.length + l.length
  | [], _, _ => Nat.le_refl _
  | c :: l, s, out => by
    have h1 := goCut_length l (doesC ((c.2.1, s.1.2.1, ()), s.2) c) (endS s out c.2.1)
    have h2 := endS_length s out c.2.1
    simp only [goCut, List.length_cons]
    omega

theorem of_ok : SoundCt Try.prog 17 cOf :=
  convF of_run _ _ (fun w F x vs hr hok => by
    obtain ⟨h, t, _⟩ := x
    obtain ⟨⟨f1, f2, f3⟩, f4⟩ : fewH h ∧ fewT t := hok
    show (frOfF (h, t, ())).ok ∧ (frOfF (h, t, ())).get = ((ofF h t).1, (ofF h t).2, ())
    unfold ofF
    cases hh : histB h with
    | false =>
      refine Fr.br_t ?_ ⟨trivial, rfl⟩
      show (!(histB h)) = true
      rw [hh]
      rfl
    | true =>
      rw [if_pos rfl]
      refine Fr.br_f ?_ (Fr.need_ f4 ?_)
      · show (!(histB h)) = false
        rw [hh]
        rfl
      · by_cases hv : (verAt h.2.2.1.1.1 t.1.reverse).2 = 0
        · rw [if_pos hv]
          refine Fr.br_f ?_ (Fr.need_ ?_ (Fr.need_ ?_ (Fr.need_ ?_ ?_)))
          · show ((verAt h.2.2.1.1.1 t.1.reverse).2 != 0) = false
            rw [hv]
            rfl
          · show ([] : List coverT.den).length + h.2.2.1.2.2.1.length ≤ maxLen ∧ (([] : List coverT.den).length + h.2.2.1.2.2.1.length) * 40 ≤ 140737488355328
            simp only [List.length_nil, Nat.zero_add]
            exact ⟨by unfold maxLen; omega, by omega⟩
          · show ((chL h).length : Int) ≤ 1000000
            omega
          · show InvC5 (orderL h) ((orderL h).length : Int) 0 h []
            exact ⟨Int.le_refl _, Int.natCast_nonneg _, rfl, by rw [orderL_length]; exact f1, fun x hx => orderL_mem hx, f3, Int.le_refl _⟩
          · have hgo : (goH h).2.length ≤ 500000 := by
              have := goCut_length (((orderL h).drop (0 : Int).toNat).map (chAt h)) ((h.2.2.1.1.1, 0, ()), true, h.2.2.1.2.1, [] ++ h.2.2.1.2.2.1, 0, ()) []
              have e : (((orderL h).drop (0 : Int).toNat).map (chAt h)).length = (chL h).length := by
                rw [List.length_map]
                exact orderL_length h
              rw [e] at this
              have h2 : (goH h).2.length ≤ 0 + (chL h).length := this
              omega
            have hcut : endS (goH h).1 (goH h).2 h.2.2.1.1.2.1 = cutL h := rfl
            have hclen : (cutL h).length ≤ 1000000 := by
              rw [← hcut]
              have := endS_length (goH h).1 (goH h).2 h.2.2.1.1.2.1
              omega
            have hkey : (frOf1 (verAt h.2.2.1.1.1 t.1.reverse).1 (cutL h)).ok ∧ (frOf1 (verAt h.2.2.1.1.1 t.1.reverse).1 (cutL h)).get = ((if errP (verAt h.2.2.1.1.1 t.1.reverse).1 (cutL h) = 0 then ((cutL h).map (priceV (verAt h.2.2.1.1.1 t.1.reverse).1), (0 : Int)) else ([], errP (verAt h.2.2.1.1.1 t.1.reverse).1 (cutL h))).1, (if errP (verAt h.2.2.1.1.1 t.1.reverse).1 (cutL h) = 0 then ((cutL h).map (priceV (verAt h.2.2.1.1.1 t.1.reverse).1), (0 : Int)) else ([], errP (verAt h.2.2.1.1.1 t.1.reverse).1 (cutL h))).2, ()) := by
              refine Fr.need_ ⟨Int.le_refl _, Int.natCast_nonneg _, rfl, hclen⟩ ?_
              by_cases he : errP (verAt h.2.2.1.1.1 t.1.reverse).1 (cutL h) = 0
              · rw [if_pos he]
                refine Fr.br_f ?_ ⟨trivial, rfl⟩
                show (errP (verAt h.2.2.1.1.1 t.1.reverse).1 (cutL h) != 0) = false
                rw [he]
                rfl
              · rw [if_neg he]
                exact Fr.br_t (bne_iff_ne.2 he) ⟨trivial, rfl⟩
            have hs := endT_sat (s := (goH h).1) (out := (goH h).2) (day := h.2.2.1.1.2.1) (K := frOf1 (verAt h.2.2.1.1.1 t.1.reverse).1) (Q := fun y => y = ((if errP (verAt h.2.2.1.1.1 t.1.reverse).1 (cutL h) = 0 then ((cutL h).map (priceV (verAt h.2.2.1.1.1 t.1.reverse).1), (0 : Int)) else ([], errP (verAt h.2.2.1.1.1 t.1.reverse).1 (cutL h))).1, (if errP (verAt h.2.2.1.1.1 t.1.reverse).1 (cutL h) = 0 then ((cutL h).map (priceV (verAt h.2.2.1.1.1 t.1.reverse).1), (0 : Int)) else ([], errP (verAt h.2.2.1.1.1 t.1.reverse).1 (cutL h))).2, ())) (by omega) (by
              rw [hcut]
              exact Fr.satP_of hkey.1 hkey.2)
            exact Fr.satP_get hs
        · rw [if_neg hv]
          refine Fr.br_t ?_ ⟨trivial, rfl⟩
          show ((verAt h.2.2.1.1.1 t.1.reverse).2 != 0) = true
          exact bne_iff_ne.2 hv)

end Go.Proofs.Ytbplccbjgfappaa

/-
  The chapter's example.
-/
namespace Go.Proofs.Ytbplccbjgfappaa
open Go Go.Ab Go.RowKit Go.Proofs

def T0 : tarT.den := ([(1, (100, 100, 100, 100, ()), [], [10000], [10000, 10000, 10000, 10000, 10000, 10000, 10000, 10000], 0, ())], ())
def X0 : termsT.den := ((1, 101, ()), (0, 36500, 0, 0, ()), [(1, 1000, 1000, 0, 10000, ())], ())
def H0 : histT.den := (1, 1, X0, [(1, 41, 3, (0, 0, 0, 0, ()), [], 0, ()), (2, 61, 4, (0, 0, 0, 0, ()), [], 0, ())], ())
def cSome : Ct := ⟨[], [tarT, termsT], fun _ => (T0, X0, ()), fun _ => []⟩
theorem some_ok : SoundCt Try.prog 22 cSome :=
  convF (fn_sound CI17_ok (Λ := lam0) (fn := Try.f22) (fr := fun _ => Fr.val (T0, X0, ())) (ps := []) (rs := [tarT, termsT]) () (by kernel_rfl) (fun c E _ => lam0_ok c 0) (fun x => by kernel_rfl)) _ _ (fun _ _ _ _ _ _ => ⟨trivial, rfl⟩)

noncomputable def CAw : Cx := cx [(22, cSome), (17, cOf)] []
theorem CAw_ok : CxOK Try.prog CAw := cx_ok mixed ⟨some_ok, of_ok, trivial⟩ trivial
noncomputable def frAw (x : denP []) : Fr (denL [.bool]) := (runFn Try.prog CAw lam0 Try.f15 [] [.bool] x).getD (Fr.need False (Fr.val (false, ())))
theorem frAw_way : Fr.way (frAw ()) = Fr.need (fewH H0) (Fr.need (fewT T0)
  (Fr.need (true = true → (0 : Int) ≤ 0 ∧ (0 : Int) < ((3 : Nat) : Int)) (Fr.need (true = true → (0 : Int) ≤ 0 ∧ (0 : Int) < ((3 : Nat) : Int)) (Fr.need (true = true → (0 : Int) ≤ 0 ∧ (0 : Int) < ((3 : Nat) : Int))
    (Fr.need (true = true → (0 : Int) ≤ 1 ∧ (1 : Int) < ((3 : Nat) : Int)) (Fr.need (true = true → (0 : Int) ≤ 1 ∧ (1 : Int) < ((3 : Nat) : Int)) (Fr.need (true = true → (0 : Int) ≤ 1 ∧ (1 : Int) < ((3 : Nat) : Int))
      (Fr.need (true = true → (0 : Int) ≤ 2 ∧ (2 : Int) < ((3 : Nat) : Int)) (Fr.need (true = true → (0 : Int) ≤ 2 ∧ (2 : Int) < ((3 : Nat) : Int)) (Fr.val (true, ())))))))))))  := by kernel_rfl

def cYes : Ct := ⟨[], [.bool], fun _ => (true, ()), fun _ => []⟩
theorem fewH0 : fewH H0 := by
  refine ⟨by decide, by decide, fun c hc => ?_⟩
  simp only [chL, H0, List.mem_cons, List.not_mem_nil, or_false] at hc
  rcases hc with rfl | rfl <;> decide
theorem fewT0 : fewT T0 := by
  refine ⟨by decide, fun v hv => ?_⟩
  simp only [T0, List.mem_cons, List.not_mem_nil, or_false] at hv
  subst hv
  exact ⟨by decide, by decide, by decide⟩
theorem awake_ok : SoundCt Try.prog 15 cYes :=
  convF (fn_sound CAw_ok (Λ := lam0) (fn := Try.f15) (fr := frAw) (ps := []) (rs := [.bool]) () (by kernel_rfl) (fun c E _ => lam0_ok c 0) (fun x => by kernel_rfl)) _ _ (fun w F x vs _ _ => by
    have h0 : ((0 : Int) ≤ 0 ∧ (0 : Int) < ((3 : Nat) : Int)) := by decide
    have h1 : ((0 : Int) ≤ 1 ∧ (1 : Int) < ((3 : Nat) : Int)) := by decide
    have h2 : ((0 : Int) ≤ 2 ∧ (2 : Int) < ((3 : Nat) : Int)) := by decide
    exact Fr.way_eq frAw_way ⟨fewH0, fewT0, fun _ => h0, fun _ => h0, fun _ => h0, fun _ => h1, fun _ => h1, fun _ => h1, fun _ => h2, fun _ => h2, trivial⟩)

end Go.Proofs.Ytbplccbjgfappaa
