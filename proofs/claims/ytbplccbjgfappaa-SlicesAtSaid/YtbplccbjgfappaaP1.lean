/-
  Parts of the proof, one behind the other: J1.
-/
import Derived.Test.YtbplccbjgfappaaMd
/-
  SlicesAt: the law's contract.
-/
namespace Go.Proofs.Ytbplccbjgfappaa
open Go Go.Ab Go.RowKit Go.Proofs

noncomputable def CLA : Cx := cx [(15, cYes), (25, cSliceEq), (21, cSliceEq), (20, cAt), (26, cAt)] []
theorem CLA_ok : CxOK Try.prog CLA := cx_ok mixed ⟨awake_ok, slices_Same_ok, r12_Same_ok, slices_At_ok, r12_At_ok, trivial⟩ trivial

abbrev pt_lAt : Pt := ⟨86, 0, ⟨[(8, .d i64), (0, .d slsT), (1, .d i64), (7, .d .bool)], [.x 5 46 sliceT, .r 5 5 0]⟩, ⟨[(0, .d slsT), (1, .d i64), (7, .d .bool)], [.x 5 46 sliceT, .r 5 5 0]⟩, ⟨[(6, .d .bool)], []⟩⟩
def fr_lAt (x : pt_lAt.M.X) : Fr pt_lAt.Out :=
  let i : Int := x.1.1; let l : List sliceT.den := x.1.2.1; let d : Int := x.1.2.2.1; let b : Bool := x.1.2.2.2.1; let X : sliceT.den := x.2.1
  let E : sliceT.den := l.getD i.toNat sliceT.dflt
  Fr.br (decide (i < (l.length : Int)))
    (Fr.need (0 ≤ i ∧ i < (l.length : Int))
      (Fr.br (decide ((E.2.2.2.1.length : Int) > 50)) (Fr.val (Rd.back ((b, ()), ())))
        (Fr.need (0 ≤ i ∧ i < (l.length : Int)) (Fr.need (0 ≤ i ∧ i < (l.length : Int))
          (Fr.need ((!(cSliceEq.f (E, X, ())).1 == (cSliceEq.f (E, X, ())).1) = false → 0 ≤ i ∧ i < (l.length : Int)) (Fr.need ((!(cSliceEq.f (E, X, ())).1 == (cSliceEq.f (E, X, ())).1) = false → 0 ≤ i ∧ i < (l.length : Int))
            (Fr.br (bif !(cSliceEq.f (E, X, ())).1 == (cSliceEq.f (E, X, ())).1 then true else !(cSliceEq.f (E, E, ())).1) (Fr.val (Rd.back ((false, ()), ())))
              (Fr.val (Rd.next ((IntKind.i64.wrap (i + 1), l, d, b, ()), (X, ()))))))))))
      ) (Fr.val (Rd.out ((l, d, b, ()), (X, ()))))
theorem sem_lAt : Does Try.prog (loopF Try.f7 0) pt_lAt.M pt_lAt fr_lAt :=
  Does.of_run CLA_ok (bs := 0) (Λ := lam0) rfl rfl rfl (fun E => lam0_ok _ 0) (fun x => by kernel_rfl)

theorem sliceEq_refl (s : sliceT.den) : sliceEq s s = true := by
  have h := holdsB_iff.2 (rfl : coreS s = coreS s)
  simp [sliceEq, h]

def InLAt (l : List sliceT.den) (i : Int) : Prop := 0 ≤ i ∧ i ≤ l.length ∧ (l.length : Int) ≤ 9223372036854775807
def bigL (l : List sliceT.den) : Bool := l.any fun s => decide (s.2.2.2.1.length > 50)
def FLAt (x : pt_lAt.M.X) : Fr pt_lAt.Out :=
  let i : Int := x.1.1; let l : List sliceT.den := x.1.2.1; let d : Int := x.1.2.2.1; let b : Bool := x.1.2.2.2.1; let X : sliceT.den := x.2.1
  Fr.need (InLAt l i) (Fr.br (bigL (l.drop i.toNat)) (Fr.val (Rd.back ((b, ()), ()))) (Fr.val (Rd.out ((l, d, b, ()), (X, ())))))

theorem lawLAt (i : Int) (l : List sliceT.den) (d : Int) (b : Bool) (X : sliceT.den) (hinv : InLAt l i) (Q : pt_lAt.Out → Prop)
    (hq : (Fr.br (bigL (l.drop i.toNat)) (Fr.val (Rd.back ((b, ()), ()))) (Fr.val (Rd.out ((l, d, b, ()), (X, ())))) : Fr pt_lAt.Out).satP Q) :
    (fr_lAt ((i, l, d, b, ()), (X, ()))).satP fun
      | .next x' => InLAt x'.1.2.1 x'.1.1 ∧ ((List.length (α := sliceT.den) x'.1.2.1 : Int) - x'.1.1).toNat < ((l.length : Int) - i).toNat ∧ (FLAt x').satP Q
      | .out y => Q (.out y)
      | .back z => Q (.back z)
      | .pan p => Q (.pan p) := by
  obtain ⟨h0, h1, h2⟩ := hinv
  obtain ⟨i', rfl⟩ : ∃ n : Nat, i = n := ⟨i.toNat, by omega⟩
  simp only [Int.toNat_natCast] at hq
  dsimp only [fr_lAt, Fr.satP, Ty.den, PT.den]
  simp only [Int.toNat_natCast]
  refine ⟨fun hi => ?_, fun hi => ?_⟩
  · have hlt : i' < l.length := by have : (i' : Int) < (l.length : Int) := of_decide_eq_true hi; omega
    have w : IntKind.i64.wrap ((i' : Int) + 1) = (i' + 1 : Nat) := succ_nat (by omega)
    have hg : l.getD i' sliceT.dflt = l[i'] := by rw [List.getD_eq_getElem?_getD, List.getElem?_eq_getElem hlt]; rfl
    have hd : l.drop i' = l.getD i' sliceT.dflt :: l.drop (i' + 1) := by rw [hg]; exact List.drop_eq_getElem_cons hlt
    have hb : 0 ≤ (i' : Int) ∧ (i' : Int) < (l.length : Int) := ⟨by omega, by omega⟩
    have hμ : ((l.length : Int) - ((i' + 1 : Nat) : Int)).toNat < ((l.length : Int) - (i' : Int)).toNat := by omega
    rw [w]
    rw [hd] at hq
    have hbig : bigL ((l.getD i' sliceT.dflt) :: l.drop (i' + 1)) = (decide ((l.getD i' sliceT.dflt).2.2.2.1.length > 50) || bigL (l.drop (i' + 1))) := rfl
    rw [hbig] at hq
    refine ⟨hb, fun hc => ?_, fun hc => ⟨hb, hb, fun _ => hb, fun _ => hb, fun he => ?_, fun he => ?_⟩⟩
    · have hc' : ((l.getD i' sliceT.dflt).2.2.2.1.length : Int) > 50 := of_decide_eq_true hc
      have : decide ((l.getD i' sliceT.dflt).2.2.2.1.length > 50) = true := decide_eq_true (by omega)
      rw [this] at hq
      exact hq.1 rfl
    · exfalso
      have h3 : (cSliceEq.f ((l.getD i' sliceT.dflt), (l.getD i' sliceT.dflt), ())).1 = true := sliceEq_refl _
      rw [h3] at he
      cases hx : (cSliceEq.f ((l.getD i' sliceT.dflt), X, ())).1 <;> rw [hx] at he <;> cases he
    · have hc' : ¬ ((l.getD i' sliceT.dflt).2.2.2.1.length : Int) > 50 := of_decide_eq_false hc
      have : decide ((l.getD i' sliceT.dflt).2.2.2.1.length > 50) = false := decide_eq_false (by omega)
      rw [this, Bool.false_or] at hq
      have hI : InLAt l ((i' + 1 : Nat) : Int) := ⟨by omega, by omega, h2⟩
      exact ⟨hI, hμ, hI, hq⟩
  · have hge : ¬ i' < l.length := by have : ¬ (i' : Int) < (l.length : Int) := of_decide_eq_false hi; omega
    rw [List.drop_eq_nil_of_le (by omega)] at hq
    exact hq.2 rfl

theorem loopLAt : Does Try.prog (.loop (loopF Try.f7 0)) pt_lAt.M pt_lAt FLAt := by
  refine Does.loop (n := 86) (id := 0) sem_lAt (inv := fun x => InLAt x.1.2.1 x.1.1) (μ := fun x => ((List.length (α := sliceT.den) x.1.2.1 : Int) - x.1.1).toNat) ?_ (fun x Q h => h.1)
  rintro ⟨⟨i, l, d, b, _⟩, X, _⟩ hinv Q hq
  exact lawLAt i l d b X hinv Q hq.2

def fr_SAt (x : denP [.d slsT, .d i64, .d sliceT]) : Fr (denL [.bool]) :=
  Fr.br (bif decide ((x.1.length : Int) > 60) then true else decide ((x.2.2.1.2.2.2.1.length : Int) > 50)) (Fr.val (true, ()))
    (Fr.need (InLAt x.1 0) (Fr.br (bigL (x.1.drop (0 : Int).toNat)) (Fr.val (true, ()))
      (Fr.val (bif bif true then ((cAt.f (x.1, x.2.1, ())).2.1 == (cAt.f (x.1, x.2.1, ())).2.1) else false then (cSliceEq.f ((cAt.f (x.1, x.2.1, ())).1, (cAt.f (x.1, x.2.1, ())).1, ())).1 else false, ()))))

/-- A law that is kept. -/
def cLaw (ps : List PT) : Ct := ⟨ps, [.bool], fun _ => (true, ()), fun _ => []⟩
theorem lawAt_ok : SoundCt Try.prog 7 (cLaw [.d slsT, .d i64, .d sliceT]) :=
  convF (fn_sound CLA_ok (Λ := fun _ => pt_lAt.han CLA.Γ pt_lAt.M FLAt) (fn := Try.f7) (fr := fr_SAt) (ps := [.d slsT, .d i64, .d sliceT]) (rs := [.bool]) ([], 0, sliceT.dflt, ()) (by kernel_rfl)
    (fun c E hc => lam1f hc (by kernel_rfl) (b := loopF Try.f7 0) (by kernel_rfl) (Does.han CLA_ok rfl loopLAt)) (fun x => by kernel_rfl)) _ _ (fun w F x vs hr _ => by
    obtain ⟨l, d, X, _⟩ := x
    obtain ⟨v1, vs1, rfl, h1, _⟩ := hr
    have hlen : (l.length : Int) ≤ 9223372036854775807 := wf_len h1
    show (fr_SAt (l, d, X, ())).ok ∧ (fr_SAt (l, d, X, ())).get = (true, ())
    unfold fr_SAt
    cases (bif decide ((l.length : Int) > 60) then true else decide ((X.2.2.2.1.length : Int) > 50)) with
    | true => exact Fr.br_t rfl ⟨trivial, rfl⟩
    | false =>
      refine Fr.br_f rfl (Fr.need_ ⟨Int.le_refl _, Int.natCast_nonneg _, hlen⟩ ?_)
      cases bigL (l.drop (0 : Int).toNat) with
      | true => exact Fr.br_t rfl ⟨trivial, rfl⟩
      | false =>
        refine Fr.br_f rfl ⟨trivial, Prod.ext ?_ rfl⟩
        show (bif ((cAt.f (l, d, ())).2.1 == (cAt.f (l, d, ())).2.1) then (cSliceEq.f ((cAt.f (l, d, ())).1, (cAt.f (l, d, ())).1, ())).1 else false) = true
        have h3 : (cSliceEq.f ((cAt.f (l, d, ())).1, (cAt.f (l, d, ())).1, ())).1 = true := sliceEq_refl _
        rw [h3]
        simp)

end Go.Proofs.Ytbplccbjgfappaa
