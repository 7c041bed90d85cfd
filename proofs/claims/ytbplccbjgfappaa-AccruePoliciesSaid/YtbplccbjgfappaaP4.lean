/-
  Parts of the proof, one behind the other: I32, J1, J2, I33, J3, I35, I36, J4.
-/
import Derived.Test.YtbplccbjgfappaaMd
/-
  The slices of a history that may be are the runs of what holds.
-/
namespace Go.Proofs.Ytbplccbjgfappaa
open Go Go.Ab Go.RowKit Go.Proofs

theorem orderL_sorted (h : histT.den) : (orderL h).Pairwise fun x y => dayOf h x ≤ dayOf h y :=
  (sortB_sort (key := dayOf h) (lt := ltDay h) (fun _ _ _ _ => rfl)).1

theorem chsO_sorted (h : histT.den) : (chsO h).Pairwise fun x y => x.2.1 ≤ y.2.1 := by
  unfold chsO
  rw [List.pairwise_map]
  exact orderL_sorted h

theorem chAt_mem {h : histT.den} {i : Int} (hi : 0 ≤ i ∧ i < ((chL h).length : Int)) : chAt h i ∈ chL h := by
  unfold chAt
  exact getD_mem (by omega)

theorem chsO_mem {h : histT.den} {c : changeT.den} (hc : c ∈ chsO h) : c ∈ chL h := by
  obtain ⟨i, hi, rfl⟩ := List.mem_map.1 hc
  exact chAt_mem (orderL_mem hi)

/-- What a history that may be says of its span, and of its changes. -/
structure HistOk (h : histT.den) : Prop where
  terms : termsB h.2.2.1 = true
  a1 : 1 ≤ h.2.2.1.1.1
  ab : h.2.2.1.1.1 < h.2.2.1.1.2.1
  b1 : h.2.2.1.1.2.1 ≤ 292195
  wide : h.2.2.1.1.2.1 - h.2.2.1.1.1 ≤ 1100
  chs : ∀ c ∈ chL h, changeB c = true ∧ h.2.2.1.1.1 ≤ c.2.1 ∧ c.2.1 < h.2.2.1.1.2.1

theorem histB_iff {h : histT.den} : histB h = true ↔ termsB h.2.2.1 = true ∧ h.2.2.2.1.length ≤ 2000 ∧ ∀ c ∈ chL h, changeB c = true ∧ inB h.2.2.1.1.1 h.2.2.1.1.2.1 c.2.1 = true := by
  unfold histB
  simp only [Bool.and_eq_true, decide_eq_true_eq, List.all_eq_true, and_assoc]

theorem terms_span {t : termsT.den} (h : termsB t = true) : 1 ≤ t.1.1 ∧ t.1.1 < t.1.2.1 ∧ t.1.2.1 ≤ 292195 ∧ t.1.2.1 - t.1.1 ≤ 1100 := by
  obtain ⟨⟨a, b, _⟩, r, cs, _⟩ := t
  unfold termsB at h
  rw [Bool.and_eq_true, Bool.and_eq_true] at h
  obtain ⟨h1, h2, _⟩ := h
  obtain ⟨p1, p2, p3⟩ := fullS_iff.1 h1
  exact ⟨p1, p2, p3, of_decide_eq_true h2⟩

theorem histOk {h : histT.den} (hh : histB h = true) : HistOk h := by
  obtain ⟨h1, _, h3⟩ := histB_iff.1 hh
  obtain ⟨p1, p2, p3, p4⟩ := terms_span h1
  refine ⟨h1, p1, p2, p3, p4, fun c hc => ?_⟩
  obtain ⟨q1, q2⟩ := h3 c hc
  have q3 := of_decide_eq_true q2
  exact ⟨q1, q3.2.2.1, q3.2.2.2⟩

theorem cutL_runs {h : histT.den} (hh : histB h = true) : Runs (stOf h) h.2.2.1.1.2.1 h.2.2.1.1.1 (cutL h) := by
  have ho := histOk hh
  exact goCut_runs (k0 := (true, h.2.2.1.2.1, h.2.2.1.2.2.1)) (a := h.2.2.1.1.1) (b := h.2.2.1.1.2.1) (fun c hc => Int.le_of_lt (ho.chs c (chsO_mem hc)).2.2) (chsO h) [] rfl (chsO_sorted h) (nowS h) [] (fun c hc => (by cases hc)) (fun c hc => (ho.chs c (chsO_mem hc)).2.1)
    (Int.le_of_lt ho.ab) rfl rfl rfl

/-! ### A day's slice, of runs -/

theorem atS_map {v : verT.den} (d : Int) : (l : List sliceT.den) → (atS (l.map (priceV v)) d).2 = (atS l d).2 ∧ ((atS l d).2 = true → (atS (l.map (priceV v)) d).1 = priceV v (atS l d).1)
  | [] => ⟨rfl, fun h => (by cases h)⟩
  | s :: l => by
    have hs : (priceV v s).1 = s.1 := by
      unfold priceV
      split <;> rfl
    simp only [List.map_cons, atS]
    rw [hs]
    split
    · exact ⟨rfl, fun _ => rfl⟩
    · exact atS_map d l

/-- Each day of the span is in a slice: what holds there is what holds on that day. -/
theorem Runs.at_day {st : Int → Core} {b : Int} (hb : b ≤ 292195) : {a : Int} → {l : List sliceT.den} → 1 ≤ a → Runs st b a l → (d : Int) → ((atS l d).2 = decide (a ≤ d ∧ d < b)) ∧ ((atS l d).2 = true → coreS (atS l d).1 = st d ∧ (atS l d).1 ∈ l ∧ (atS l d).1.1.1 ≤ d ∧ d < (atS l d).1.1.2.1)
  | a, [], _, h, d => by
    have h0 : a = b := h
    refine ⟨?_, fun h => (by cases h)⟩
    show false = _
    symm
    rw [decide_eq_false_iff_not]
    rintro ⟨h1, h2⟩
    rw [h0] at h1
    exact absurd (Int.lt_of_lt_of_le h2 h1) (Int.lt_irrefl _)
  | a, s :: l, ha, h, d => by
    have hlt : a < s.1.2.1 := h.2.1
    have hle : s.1.2.1 ≤ b := Runs.le h.2.2.2.2.2
    have h1 : s.1.1 = a := h.1
    have ih := Runs.at_day hb (a := s.1.2.1) (l := l) (by omega) h.2.2.2.2.2 d
    have hin : inB s.1.1 s.1.2.1 d = decide (a ≤ d ∧ d < s.1.2.1) := by
      unfold inB
      rw [h1]
      rw [Bool.eq_iff_iff, decide_eq_true_eq, decide_eq_true_eq]
      constructor
      · rintro ⟨_, _, q1, q2⟩
        exact ⟨q1, q2⟩
      · rintro ⟨q1, q2⟩
        exact ⟨ha, Int.le_trans hle hb, q1, q2⟩
    unfold atS
    by_cases hd : a ≤ d ∧ d < s.1.2.1
    · rw [hin, if_pos (decide_eq_true hd)]
      refine ⟨?_, fun _ => ⟨h.2.2.2.1 d hd.1 hd.2, by simp, ?_, hd.2⟩⟩
      · symm
        rw [decide_eq_true_eq]
        exact ⟨hd.1, Int.lt_of_lt_of_le hd.2 hle⟩
      · rw [h1]; exact hd.1
    · rw [hin, if_neg (by rw [decide_eq_true_eq]; exact hd)]
      refine ⟨?_, fun hx => ?_⟩
      · rw [ih.1, Bool.eq_iff_iff, decide_eq_true_eq, decide_eq_true_eq]
        constructor
        · rintro ⟨q1, q2⟩
          exact ⟨Int.le_trans (Int.le_of_lt hlt) q1, q2⟩
        · rintro ⟨q1, q2⟩
          refine ⟨Int.not_lt.1 fun q3 => hd ⟨q1, q3⟩, q2⟩
      · obtain ⟨q1, q2, q3⟩ := ih.2 hx
        exact ⟨q1, by simp [q2], q3⟩

end Go.Proofs.Ytbplccbjgfappaa

/-
  SlicesAt: the law's contract.
-/
namespace Go.Proofs.Ytbplccbjgfappaa
open Go Go.Ab Go.RowKit Go.Proofs

noncomputable def CLA : Cx := cx [(15, cYes), (25, cSliceEq), (21, cSliceEq), (20, cAt), (26, cAt)] []
theorem CLA_ok : CxOK Try.prog CLA := cx_ok mixed ⟨awake_ok, slices_Same_ok, r12_Same_ok, slices_At_ok, r12_At_ok, trivial⟩ trivial

abbrev pt_lAt : Pt := ⟨86, 0, ⟨[(8, .d i64), (0, .d slsT), (1, .d i64), (7, .d .bool)], [.x 5 46 sliceT, .r 5 5 0]⟩, ⟨[(0, .d slsT), (1, .d i64), (7, .d .bool)], [.x 5 46 sliceT, .r 5 5 0]⟩, ⟨[(6, .d .bool)], []⟩⟩
def fr_lAt (x : pt_lAt.M.X) : Fr pt_lAt.Out :=
  let i : Int := x.1.1; let l : List sliceT.den := x.1.2.1; let d : Int := x.1.2.2.1; let b : Bool := x.1.2.2.2.1; let X : sliceT.den := x.2.1
  let E : sliceT.den := l.getD i.toNat sliceT.dflt
  Fr.br (decide (i < (l.length : Int)))
    (Fr.need (0 ≤ i ∧ i < (l.length : Int))
      (Fr.br (decide ((E.2.2.2.1.length : Int) > 50)) (Fr.val (Rd.back ((b, ()), ())))
        (Fr.need (0 ≤ i ∧ i < (l.length : Int)) (Fr.need (0 ≤ i ∧ i < (l.length : Int))
          (Fr.need ((!(cSliceEq.f (E, X, ())).1 == (cSliceEq.f (E, X, ())).1) = false → 0 ≤ i ∧ i < (l.length : Int)) (Fr.need ((!(cSliceEq.f (E, X, ())).1 == (cSliceEq.f (E, X, ())).1) = false → 0 ≤ i ∧ i < (l.length : Int))
            (Fr.br (bif !(cSliceEq.f (E, X, ())).1 == (cSliceEq.f (E, X, ())).1 then true else !(cSliceEq.f (E, E, ())).1) (Fr.val (Rd.back ((false, ()), ())))
              (Fr.val (Rd.next ((IntKind.i64.wrap (i + 1), l, d, b, ()), (X, ()))))))))))
      ) (Fr.val (Rd.out ((l, d, b, ()), (X, ()))))
theorem sem_lAt : Does Try.prog (loopF Try.f7 0) pt_lAt.M pt_lAt fr_lAt :=
  Does.of_run CLA_ok (bs := 0) (Λ := lam0) rfl rfl rfl (fun E => lam0_ok _ 0) (fun x => by kernel_rfl)

theorem sliceEq_refl (s : sliceT.den) : sliceEq s s = true := by
  have h := holdsB_iff.2 (rfl : coreS s = coreS s)
  simp [sliceEq, h]

def InLAt (l : List sliceT.den) (i : Int) : Prop := 0 ≤ i ∧ i ≤ l.length ∧ (l.length : Int) ≤ 9223372036854775807
def bigL (l : List sliceT.den) : Bool := l.any fun s => decide (s.2.2.2.1.length > 50)
def FLAt (x : pt_lAt.M.X) : Fr pt_lAt.Out :=
  let i : Int := x.1.1; let l : List sliceT.den := x.1.2.1; let d : Int := x.1.2.2.1; let b : Bool := x.1.2.2.2.1; let X : sliceT.den := x.2.1
  Fr.need (InLAt l i) (Fr.br (bigL (l.drop i.toNat)) (Fr.val (Rd.back ((b, ()), ()))) (Fr.val (Rd.out ((l, d, b, ()), (X, ())))))

theorem lawLAt (i : Int) (l : List sliceT.den) (d : Int) (b : Bool) (X : sliceT.den) (hinv : InLAt l i) (Q : pt_lAt.Out → Prop)
    (hq : (Fr.br (bigL (l.drop i.toNat)) (Fr.val (Rd.back ((b, ()), ()))) (Fr.val (Rd.out ((l, d, b, ()), (X, ())))) : Fr pt_lAt.Out).satP Q) :
    (fr_lAt ((i, l, d, b, ()), (X, ()))).satP fun
      | .next x' => InLAt x'.1.2.1 x'.1.1 ∧ ((List.length (α := sliceT.den) x'.1.2.1 : Int) - x'.1.1).toNat < ((l.length : Int) - i).toNat ∧ (FLAt x').satP Q
      | .out y => Q (.out y)
      | .back z => Q (.back z)
      | .pan p => Q (.pan p) := by
  obtain ⟨h0, h1, h2⟩ := hinv
  obtain ⟨i', rfl⟩ : ∃ n : Nat, i = n := ⟨i.toNat, by omega⟩
  simp only [Int.toNat_natCast] at hq
  dsimp only [fr_lAt, Fr.satP, Ty.den, PT.den]
  simp only [Int.toNat_natCast]
  refine ⟨fun hi => ?_, fun hi => ?_⟩
  · have hlt : i' < l.length := by have : (i' : Int) < (l.length : Int) := of_decide_eq_true hi; omega
    have w : IntKind.i64.wrap ((i' : Int) + 1) = (i' + 1 : Nat) := succ_nat (by omega)
    have hg : l.getD i' sliceT.dflt = l[i'] := by rw [List.getD_eq_getElem?_getD, List.getElem?_eq_getElem hlt]; rfl
    have hd : l.drop i' = l.getD i' sliceT.dflt :: l.drop (i' + 1) := by rw [hg]; exact List.drop_eq_getElem_cons hlt
    have hb : 0 ≤ (i' : Int) ∧ (i' : Int) < (l.length : Int) := ⟨by omega, by omega⟩
    have hμ : ((l.length : Int) - ((i' + 1 : Nat) : Int)).toNat < ((l.length : Int) - (i' : Int)).toNat := by omega
    rw [w]
    rw [hd] at hq
    have hbig : bigL ((l.getD i' sliceT.dflt) :: l.drop (i' + 1)) = (decide ((l.getD i' sliceT.dflt).2.2.2.1.length > 50) || bigL (l.drop (i' + 1))) := rfl
    rw [hbig] at hq
    refine ⟨hb, fun hc => ?_, fun hc => ⟨hb, hb, fun _ => hb, fun _ => hb, fun he => ?_, fun he => ?_⟩⟩
    · have hc' : ((l.getD i' sliceT.dflt).2.2.2.1.length : Int) > 50 := of_decide_eq_true hc
      have : decide ((l.getD i' sliceT.dflt).2.2.2.1.length > 50) = true := decide_eq_true (by omega)
      rw [this] at hq
      exact hq.1 rfl
    · exfalso
      have h3 : (cSliceEq.f ((l.getD i' sliceT.dflt), (l.getD i' sliceT.dflt), ())).1 = true := sliceEq_refl _
      rw [h3] at he
      cases hx : (cSliceEq.f ((l.getD i' sliceT.dflt), X, ())).1 <;> rw [hx] at he <;> cases he
    · have hc' : ¬ ((l.getD i' sliceT.dflt).2.2.2.1.length : Int) > 50 := of_decide_eq_false hc
      have : decide ((l.getD i' sliceT.dflt).2.2.2.1.length > 50) = false := decide_eq_false (by omega)
      rw [this, Bool.false_or] at hq
      have hI : InLAt l ((i' + 1 : Nat) : Int) := ⟨by omega, by omega, h2⟩
      exact ⟨hI, hμ, hI, hq⟩
  · have hge : ¬ i' < l.length := by have : ¬ (i' : Int) < (l.length : Int) := of_decide_eq_false hi; omega
    rw [List.drop_eq_nil_of_le (by omega)] at hq
    exact hq.2 rfl

theorem loopLAt : Does Try.prog (.loop (loopF Try.f7 0)) pt_lAt.M pt_lAt FLAt := by
  refine Does.loop (n := 86) (id := 0) sem_lAt (inv := fun x => InLAt x.1.2.1 x.1.1) (μ := fun x => ((List.length (α := sliceT.den) x.1.2.1 : Int) - x.1.1).toNat) ?_ (fun x Q h => h.1)
  rintro ⟨⟨i, l, d, b, _⟩, X, _⟩ hinv Q hq
  exact lawLAt i l d b X hinv Q hq.2

def fr_SAt (x : denP [.d slsT, .d i64, .d sliceT]) : Fr (denL [.bool]) :=
  Fr.br (bif decide ((x.1.length : Int) > 60) then true else decide ((x.2.2.1.2.2.2.1.length : Int) > 50)) (Fr.val (true, ()))
    (Fr.need (InLAt x.1 0) (Fr.br (bigL (x.1.drop (0 : Int).toNat)) (Fr.val (true, ()))
      (Fr.val (bif bif true then ((cAt.f (x.1, x.2.1, ())).2.1 == (cAt.f (x.1, x.2.1, ())).2.1) else false then (cSliceEq.f ((cAt.f (x.1, x.2.1, ())).1, (cAt.f (x.1, x.2.1, ())).1, ())).1 else false, ()))))

/-- A law that is kept. -/
def cLaw (ps : List PT) : Ct := ⟨ps, [.bool], fun _ => (true, ()), fun _ => []⟩
theorem lawAt_ok : SoundCt Try.prog 7 (cLaw [.d slsT, .d i64, .d sliceT]) :=
  convF (fn_sound CLA_ok (Λ := fun _ => pt_lAt.han CLA.Γ pt_lAt.M FLAt) (fn := Try.f7) (fr := fr_SAt) (ps := [.d slsT, .d i64, .d sliceT]) (rs := [.bool]) ([], 0, sliceT.dflt, ()) (by kernel_rfl)
    (fun c E hc => lam1f hc (by kernel_rfl) (b := loopF Try.f7 0) (by kernel_rfl) (Does.han CLA_ok rfl loopLAt)) (fun x => by kernel_rfl)) _ _ (fun w F x vs hr _ => by
    obtain ⟨l, d, X, _⟩ := x
    obtain ⟨v1, vs1, rfl, h1, _⟩ := hr
    have hlen : (l.length : Int) ≤ 9223372036854775807 := wf_len h1
    show (fr_SAt (l, d, X, ())).ok ∧ (fr_SAt (l, d, X, ())).get = (true, ())
    unfold fr_SAt
    cases (bif decide ((l.length : Int) > 60) then true else decide ((X.2.2.2.1.length : Int) > 50)) with
    | true => exact Fr.br_t rfl ⟨trivial, rfl⟩
    | false =>
      refine Fr.br_f rfl (Fr.need_ ⟨Int.le_refl _, Int.natCast_nonneg _, hlen⟩ ?_)
      cases bigL (l.drop (0 : Int).toNat) with
      | true => exact Fr.br_t rfl ⟨trivial, rfl⟩
      | false =>
        refine Fr.br_f rfl ⟨trivial, Prod.ext ?_ rfl⟩
        show (bif ((cAt.f (l, d, ())).2.1 == (cAt.f (l, d, ())).2.1) then (cSliceEq.f ((cAt.f (l, d, ())).1, (cAt.f (l, d, ())).1, ())).1 else false) = true
        have h3 : (cSliceEq.f ((cAt.f (l, d, ())).1, (cAt.f (l, d, ())).1, ())).1 = true := sliceEq_refl _
        rw [h3]
        simp)

end Go.Proofs.Ytbplccbjgfappaa

/-
  SlicesWhole: the law's contract.
-/
namespace Go.Proofs.Ytbplccbjgfappaa
open Go Go.Ab Go.RowKit Go.Proofs

noncomputable def CLW : Cx := cx [(15, cYes), (25, cSliceEq), (20, cAt), (17, cOf), (16, cFew), (23, cIn)] []
theorem CLW_ok : CxOK Try.prog CLW := cx_ok mixed ⟨awake_ok, slices_Same_ok, slices_At_ok, of_ok, few_ok, in3_ok, trivial⟩ trivial

abbrev pt_lWh : Pt := ⟨173, 0, ⟨[(12, .d i64), (9, .d slsT), (2, .d (.int .u32)), (7, .d .bool), (11, .d i64)], [.x 3 31 histT, .r 3 3 0]⟩, ⟨[(2, .d (.int .u32)), (7, .d .bool), (9, .d slsT), (11, .d i64)], [.x 3 31 histT, .r 3 3 0]⟩, ⟨[(6, .d .bool)], []⟩⟩
def setSp (p : sliceT.den) (e : sliceT.den) : sliceT.den := (e.1, p.2.1, p.2.2.1, p.2.2.2.1, e.2.2.2.2.1, ())
def badW (e : sliceT.den) (a : Int) : Bool := bif e.1.1 != a then true else decide (e.1.2.1 ≤ a)
def badW2 (e : sliceT.den) (a : Int) : Bool := bif badW e a then true else bif !e.2.1 then e.2.2.2.2.1 != 0 else false
def fr_lWh (x : pt_lWh.M.X) : Fr pt_lWh.Out :=
  let i : Int := x.1.1; let l : List sliceT.den := x.1.2.1; let d : Int := x.1.2.2.1; let b : Bool := x.1.2.2.2.1; let a : Int := x.1.2.2.2.2.1; let h : histT.den := x.2.1
  let E : sliceT.den := l.getD i.toNat sliceT.dflt; let P : sliceT.den := l.getD (IntKind.i64.wrap (i - 1)).toNat sliceT.dflt
  Fr.br (decide (i < (l.length : Int)))
    (Fr.need (0 ≤ i ∧ i < (l.length : Int))
      (Fr.need ((E.1.1 != a) = false → 0 ≤ i ∧ i < (l.length : Int))
        (Fr.need (badW E a = false → 0 ≤ i ∧ i < (l.length : Int))
          (Fr.need ((!E.2.1) = true → badW E a = false → 0 ≤ i ∧ i < (l.length : Int))
            (Fr.need (badW2 E a = false → 0 ≤ i ∧ i < (l.length : Int))
              (Fr.br (bif badW2 E a then true else decide (E.2.2.2.2.1 < 0)) (Fr.val (Rd.back ((false, ()), ())))
                (Fr.br (decide (i > 0))
                  (Fr.need (0 ≤ IntKind.i64.wrap (i - 1) ∧ IntKind.i64.wrap (i - 1) < (l.length : Int))
                    (Fr.need (0 ≤ i ∧ i < (l.length : Int)) (Fr.need (0 ≤ i ∧ i < (l.length : Int)) (Fr.need (0 ≤ i ∧ i < (l.length : Int))
                      (Fr.br (cSliceEq.f (setSp P E, E, ())).1 (Fr.val (Rd.back ((false, ()), ())))
                        (Fr.need (0 ≤ i ∧ i < (l.length : Int)) (Fr.val (Rd.next ((IntKind.i64.wrap (i + 1), l, d, b, E.1.2.1, ()), (h, ()))))))))))
                  (Fr.need (0 ≤ i ∧ i < (l.length : Int)) (Fr.val (Rd.next ((IntKind.i64.wrap (i + 1), l, d, b, E.1.2.1, ()), (h, ())))))))))))
      ) (Fr.val (Rd.out ((d, b, l, a, ()), (h, ()))))
theorem sem_lWh : Does Try.prog (loopF Try.f8 0) pt_lWh.M pt_lWh fr_lWh :=
  Does.of_run CLW_ok (bs := 0) (Λ := lam0) rfl rfl rfl (fun E => lam0_ok _ 0) (fun x => by kernel_rfl)

/-- Slices on end, each as it should be. -/
def wholeP : Int → Option sliceT.den → List sliceT.den → Prop
  | _, _, [] => True
  | a, p, s :: l => s.1.1 = a ∧ a < s.1.2.1 ∧ (s.2.1 = false → s.2.2.2.2.1 = (0 : Int)) ∧ (0 : Int) ≤ s.2.2.2.2.1 ∧ (∀ q, p = some q → coreS q ≠ coreS s) ∧ wholeP s.1.2.1 (some s) l
def endAt : Int → List sliceT.den → Int
  | a, [] => a
  | _, s :: l => endAt s.1.2.1 l
def prevO (i : Int) (l : List sliceT.den) : Option sliceT.den := if i > 0 then some (l.getD (i - 1).toNat sliceT.dflt) else none

structure InvW (i : Int) (l : List sliceT.den) (a : Int) : Prop where
  i0 : 0 ≤ i
  il : i ≤ l.length
  big : (l.length : Int) ≤ 9223372036854775807
  whole : wholeP a (prevO i l) (l.drop i.toNat)

def FLW (x : pt_lWh.M.X) : Fr pt_lWh.Out :=
  let i : Int := x.1.1; let l : List sliceT.den := x.1.2.1; let d : Int := x.1.2.2.1; let b : Bool := x.1.2.2.2.1; let a : Int := x.1.2.2.2.2.1; let h : histT.den := x.2.1
  Fr.need (InvW i l a) (Fr.val (Rd.out ((d, b, l, endAt a (l.drop i.toNat), ()), (h, ()))))

theorem lawLW (i : Int) (l : List sliceT.den) (d : Int) (b : Bool) (a : Int) (h : histT.den) (hinv : InvW i l a) (Q : pt_lWh.Out → Prop) (hq : Q (Rd.out ((d, b, l, endAt a (l.drop i.toNat), ()), (h, ())))) :
    (fr_lWh ((i, l, d, b, a, ()), (h, ()))).satP fun
      | .next x' => InvW x'.1.1 x'.1.2.1 x'.1.2.2.2.2.1 ∧ ((List.length (α := sliceT.den) x'.1.2.1 : Int) - x'.1.1).toNat < ((l.length : Int) - i).toNat ∧ (FLW x').satP Q
      | .out y => Q (.out y)
      | .back z => Q (.back z)
      | .pan p => Q (.pan p) := by
  obtain ⟨h0, h1, h2, h3⟩ := hinv
  obtain ⟨i', rfl⟩ : ∃ n : Nat, i = n := ⟨i.toNat, by omega⟩
  simp only [Int.toNat_natCast] at hq h3
  dsimp only [fr_lWh, Fr.satP, Ty.den, PT.den]
  simp only [Int.toNat_natCast]
  refine ⟨fun hi => ?_, fun hi => ?_⟩
  · have hlt : i' < l.length := by have : (i' : Int) < (l.length : Int) := of_decide_eq_true hi; omega
    have w : IntKind.i64.wrap ((i' : Int) + 1) = (i' + 1 : Nat) := succ_nat (by omega)
    have hg : l.getD i' sliceT.dflt = l[i'] := by rw [List.getD_eq_getElem?_getD, List.getElem?_eq_getElem hlt]; rfl
    have hd : l.drop i' = l.getD i' sliceT.dflt :: l.drop (i' + 1) := by rw [hg]; exact List.drop_eq_getElem_cons hlt
    have hb : 0 ≤ (i' : Int) ∧ (i' : Int) < (l.length : Int) := ⟨by omega, by omega⟩
    have hμ : ((l.length : Int) - ((i' + 1 : Nat) : Int)).toNat < ((l.length : Int) - (i' : Int)).toNat := by omega
    rw [w]
    rw [hd] at hq h3
    obtain ⟨e1, e2, e3, e4, e5, e6⟩ := h3
    have hprev : prevO ((i' + 1 : Nat) : Int) l = some (l.getD i' sliceT.dflt) := by
      unfold prevO
      have : (((i' + 1 : Nat) : Int) - 1).toNat = i' := by omega
      rw [if_pos (by omega), this]
    have hI : InvW ((i' + 1 : Nat) : Int) l (l.getD i' sliceT.dflt).1.2.1 := ⟨by omega, by omega, h2, by rw [hprev]; exact e6⟩
    have b1 : badW (l.getD i' sliceT.dflt) a = false := by
      unfold badW
      have k1 : ((l.getD i' sliceT.dflt).1.1 != a) = false := by rw [e1]; simp
      rw [k1]
      exact decide_eq_false (Int.not_le.2 e2)
    have b2 : badW2 (l.getD i' sliceT.dflt) a = false := by
      unfold badW2
      rw [b1]
      cases hon : (l.getD i' sliceT.dflt).2.1 with
      | true => rfl
      | false =>
        show ((l.getD i' sliceT.dflt).2.2.2.2.1 != 0) = false
        rw [e3 hon]
        rfl
    refine ⟨hb, fun _ => hb, fun _ => hb, fun _ _ => hb, fun _ => hb, fun hx => ?_, fun _ => ⟨fun hp => ?_, fun hp => ⟨hb, hI, hμ, hI, hq⟩⟩⟩
    · exfalso
      rw [b2] at hx
      have : (l.getD i' sliceT.dflt).2.2.2.2.1 < (0 : Int) := of_decide_eq_true hx
      exact absurd this (Int.not_lt.2 e4)
    · have hp' : (i' : Int) > 0 := of_decide_eq_true hp
      have w2 : IntKind.i64.wrap ((i' : Int) - 1) = (i' : Int) - 1 := IntWalk.i64_in _ (by omega)
      rw [w2]
      refine ⟨⟨by omega, by omega⟩, hb, hb, hb, fun hx => ?_, fun _ => ⟨hb, hI, hμ, hI, hq⟩⟩
      exfalso
      have hx' : sliceEq (setSp (l.getD ((i' : Int) - 1).toNat sliceT.dflt) (l.getD i' sliceT.dflt)) (l.getD i' sliceT.dflt) = true := hx
      unfold sliceEq at hx'
      rw [Bool.and_eq_true] at hx'
      have hx2 := hx'.2
      rw [Bool.and_eq_true] at hx2
      have := holdsB_iff.1 hx2.2
      refine e5 (l.getD ((i' : Int) - 1).toNat sliceT.dflt) ?_ this
      unfold prevO
      rw [if_pos hp']
  · have hge : ¬ i' < l.length := by have : ¬ (i' : Int) < (l.length : Int) := of_decide_eq_false hi; omega
    rw [List.drop_eq_nil_of_le (by omega)] at hq
    exact hq

theorem loopLW : Does Try.prog (.loop (loopF Try.f8 0)) pt_lWh.M pt_lWh FLW := by
  refine Does.loop (n := 173) (id := 0) sem_lWh (inv := fun x => InvW x.1.1 x.1.2.1 x.1.2.2.2.2.1) (μ := fun x => ((List.length (α := sliceT.den) x.1.2.1 : Int) - x.1.1).toNat) ?_ (fun x Q h => h.1)
  rintro ⟨⟨i, l, d, b, a, _⟩, h, _⟩ hinv Q hq
  exact lawLW i l d b a h hinv Q hq.2

def dayW (h : histT.den) (d : Int) : Int := IntKind.i64.wrap (h.2.2.1.1.1 + IntKind.i64.wrap (d.tmod 1100))
def fr_Wh (x : denP [.d histT, .d tarT, .d (.int .u32)]) : Fr (denL [.bool]) :=
  let h : histT.den := x.1; let t : tarT.den := x.2.1; let d : Int := x.2.2.1
  let R : denL [slsT, i64] := cOf.f (h, t, ()); let A : denL [sliceT, .bool] := cAt.f (R.1, dayW h d, ())
  Fr.br (!(cFew.f (h, t, ())).1) (Fr.val (true, ()))
    (Fr.need (fewH h) (Fr.need (fewT t)
      (Fr.br (R.2.1 != 0) (Fr.val (bif true then (R.1.length : Int) == 0 else false, ()))
        (Fr.need (InvW 0 R.1 h.2.2.1.1.1) (Fr.need ((1100 : Int) ≠ 0)
          (Fr.val (bif bif bif true then endAt h.2.2.1.1.1 (R.1.drop (0 : Int).toNat) == h.2.2.1.1.2.1 else false then A.2.1 == (cIn.f (h.2.2.1.1, dayW h d, ())).1 else false then
            (bif !A.2.1 then true else bif decide (dayW h d ≥ A.1.1.1) then decide (dayW h d < A.1.1.2.1) else false) else false, ())))))))

theorem wh_run : SoundCt Try.prog 8 ⟨[.d histT, .d tarT, .d (.int .u32)], [.bool], fun xs => (fr_Wh xs).get, fun xs => [(fr_Wh xs).ok]⟩ :=
  fn_sound CLW_ok (Λ := fun _ => pt_lWh.han CLW.Γ pt_lWh.M FLW) (fn := Try.f8) (fr := fr_Wh) (ps := [.d histT, .d tarT, .d (.int .u32)]) (rs := [.bool]) (histT.dflt, tarT.dflt, 0, ()) (by kernel_rfl)
    (fun c E hc => lam1f hc (by kernel_rfl) (b := loopF Try.f8 0) (by kernel_rfl) (Does.han CLW_ok rfl loopLW)) (fun x => by kernel_rfl)

/-! ### The law, plain -/

theorem fewB_fewH {h : histT.den} {t : tarT.den} (hf : fewB h t = true) : fewH h ∧ fewT t := by
  unfold fewB at hf
  simp only [Bool.and_eq_true, decide_eq_true_eq, List.all_eq_true] at hf
  obtain ⟨⟨h1, h2, h3⟩, h4, h5⟩ := hf
  refine ⟨⟨by show h.2.2.2.1.length ≤ 500000; omega, by omega, fun c hc => ?_⟩, by omega, fun v hv => ?_⟩
  · have : c.2.2.2.2.1.length ≤ 50 := of_decide_eq_true (h4 c hc)
    omega
  · have := h5 v hv
    unfold fewV at this
    simp only [Bool.and_eq_true, decide_eq_true_eq] at this
    exact ⟨by omega, by omega, by omega⟩

theorem yrGo_pos (v : verT.den) (r : riskT.den) : (l : List coverT.den) → (q : Int) → (b : Bool) → 0 ≤ q → 0 ≤ (yrGo v r l q b).1
  | [], q, b, h => by
    unfold yrGo
    show 0 ≤ if b = true then q else 0
    split
    · exact h
    · exact Int.le_refl 0
  | c :: l, q, b, h => by
    unfold yrGo
    split
    · rename_i he
      split
      · split
        · exact yrGo_pos v r l q false h
        · exact yrGo_pos v r l _ true (Int.add_nonneg h (oneF_pos he))
      · exact yrGo_pos v r l q false h
    · exact Int.le_refl 0
theorem yearF_pos (v : verT.den) (r : riskT.den) (l : List coverT.den) : 0 ≤ (yearF v r l).1 := by
  unfold yearF
  split
  · split
    · exact yrGo_pos v r l 0 true (Int.le_refl 0)
    · exact Int.le_refl 0
  · exact Int.le_refl 0

theorem price_core (v : verT.den) (s : sliceT.den) : coreS (priceV v s) = coreS s ∧ (priceV v s).1 = s.1 := by
  unfold priceV
  split <;> exact ⟨rfl, rfl⟩

theorem whole_of {st : Int → Core} {b : Int} (v : verT.den) : {a : Int} → {l : List sliceT.den} → (p : Option sliceT.den) → (∀ q, p = some q → ∀ t ∈ l.head?, coreS q ≠ coreS t) → Runs st b a l → wholeP a p (l.map (priceV v)) ∧ endAt a (l.map (priceV v)) = b
  | a, [], _, _, h => ⟨trivial, h⟩
  | a, s :: l, p, hp, h => by
    obtain ⟨h1, h2, h3, h4, h5, h6⟩ := h
    obtain ⟨k1, k2⟩ := price_core v s
    have ih := whole_of v (some (priceV v s)) (fun q hq t ht => by
      cases hq
      rw [k1]
      exact h5 t ht) h6
    refine ⟨⟨by rw [k2]; exact h1, by rw [k2]; exact h2, fun hoff => ?_, ?_, fun q hq => ?_, ?_⟩, ?_⟩
    · have hoff' : s.2.1 = false := by
        have := congrArg Prod.fst k1
        exact this.symm.trans hoff
      have : priceV v s = s := if_neg (by rw [hoff']; decide)
      rw [this]
      exact h3
    · unfold priceV
      split
      · exact yearF_pos _ _ _
      · rw [h3]
        exact Int.le_refl 0
    · rw [k1]
      exact hp q hq s (by simp)
    · rw [k2]
      exact ih.1
    · show endAt (priceV v s).1.2.1 (l.map (priceV v)) = b
      rw [k2]
      exact ih.2

theorem ofF_bad {h : histT.den} {t : tarT.den} (he : (ofF h t).2 ≠ 0) : (ofF h t).1 = [] := by
  unfold ofF at he ⊢
  split
  · rename_i h1
    rw [if_pos h1] at he
    split
    · rename_i h2
      rw [if_pos h2] at he
      split
      · rename_i h3
        rw [if_pos h3] at he
        exact absurd rfl he
      · rfl
    · rfl
  · rfl

/-- The version of a policy's first day. -/
def verH (h : histT.den) (t : tarT.den) : verT.den × Int := verAt h.2.2.1.1.1 t.1.reverse

theorem ofF_good {h : histT.den} {t : tarT.den} (he : (ofF h t).2 = 0) : histB h = true ∧ (verH h t).2 = 0 ∧ errP (verH h t).1 (cutL h) = 0 ∧ (ofF h t).1 = (cutL h).map (priceV (verH h t).1) := by
  unfold ofF at he ⊢
  by_cases h1 : histB h = true
  · rw [if_pos h1] at he ⊢
    by_cases h2 : (verAt h.2.2.1.1.1 t.1.reverse).2 = 0
    · rw [if_pos h2] at he ⊢
      by_cases h3 : errP (verAt h.2.2.1.1.1 t.1.reverse).1 (cutL h) = 0
      · rw [if_pos h3]
        exact ⟨h1, h2, h3, rfl⟩
      · rw [if_neg h3] at he
        exact absurd he h3
    · rw [if_neg h2] at he
      exact absurd he h2
  · rw [if_neg h1] at he
    cases he

theorem dayW_plain {a b d : Int} (h1 : 1 ≤ a) (h2 : b ≤ 292195) (h3 : a < b) (hd : 0 ≤ d ∧ d ≤ 4294967295) : IntKind.i64.wrap (a + IntKind.i64.wrap (d.tmod 1100)) = a + d % 1100 := by
  rw [Int.tmod_eq_emod_of_nonneg hd.1]
  have e1 : IntKind.i64.wrap (d % 1100) = d % 1100 := IntWalk.i64_in _ (by omega)
  rw [e1]
  exact IntWalk.i64_in _ (by omega)
theorem dayW_eq {h : histT.den} {d : Int} (ho : HistOk h) (hd : 0 ≤ d ∧ d ≤ 4294967295) : dayW h d = h.2.2.1.1.1 + d % 1100 := dayW_plain ho.a1 ho.b1 ho.ab hd

theorem inB_eq {h : histT.den} (ho : HistOk h) (d : Int) : inB h.2.2.1.1.1 h.2.2.1.1.2.1 d = decide (h.2.2.1.1.1 ≤ d ∧ d < h.2.2.1.1.2.1) := by
  have h1 := ho.a1
  have h2 := ho.b1
  unfold inB
  rw [Bool.eq_iff_iff, decide_eq_true_eq, decide_eq_true_eq]
  exact ⟨fun h => ⟨h.2.2.1, h.2.2.2⟩, fun h => ⟨h1, h2, h.1, h.2⟩⟩

theorem lawWhole_ok : SoundCt Try.prog 8 (cLaw [.d histT, .d tarT, .d (.int .u32)]) :=
  convF wh_run _ _ (fun w F x vs hr _ => by
    obtain ⟨h, t, d, _⟩ := x
    obtain ⟨v1, vs1, rfl, _, v2, vs2, rfl, _, v3, vs3, rfl, h3, _⟩ := hr
    have hd : 0 ≤ d ∧ d ≤ 4294967295 := h3.2.2.2
    show (fr_Wh (h, t, d, ())).ok ∧ (fr_Wh (h, t, d, ())).get = (true, ())
    cases hf : fewB h t with
    | false =>
      refine Fr.br_t ?_ ⟨trivial, rfl⟩
      show (!(fewB h t)) = true
      rw [hf]; rfl
    | true =>
      obtain ⟨f1, f2⟩ := fewB_fewH hf
      refine Fr.br_f ?_ (Fr.need_ f1 (Fr.need_ f2 ?_))
      · show (!(fewB h t)) = false
        rw [hf]; rfl
      · by_cases he : (ofF h t).2 = 0
        · obtain ⟨g1, g2, g3, g4⟩ := ofF_good he
          have ho := histOk g1
          have hruns := cutL_runs g1
          obtain ⟨w1, w2⟩ := whole_of (verH h t).1 none (fun q hq => by cases hq) hruns
          have hmem := fewB_fewH hf
          have hlen : ((ofF h t).1.length : Int) ≤ 9223372036854775807 := by
            have hl := endS_length (goH h).1 (goH h).2 h.2.2.1.1.2.1
            have hg := goCut_length (((orderL h).drop (0 : Int).toNat).map (chAt h)) ((h.2.2.1.1.1, 0, ()), true, h.2.2.1.2.1, [] ++ h.2.2.1.2.2.1, 0, ()) []
            have e : (((orderL h).drop (0 : Int).toNat).map (chAt h)).length = (chL h).length := by
              rw [List.length_map]
              exact orderL_length h
            rw [e] at hg
            have hg2 : (goH h).2.length ≤ 0 + (chL h).length := hg
            have hl2 : (cutL h).length ≤ (goH h).2.length + 1 := hl
            have hf1 := f1.1
            rw [g4, List.length_map]
            omega
          refine Fr.br_f ?_ (Fr.need_ ⟨Int.le_refl _, Int.natCast_nonneg _, hlen, ?_⟩ (Fr.need_ (by decide) ⟨trivial, Prod.ext ?_ rfl⟩))
          · show ((ofF h t).2 != 0) = false
            rw [he]; rfl
          · show wholeP h.2.2.1.1.1 none (ofF h t).1
            rw [g4]
            exact w1
          · show (bif bif (endAt h.2.2.1.1.1 (ofF h t).1 == h.2.2.1.1.2.1) then (atS (ofF h t).1 (dayW h d)).2 == inB h.2.2.1.1.1 h.2.2.1.1.2.1 (dayW h d) else false then
              (bif !(atS (ofF h t).1 (dayW h d)).2 then true else bif decide (dayW h d ≥ (atS (ofF h t).1 (dayW h d)).1.1.1) then decide (dayW h d < (atS (ofF h t).1 (dayW h d)).1.1.2.1) else false) else false) = true
            obtain ⟨k1, k2⟩ := atS_map (v := (verH h t).1) (dayW h d) (cutL h)
            obtain ⟨m1, m2⟩ := hruns.at_day ho.b1 ho.a1 (dayW h d)
            have ee : (endAt h.2.2.1.1.1 (ofF h t).1 == h.2.2.1.1.2.1) = true := by
              rw [g4, w2]
              simp
            rw [ee, inB_eq ho]
            rw [g4, k1, m1]
            cases hx : decide (h.2.2.1.1.1 ≤ dayW h d ∧ dayW h d < h.2.2.1.1.2.1) with
            | false => rfl
            | true =>
              rw [hx] at m1
              obtain ⟨_, _, q3, q4⟩ := m2 m1
              have hp := k2 m1
              have e1 : decide (dayW h d ≥ (atS ((cutL h).map (priceV (verH h t).1)) (dayW h d)).1.1.1) = true := by
                rw [hp, (price_core _ _).2]
                exact decide_eq_true q3
              have e2 : decide (dayW h d < (atS ((cutL h).map (priceV (verH h t).1)) (dayW h d)).1.1.2.1) = true := by
                rw [hp, (price_core _ _).2]
                exact decide_eq_true q4
              rw [e1, e2]
              rfl
        · have hnil := ofF_bad he
          refine Fr.br_t ?_ ⟨trivial, Prod.ext ?_ rfl⟩
          · show ((ofF h t).2 != 0) = true
            exact bne_iff_ne.2 he
          · show (bif true then ((ofF h t).1.length : Int) == 0 else false) = true
            rw [hnil]
            rfl)

end Go.Proofs.Ytbplccbjgfappaa

/-
  What holds on a day hangs on the changes up to that day, each day's in their order, and not on when they were booked.
-/
namespace Go.Proofs.Ytbplccbjgfappaa
open Go Go.Ab Go.RowKit Go.Proofs

/-- A change, whenever it was booked. -/
def strip (c : changeT.den) : changeT.den := (0, c.2)

theorem doesK_strip (k : Core) (c : changeT.den) : doesK k (strip c) = doesK k c := rfl

theorem holdK_strip (d : Int) : (l : List changeT.den) → (k : Core) → holdK d (l.map strip) k = holdK d l k
  | [], _ => rfl
  | c :: l, k => by
    simp only [List.map_cons, holdK]
    exact holdK_strip d l _

theorem holdK_filter (d : Int) : (l : List changeT.den) → (k : Core) → holdK d (l.filter fun c => decide (c.2.1 ≤ d)) k = holdK d l k
  | [], _ => rfl
  | c :: l, k => by
    by_cases hc : c.2.1 ≤ d
    · rw [List.filter_cons_of_pos (by simpa using hc)]
      simp only [holdK]
      exact holdK_filter d l _
    · rw [List.filter_cons_of_neg (by simpa using hc)]
      have hgt : c.2.1 > d := Int.not_le.1 hc
      simp only [holdK]
      rw [if_pos hgt]
      exact holdK_filter d l k

def dayC (c : changeT.den) : Int := c.2.1

theorem rangeI_chAt (h : histT.den) : (rangeI (chL h).length).map (chAt h) = chL h := by
  unfold rangeI chAt
  rw [List.map_map]
  apply List.ext_getElem
  · simp
  · intro i h1 h2
    simp only [List.getElem_map, List.getElem_range, Function.comp_apply, Int.toNat_natCast]
    rw [List.getD_eq_getElem?_getD, List.getElem?_eq_getElem h2]
    rfl

/-- Each day's changes stand in their order. -/
theorem chsO_same (h : histT.den) : SameK dayC (chL h) (chsO h) := fun k => by
  have hs := (sortB_sort (key := dayOf h) (lt := ltDay h) (l := rangeI (chL h).length) (fun _ _ _ _ => rfl)).2 k
  have h1 : (chsO h).filter (fun x => dayC x == k) = ((orderL h).filter (fun x => dayOf h x == k)).map (chAt h) := by
    unfold chsO
    rw [List.filter_map]
    rfl
  have h2 : (chL h).filter (fun x => dayC x == k) = ((rangeI (chL h).length).filter (fun x => dayOf h x == k)).map (chAt h) := by
    conv => lhs; rw [← rangeI_chAt h]
    rw [List.filter_map]
    rfl
  rw [h1, h2]
  exact congrArg _ hs

theorem chsO_sortK (h : histT.den) : SortK dayC (chsO h) := chsO_sorted h

theorem SortK.filter {α : Type} {key : α → Int} {l : List α} (h : SortK key l) (p : α → Bool) : SortK key (l.filter p) := List.Pairwise.sublist List.filter_sublist h

theorem sortK_strip {l : List changeT.den} (h : SortK dayC l) : SortK dayC (l.map strip) := by
  unfold SortK
  rw [List.pairwise_map]
  exact h

theorem filter_strip (l : List changeT.den) (k : Int) : (l.map strip).filter (fun x => dayC x == k) = (l.filter (fun x => dayC x == k)).map strip := by
  rw [List.filter_map]
  rfl

/-- What holds on a day: by what is told of each day up to it. -/
theorem stOf_congr {h x : histT.den} {d : Int} (h0 : ((true, h.2.2.1.2.1, h.2.2.1.2.2.1) : Core) = (true, x.2.2.1.2.1, x.2.2.1.2.2.1))
    (hk : ∀ k, k ≤ d → ((chL h).map strip).filter (fun c => dayC c == k) = ((chL x).map strip).filter (fun c => dayC c == k)) : stOf h d = stOf x d := by
  unfold stOf
  rw [h0, ← holdK_filter d (chsO h), ← holdK_filter d (chsO x), ← holdK_strip d ((chsO h).filter _), ← holdK_strip d ((chsO x).filter _)]
  congr 1
  refine SameK.eq (key := dayC) (sortK_strip ((chsO_sortK h).filter _)) (sortK_strip ((chsO_sortK x).filter _)) fun k => ?_
  have key : ∀ y : histT.den, ((((chsO y).filter fun c => decide (c.2.1 ≤ d))).map strip).filter (fun c => dayC c == k) = if k ≤ d then ((chL y).map strip).filter (fun c => dayC c == k) else [] := by
    intro y
    rw [filter_strip, List.filter_filter]
    split
    · rename_i hkd
      have : ((chsO y).filter fun a => (dayC a == k && decide (a.2.1 ≤ d))) = (chsO y).filter fun a => dayC a == k := by
        apply List.filter_congr
        intro a _
        rw [Bool.eq_iff_iff]
        simp only [Bool.and_eq_true, beq_iff_eq, decide_eq_true_eq]
        constructor
        · exact fun q => q.1
        · intro q
          refine ⟨q, ?_⟩
          have : dayC a = a.2.1 := rfl
          rw [← this, q]
          exact hkd
      rw [this, chsO_same y k, filter_strip]
    · rename_i hkd
      have : ((chsO y).filter fun a => (dayC a == k && decide (a.2.1 ≤ d))) = [] := by
        rw [List.filter_eq_nil_iff]
        intro a _
        simp only [Bool.and_eq_true, beq_iff_eq, decide_eq_true_eq]
        rintro ⟨q1, q2⟩
        have : dayC a = a.2.1 := rfl
        rw [← this, q1] at q2
        exact hkd q2
      rw [this]
      rfl
  rw [key x, key h]
  split
  · rename_i hkd
    exact (hk k hkd).symm
  · rfl

end Go.Proofs.Ytbplccbjgfappaa

/-
  SlicesAhead: the law's contract.
-/
namespace Go.Proofs.Ytbplccbjgfappaa
open Go Go.Ab Go.RowKit Go.Proofs

noncomputable def CLH : Cx := cx [(15, cYes), (21, cSliceEq), (20, cAt), (17, cOf), (16, cFew)] []
theorem CLH_ok : CxOK Try.prog CLH := cx_ok mixed ⟨awake_ok, r12_Same_ok, slices_At_ok, of_ok, few_ok, trivial⟩ trivial

/-- A policy with one more change. -/
def addCh (h : histT.den) (c : changeT.den) : histT.den := (h.1, h.2.1, h.2.2.1, ([] ++ h.2.2.2.1) ++ [c], ())
def setSpan (p : sliceT.den) (e : sliceT.den) : sliceT.den := (e.1, p.2.1, p.2.2.1, p.2.2.2.1, p.2.2.2.2.1, ())
set_option maxRecDepth 100000 in
def roomC (n m : Nat) : Prop := n + m ≤ maxLen ∧ (n + m) * Try.prog.types[43].bytes ≤ 140737488355328
set_option maxRecDepth 100000 in
theorem changeBytes : Try.prog.types[43].bytes ≤ 1000 := by decide
def fr_Ah (x : denP [.d histT, .d tarT, .d changeT, .d (.int .u32)]) : Fr (denL [.bool]) :=
  let h : histT.den := x.1; let t : tarT.den := x.2.1; let c : changeT.den := x.2.2.1; let d : Int := x.2.2.2.1
  let l : List changeT.den := h.2.2.2.1
  let R : denL [slsT, i64] := cOf.f (h, t, ()); let S : denL [slsT, i64] := cOf.f (addCh h c, t, ())
  let A : denL [sliceT, .bool] := cAt.f (R.1, dayW h d, ()); let B : denL [sliceT, .bool] := cAt.f (S.1, dayW h d, ())
  Fr.br (bif bif !(cFew.f (h, t, ())).1 then true else decide ((l.length : Int) > 59) then true else decide ((List.length (α := coverT.den) c.2.2.2.2.1 : Int) > 50)) (Fr.val (true, ()))
    (Fr.need (roomC ([] : List changeT.den).length l.length) (Fr.need (roomC (([] : List changeT.den) ++ l).length [c].length)
      (Fr.need (fewH h) (Fr.need (fewT t) (Fr.need (fewH (addCh h c)) (Fr.need (fewT t)
        (Fr.br (bif R.2.1 != 0 then true else S.2.1 != 0) (Fr.val (true, ()))
          (Fr.need ((1100 : Int) ≠ 0)
            (Fr.br (decide (dayW h d ≥ c.2.1)) (Fr.val (true, ()))
              (Fr.val (bif bif true then A.2.1 == B.2.1 else false then (cSliceEq.f (setSpan A.1 B.1, B.1, ())).1 else false, ())))))))))))

theorem ah_run : SoundCt Try.prog 5 ⟨[.d histT, .d tarT, .d changeT, .d (.int .u32)], [.bool], fun xs => (fr_Ah xs).get, fun xs => [(fr_Ah xs).ok]⟩ :=
  fn_sound CLH_ok (Λ := lam0) (fn := Try.f5) (fr := fr_Ah) (ps := [.d histT, .d tarT, .d changeT, .d (.int .u32)]) (rs := [.bool]) (histT.dflt, tarT.dflt, changeT.dflt, 0, ()) (by kernel_rfl)
    (fun c E hc => lam0_ok _ 0) (fun x => by kernel_rfl)

/-! ### The law, plain -/

theorem Runs.yearly {st : Int → Core} {b : Int} : {a : Int} → {l : List sliceT.den} → Runs st b a l → ∀ s ∈ l, s.2.2.2.2.1 = (0 : Int)
  | _, [], _, _, hs => by cases hs
  | _, t :: l, h, s, hs => by
    rcases List.mem_cons.1 hs with rfl | hs
    · exact h.2.2.1
    · exact Runs.yearly h.2.2.2.2.2 s hs

theorem price_same (v : verT.den) {s t : sliceT.den} (hc : coreS s = coreS t) (hy : s.2.2.2.2.1 = t.2.2.2.2.1) : sliceEq (setSpan (priceV v s) (priceV v t)) (priceV v t) = true := by
  obtain ⟨⟨a, b, _⟩, o, r, c, y, _⟩ := s
  obtain ⟨⟨a', b', _⟩, o', r', c', y', _⟩ := t
  have e : (o, r, c) = ((o', r', c') : Core) := hc
  have e4 : y = y' := hy
  cases e
  cases e4
  have key : setSpan (priceV v ((a, b, ()), o, r, c, y, ())) (priceV v ((a', b', ()), o, r, c, y, ())) = priceV v ((a', b', ()), o, r, c, y, ()) := by
    unfold priceV
    cases o <;> rfl
  rw [key]
  exact sliceEq_refl _

theorem filter_addCh (h : histT.den) (c : changeT.den) {k : Int} (hk : k < c.2.1) : ((chL h).map strip).filter (fun x => dayC x == k) = ((chL (addCh h c)).map strip).filter (fun x => dayC x == k) := by
  show _ = ((([] ++ h.2.2.2.1) ++ [c]).map strip).filter (fun x => dayC x == k)
  rw [List.nil_append, List.map_append, List.filter_append]
  have : ([c].map strip).filter (fun x => dayC x == k) = [] := by
    have hn : ¬ (dayC (strip c) == k) = true := by
      rw [beq_iff_eq]
      intro he
      have : c.2.1 = k := he
      rw [this] at hk
      exact absurd hk (Int.lt_irrefl _)
    exact List.filter_cons_of_neg hn
  rw [this, List.append_nil]

theorem lawAhead_ok : SoundCt Try.prog 5 (cLaw [.d histT, .d tarT, .d changeT, .d (.int .u32)]) :=
  convF ah_run _ _ (fun w F x vs hr _ => by
    obtain ⟨h, t, c, d, _⟩ := x
    obtain ⟨v1, vs1, rfl, _, v2, vs2, rfl, _, v3, vs3, rfl, _, v4, vs4, rfl, h4, _⟩ := hr
    have hd : 0 ≤ d ∧ d ≤ 4294967295 := h4.2.2.2
    show (fr_Ah (h, t, c, d, ())).ok ∧ (fr_Ah (h, t, c, d, ())).get = (true, ())
    have hcond : ∀ b : Bool, (bif bif !(fewB h t) then true else decide ((List.length (α := changeT.den) h.2.2.2.1 : Int) > 59) then true else decide ((List.length (α := coverT.den) c.2.2.2.2.1 : Int) > 50)) = b → (fr_Ah (h, t, c, d, ())).ok ∧ (fr_Ah (h, t, c, d, ())).get = (true, ()) := by
      intro b hb
      cases b with
      | true => exact Fr.br_t hb ⟨trivial, rfl⟩
      | false =>
        have hf : fewB h t = true := by
          cases hf : fewB h t with
          | true => rfl
          | false => rw [hf] at hb; cases hb
        rw [hf] at hb
        have hl : ¬ ((List.length (α := changeT.den) h.2.2.2.1 : Int) > 59) := by
          intro hx
          rw [decide_eq_true hx] at hb
          cases hb
        rw [decide_eq_false hl] at hb
        have hcv : ¬ ((List.length (α := coverT.den) c.2.2.2.2.1 : Int) > 50) := of_decide_eq_false hb
        obtain ⟨f1, f2⟩ := fewB_fewH hf
        have hl1 : (chL h).length ≤ 59 := by
          have : (chL h).length = h.2.2.2.1.length := rfl
          omega
        have fx : fewH (addCh h c) := by
          have e : chL (addCh h c) = ([] ++ chL h) ++ [c] := rfl
          refine ⟨?_, f1.2.1, fun c' hc' => ?_⟩
          · rw [e, List.length_append, List.nil_append]
            show _ + 1 ≤ _
            omega
          · rw [e, List.nil_append, List.mem_append] at hc'
            rcases hc' with hc' | hc'
            · exact f1.2.2 c' hc'
            · cases List.mem_singleton.1 hc'
              have : c.2.2.2.2.1.length ≤ 50 := by omega
              exact Nat.le_trans this (by decide)
        have room : ∀ n m : Nat, n + m ≤ 60 → roomC n m := by
          intro n m hnm
          refine ⟨?_, Nat.le_trans (Nat.mul_le_mul hnm changeBytes) (by decide)⟩
          unfold maxLen
          omega
        refine Fr.br_f ?_ (Fr.need_ (room _ _ ?_) (Fr.need_ (room _ _ ?_) (Fr.need_ f1 (Fr.need_ f2 (Fr.need_ fx (Fr.need_ f2 ?_))))))
        · show (bif bif !(fewB h t) then true else decide ((List.length (α := changeT.den) h.2.2.2.1 : Int) > 59) then true else decide ((List.length (α := coverT.den) c.2.2.2.2.1 : Int) > 50)) = false
          rw [hf, decide_eq_false hl, decide_eq_false hcv]
          rfl
        · show 0 + (chL h).length ≤ 60
          omega
        · show (([] : List changeT.den) ++ chL h).length + 1 ≤ 60
          rw [List.nil_append]
          omega
        · by_cases he : (ofF h t).2 = 0
          · by_cases hx : (ofF (addCh h c) t).2 = 0
            · refine Fr.br_f ?_ (Fr.need_ (by decide) ?_)
              · show (bif (ofF h t).2 != 0 then true else (ofF (addCh h c) t).2 != 0) = false
                rw [he, hx]
                rfl
              · by_cases hday : dayW h d ≥ c.2.1
                · exact Fr.br_t (decide_eq_true hday) ⟨trivial, rfl⟩
                · refine Fr.br_f (decide_eq_false hday) ⟨trivial, Prod.ext ?_ rfl⟩
                  have hlt : dayW h d < c.2.1 := Int.not_le.1 hday
                  obtain ⟨g1, g2, g3, g4⟩ := ofF_good he
                  obtain ⟨x1, x2, x3, x4⟩ := ofF_good hx
                  have ho := histOk g1
                  have hr1 := cutL_runs g1
                  have hr2 : Runs (stOf (addCh h c)) h.2.2.1.1.2.1 h.2.2.1.1.1 (cutL (addCh h c)) := cutL_runs x1
                  obtain ⟨k1, k2⟩ := atS_map (v := (verH h t).1) (dayW h d) (cutL h)
                  obtain ⟨l1, l2⟩ := atS_map (v := (verH h t).1) (dayW h d) (cutL (addCh h c))
                  obtain ⟨m1, m2⟩ := hr1.at_day ho.b1 ho.a1 (dayW h d)
                  obtain ⟨n1, n2⟩ := hr2.at_day ho.b1 ho.a1 (dayW h d)
                  have x4' : (ofF (addCh h c) t).1 = (cutL (addCh h c)).map (priceV (verH h t).1) := x4
                  show (bif ((atS (ofF h t).1 (dayW h d)).2 == (atS (ofF (addCh h c) t).1 (dayW h d)).2) then sliceEq (setSpan (atS (ofF h t).1 (dayW h d)).1 (atS (ofF (addCh h c) t).1 (dayW h d)).1) (atS (ofF (addCh h c) t).1 (dayW h d)).1 else false) = true
                  rw [g4, x4', k1, l1, m1, n1]
                  have hst : stOf h (dayW h d) = stOf (addCh h c) (dayW h d) := stOf_congr rfl (fun k hk => filter_addCh h c (Int.lt_of_le_of_lt hk hlt))
                  cases hin : decide (h.2.2.1.1.1 ≤ dayW h d ∧ dayW h d < h.2.2.1.1.2.1) with
                  | true =>
                    rw [hin] at m1 n1
                    obtain ⟨p1, p2, _⟩ := m2 m1
                    obtain ⟨q1, q2, _⟩ := n2 n1
                    rw [k2 m1, l2 n1]
                    show sliceEq _ _ = true
                    exact price_same _ (p1.trans (hst.trans q1.symm)) ((hr1.yearly _ p2).trans (hr2.yearly _ q2).symm)
                  | false =>
                    rw [hin] at m1 n1
                    have z1 := atS_none ((cutL h).map (priceV (verH h t).1)) (dayW h d) (k1.trans m1)
                    have z2 := atS_none ((cutL (addCh h c)).map (priceV (verH h t).1)) (dayW h d) (l1.trans n1)
                    rw [z1, z2]
                    exact sliceEq_refl _
            · refine Fr.br_t ?_ ⟨trivial, rfl⟩
              show (bif (ofF h t).2 != 0 then true else (ofF (addCh h c) t).2 != 0) = true
              rw [he]
              exact bne_iff_ne.2 hx
          · refine Fr.br_t ?_ ⟨trivial, rfl⟩
            show (bif (ofF h t).2 != 0 then true else (ofF (addCh h c) t).2 != 0) = true
            rw [show ((ofF h t).2 != 0) = true from bne_iff_ne.2 he]
            rfl
    exact hcond _ rfl)

end Go.Proofs.Ytbplccbjgfappaa

/-
  What a year costs on a day, by the step that slices make: the cost of the day's slice.
-/
namespace Go.Proofs.Ytbplccbjgfappaa
open Go Go.Ab Go.RowKit Go.Proofs

/-- The step's value. -/
def valP (p : List Int × List Int) (d : Int) : Int := valAt (p.1, p.2, ()) d

theorem cntLe_append (l m : List Int) (d : Int) : cntLe (l ++ m) d = cntLe l d + cntLe m d := by
  unfold cntLe
  exact List.countP_append
theorem cntLe_le (l : List Int) (d : Int) : cntLe l d ≤ l.length := by
  unfold cntLe
  exact List.countP_le_length
theorem cntLe_all {l : List Int} {d : Int} (h : ∀ x ∈ l, x ≤ d) : cntLe l d = l.length := by
  unfold cntLe
  exact List.countP_eq_length.2 fun x hx => decide_eq_true (h x hx)
theorem cntLe_one (day d : Int) : cntLe [day] d = if day ≤ d then 1 else 0 := by
  unfold cntLe
  by_cases h : day ≤ d
  · rw [if_pos h, List.countP_eq_length.2 (fun x hx => by rw [List.mem_singleton.1 hx]; exact decide_eq_true h)]
    rfl
  · rw [if_neg h]
    exact List.countP_eq_zero.2 (fun x hx hd => by rw [List.mem_singleton.1 hx] at hd; exact h (of_decide_eq_true hd))

theorem Good.all {p : List Int × List Int} {m : Int} (h : Good p m) : ∀ x ∈ p.1, x ≤ m := by
  intro x hx
  have hp := (rises_spec h.up h.len).1
  have hle := h.le
  have hne : p.1 ≠ [] := List.ne_nil_of_mem hx
  rw [List.getLast?_eq_some_getLast hne] at hle
  have hle' : p.1.getLast hne ≤ m := hle
  have hs : p.1 = p.1.dropLast ++ [p.1.getLast hne] := (List.dropLast_concat_getLast hne).symm
  rw [hs] at hx hp
  rcases List.mem_append.1 hx with hx | hx
  · have := (List.pairwise_append.1 hp).2.2 x hx _ (List.mem_singleton.2 rfl)
    exact Int.le_of_lt (Int.lt_of_lt_of_le this hle')
  · rw [List.mem_singleton.1 hx]
    exact hle'

theorem valP_snoc {l r : List Int} {day v d : Int} (hlen : l.length = r.length) (hl : ∀ x ∈ l, x < day) : valP (l ++ [day], r ++ [v]) d = if day ≤ d then v else valP (l, r) d := by
  unfold valP valAt
  show (match cntLe (l ++ [day]) d with | 0 => (0 : Int) | k + 1 => (r ++ [v]).getD k 0) = _
  rw [cntLe_append, cntLe_one]
  by_cases h : day ≤ d
  · rw [if_pos h, if_pos h, cntLe_all (fun x hx => Int.le_trans (Int.le_of_lt (hl x hx)) h)]
    show (r ++ [v]).getD l.length 0 = v
    rw [List.getD_eq_getElem?_getD, List.getElem?_append_right (by omega), hlen]
    simp
  · rw [if_neg h, if_neg h]
    show (match cntLe l d + 0 with | 0 => (0 : Int) | k + 1 => (r ++ [v]).getD k 0) = (match cntLe l d with | 0 => (0 : Int) | k + 1 => r.getD k 0)
    rw [Nat.add_zero]
    have hk := cntLe_le l d
    cases hc : cntLe l d with
    | zero => rfl
    | succ k =>
      rw [hc] at hk
      show (r ++ [v]).getD k 0 = r.getD k 0
      rw [List.getD_eq_getElem?_getD, List.getD_eq_getElem?_getD, List.getElem?_append_left (by omega)]

theorem valP_last {p : List Int × List Int} {m d : Int} (h : Good p m) (hd : m ≤ d) : valP p d = p.2.getLast?.getD 0 := by
  unfold valP valAt
  show (match cntLe p.1 d with | 0 => (0 : Int) | k + 1 => p.2.getD k 0) = _
  rw [cntLe_all (fun x hx => Int.le_trans (h.all x hx) hd), h.len]
  cases hn : p.2.length with
  | zero =>
    have : p.2 = [] := List.length_eq_zero_iff.1 hn
    rw [this]
    rfl
  | succ k =>
    show p.2.getD k 0 = _
    rw [List.getLast?_eq_getElem?, hn, List.getD_eq_getElem?_getD]
    rfl

theorem valP_push {q : List Int × List Int} {m day v d : Int} (hq : Good q m) (hm : m < day) (hd : d ≤ 292194) : valP (if v ≠ q.2.getLast?.getD 0 ∧ day ≤ 292194 then (q.1 ++ [day], q.2 ++ [v]) else q) d = if day ≤ d then v else valP q d := by
  by_cases hc : v ≠ q.2.getLast?.getD 0 ∧ day ≤ 292194
  · rw [if_pos hc]
    exact valP_snoc hq.len (fun x hx => Int.lt_of_le_of_lt (hq.all x hx) hm)
  · rw [if_neg hc]
    by_cases h : day ≤ d
    · rw [if_pos h, valP_last hq (Int.le_trans (Int.le_of_lt hm) h)]
      apply Classical.byContradiction
      intro hv
      exact hc ⟨fun e => hv e.symm, Int.le_trans h hd⟩
    · rw [if_neg h]

theorem valP_add {p : List Int × List Int} {m day v d : Int} (h : Good p m) (hm : m ≤ day) (h1 : 1 ≤ day) (hd : d ≤ 292194) : valP (addAV p day v) d = if day ≤ d then v else valP p d := by
  unfold addAV
  by_cases hl : p.1.getLast? = some day
  · have hp := (h.pop hl).1
    simp only [hl, if_true]
    have := valP_push (v := v) hp (show day - 1 < day by omega) hd
    refine this.trans ?_
    by_cases hx : day ≤ d
    · rw [if_pos hx, if_pos hx]
    · rw [if_neg hx, if_neg hx]
      have e1 := getLast_le hl
      have hne : p.2 ≠ [] := by
        intro h0
        have hlen := h.len
        rw [h0] at hlen
        rw [List.length_eq_zero_iff.1 hlen] at hl
        cases hl
      have e2 : p.2 = p.2.dropLast ++ [p.2.getLast hne] := (List.dropLast_concat_getLast hne).symm
      have : valP p d = valP (p.1.dropLast ++ [day], p.2.dropLast ++ [p.2.getLast hne]) d := by
        rw [← e1, ← e2]
      rw [this, valP_snoc hp.len (fun x hx => by have := hp.all x hx; omega), if_neg hx]
  · simp only [hl, if_false]
    have hlt : p.1.getLast?.getD 0 ≤ day - 1 := by
      have hle := h.le
      cases hx : p.1.getLast? with
      | none => show (0 : Int) ≤ _; omega
      | some x =>
        rw [hx] at hle hl
        have hne : x ≠ day := fun he => hl (by rw [he])
        have hle' : x ≤ m := hle
        show x ≤ _
        omega
    exact valP_push (v := v) (m := day - 1) ⟨h.len, h.up, hlt, h.pos⟩ (by omega) hd

theorem valP_addS {p : List Int × List Int} {s : sliceT.den} {e d : Int} (h : Good p e) (he : 1 ≤ e) (hs : fullSl s e = true) (hd : d ≤ 292194) :
    valP (addS p s) d = if s.1.2.1 ≤ d then 0 else if s.1.1 ≤ d then s.2.2.2.2.1 else valP p d := by
  obtain ⟨h1, h2, h3, h4, h5⟩ := fullSl_iff.1 hs
  have hf : 1 ≤ s.1.1 := Int.le_trans he h1
  have ht : 1 ≤ s.1.2.1 := Int.le_trans hf (Int.le_of_lt h2)
  have g := h.add h1 hf ⟨h4, h5⟩
  unfold addS
  rw [valP_add g (Int.le_of_lt h2) ht hd, valP_add h h1 hf hd]

/-- What a year costs on a day, by slices. -/
def costL : List sliceT.den → Int → Int
  | [], _ => 0
  | s :: l, d => if s.1.1 ≤ d ∧ d < s.1.2.1 then s.2.2.2.2.1 else costL l d

theorem cost_ahead : {l : List sliceT.den} → {e : Int} → {p : List Int × List Int} → {q : Int × (List Int × List Int)} → curveE l e p = some q → (d : Int) → d < e → costL l d = 0
  | [], _, _, _, _, _, _ => rfl
  | s :: l, e, p, q, hq, d, hd => by
    simp only [curveE] at hq
    split at hq
    · rename_i hs
      obtain ⟨h1, h2, _⟩ := fullSl_iff.1 hs
      unfold costL
      have hd1 : d < s.1.1 := Int.lt_of_lt_of_le hd h1
      rw [if_neg (fun hh => absurd hh.1 (Int.not_le.2 hd1))]
      exact cost_ahead hq d (Int.lt_trans hd1 h2)
    · cases hq

theorem curveE_cost : {l : List sliceT.den} → {e : Int} → {p : List Int × List Int} → {q : Int × (List Int × List Int)} → Good p e → 1 ≤ e → (∀ d, e ≤ d → d ≤ 292194 → valP p d = 0) → curveE l e p = some q → (d : Int) → d ≤ 292194 → valP q.2 d = if d < e then valP p d else costL l d
  | [], e, p, q, _, _, h0, hq, d, hd => by
    simp only [curveE, Option.some.injEq] at hq
    subst hq
    by_cases h : d < e
    · rw [if_pos h]
    · rw [if_neg h]
      exact h0 d (Int.not_lt.1 h) hd
  | s :: l, e, p, q, h, he, h0, hq, d, hd => by
    have hq' := hq
    simp only [curveE] at hq
    split at hq
    · rename_i hs
      obtain ⟨h1, h2, _⟩ := fullSl_iff.1 hs
      have ht : 1 ≤ s.1.2.1 := Int.le_trans (Int.le_trans he h1) (Int.le_of_lt h2)
      have ih := curveE_cost (h.addS he hs) ht (fun d g1 g2 => by rw [valP_addS h he hs g2, if_pos g1]) hq d hd
      rw [ih, valP_addS h he hs hd]
      by_cases c1 : d < s.1.2.1
      · rw [if_pos c1, if_neg (Int.not_le.2 c1)]
        by_cases c2 : s.1.1 ≤ d
        · rw [if_pos c2, if_neg (Int.not_lt.2 (Int.le_trans h1 c2))]
          unfold costL
          rw [if_pos ⟨c2, c1⟩]
        · rw [if_neg c2]
          by_cases c3 : d < e
          · rw [if_pos c3]
          · rw [if_neg c3, h0 d (Int.not_lt.1 c3) hd]
            unfold costL
            rw [if_neg (fun hh => c2 hh.1)]
            exact (cost_ahead hq d c1).symm
      · have c2 : ¬ d < e := fun hh => c1 (Int.lt_of_lt_of_le hh (Int.le_trans h1 (Int.le_of_lt h2)))
        rw [if_neg c1, if_neg c2]
        conv => rhs; unfold costL
        rw [if_neg (fun hh => c1 hh.2)]
    · cases hq

/-- A day's cost by the step is the cost of the day's slice. -/
theorem valAt_cost {l : List sliceT.den} (h : (curveO l).isNone = false) {d : Int} (h1 : 1 ≤ d) (h2 : d ≤ 292194) : valAt (curveF l) d = costL l d := by
  unfold curveF
  unfold curveO at *
  split at h
  · rename_i hl
    rw [if_pos hl]
    rw [curveGo_E] at h ⊢
    cases hq : curveE l 1 ([], []) with
    | none => rw [hq] at h; cases h
    | some q =>
      have := curveE_cost good0 (by decide) (fun d _ _ => rfl) hq d h2
      rw [if_neg (Int.not_lt.2 h1)] at this
      exact this
  · cases h

theorem dsum_congr {f g : stepT.den} : (n : Nat) → (a : Int) → (∀ d, a ≤ d → d < a + n → valAt f d = valAt g d) → dsum f a n = dsum g a n
  | 0, _, _ => rfl
  | n + 1, a, h => by
    simp only [dsum]
    rw [h a (by omega) (by omega), dsum_congr n (a + 1) (fun d h1 h2 => h d (by omega) (by omega))]

/-- What a state costs. -/
def costK (v : verT.den) (k : Core) : Int := if k.1 = true then (yearF v k.2.1 k.2.2).1 else 0

theorem price_cost (v : verT.den) {s : sliceT.den} (hy : s.2.2.2.2.1 = (0 : Int)) : (priceV v s).2.2.2.2.1 = costK v (coreS s) := by
  unfold priceV costK
  have e : (coreS s).1 = s.2.1 := rfl
  rw [e]
  by_cases h : s.2.1 = true
  · rw [if_pos h, if_pos h]
    rfl
  · rw [if_neg h, if_neg h]
    exact hy

theorem price_span (v : verT.den) (s : sliceT.den) : (priceV v s).1 = s.1 := by
  unfold priceV
  split <;> rfl

theorem runs_cost (v : verT.den) {st : Int → Core} {b : Int} : {a : Int} → {l : List sliceT.den} → Runs st b a l → (d : Int) → costL (l.map (priceV v)) d = if a ≤ d ∧ d < b then costK v (st d) else 0
  | a, [], h, d => by
    have h0 : a = b := h
    subst h0
    rw [if_neg (fun hh => absurd (Int.lt_of_le_of_lt hh.1 hh.2) (Int.lt_irrefl _))]
    rfl
  | a, s :: l, h, d => by
    obtain ⟨h1, h2, h3, h4, h5, h6⟩ := h
    have ih := runs_cost v h6 d
    have hb := h6.le
    show (if (priceV v s).1.1 ≤ d ∧ d < (priceV v s).1.2.1 then (priceV v s).2.2.2.2.1 else costL (l.map (priceV v)) d) = _
    rw [(price_span v s), price_cost v h3, ih, h1]
    by_cases c1 : d < s.1.2.1
    · by_cases c2 : a ≤ d
      · rw [if_pos ⟨c2, c1⟩, if_pos ⟨c2, Int.lt_of_lt_of_le c1 hb⟩, h4 d c2 c1]
      · rw [if_neg (fun hh => c2 hh.1), if_neg (fun hh => absurd c1 (Int.not_lt.2 hh.1)), if_neg (fun hh => c2 hh.1)]
    · rw [if_neg (fun hh => c1 hh.2)]
      by_cases c3 : d < b
      · rw [if_pos ⟨Int.not_lt.1 c1, c3⟩, if_pos ⟨Int.le_trans (Int.le_of_lt h2) (Int.not_lt.1 c1), c3⟩]
      · rw [if_neg (fun hh => c3 hh.2), if_neg (fun hh => c3 hh.2)]
end Go.Proofs.Ytbplccbjgfappaa

/-
  accrue's example, and what is earned, once it is told.
-/
namespace Go.Proofs.Ytbplccbjgfappaa
open Go Go.Ab Go.RowKit Go.Proofs

abbrev exL : List sliceT.den := [((1, 366, ()), true, (0, 0, 0, 0, ()), [], 365, ())]
theorem ex1 : UptoF exL 1 = (0, 0) := by kernel_rfl
theorem ex2 : UptoF exL 11 = (10, 0) := by kernel_rfl
theorem ex3 : UptoF exL 292195 = (365, 0) := by kernel_rfl

def cAwake14 : Ct := ⟨[], [.bool], fun _ => (true, ()), fun _ => []⟩
theorem earn_ok : AllCt Try.prog [(34, cWritten), (35, cUptoF)] := ⟨Written_ok, Upto_ok, trivial⟩
def frAwake14 (_ : denP []) : Fr (denL [.bool]) :=
  Fr.val (bif bif bif bif bif (cUptoF.f (exL, 1, ())).2.1 == 0 then (cUptoF.f (exL, 11, ())).2.1 == 0 else false then (cWritten.f (exL, ())).2.1 == 0 else false then (cUptoF.f (exL, 1, ())).1 == 0 else false then (cUptoF.f (exL, 11, ())).1 == 10 else false then (cWritten.f (exL, ())).1 == 365 else false, ())
theorem awake14_ok : SoundCt Try.prog 33 cAwake14 :=
  flat (ps := []) (rs := [.bool]) (cx_ok mixed earn_ok (ps := []) trivial) (fn := Try.f33) (fr := frAwake14) () (by kernel_rfl) (fun x => by kernel_rfl) _ _
    (fun _ _ x _ _ _ => ⟨trivial, by
      show (bif bif bif bif bif (UptoF exL 1).2 == 0 then (UptoF exL 11).2 == 0 else false then (UptoF exL 292195).2 == 0 else false then (UptoF exL 1).1 == 0 else false then (UptoF exL 11).1 == 10 else false then (UptoF exL 292195).1 == 365 else false, ()) = (true, ())
      rw [ex1, ex2, ex3]
      rfl⟩)

/-- What is written is told: then what is earned ahead of any day is. -/
theorem upto_told {l : List sliceT.den} (h : (UptoF l 292195).2 = 0) : (curveO l).isNone = false ∧ Pos (curveF l) ∧ Sd (curveF l) 292195 ≤ 4000000000000000000 ∧ ∀ d, UptoF l d = ((Sd (curveF l) d + 182) / 365, 0) := by
  have hc : (curveO l).isNone = false := by
    cases hn : (curveO l).isNone with
    | false => rfl
    | true =>
      unfold UptoF at h
      rw [if_pos hn] at h
      cases h
  have hp := curve_pos hc
  have hU : ∀ d, UptoF l d = uptoO (curveF l) d := fun d => if_neg (by rw [hc]; decide)
  have htop : Sd (curveF l) 292195 ≤ 4000000000000000000 := by
    apply Classical.byContradiction
    intro hn
    rw [hU, uptoO_days hp, if_neg hn] at h
    cases h
  refine ⟨hc, hp, htop, fun d => ?_⟩
  rw [hU, uptoO_days hp, if_pos (Int.le_trans (Sd_top hp d) htop)]

theorem clampD_in {d : Int} (h1 : 1 ≤ d) (h2 : d ≤ 292195) : clampD d = d := by
  unfold clampD
  rw [if_neg (show ¬ d < 1 by omega), if_neg (by omega)]

/-- What days between two cost. -/
theorem Sd_split (f : stepT.den) {a b : Int} (h1 : 1 ≤ a) (hab : a ≤ b) (h2 : b ≤ 292195) : Sd f b = Sd f a + dsum f a (b - a).toNat := by
  unfold Sd
  rw [clampD_in (by omega) h2, clampD_in h1 (by omega), show (b - 1).toNat = (a - 1).toNat + (b - a).toNat by omega, dsum_add]
  congr 2
  omega

/-- What is earned on some days, where what is written is told. -/
theorem between_told {l : List sliceT.den} (h : (UptoF l 292195).2 = 0) {a b : Int} {u : Unit} (hr : rightS (a, b, u) = true) :
    ((curveO l).isNone = false → rightS (a, b, u) = true → (uptoO (curveF l) b).2 = 0 ∧ (uptoO (curveF l) a).2 = 0) ∧ BetweenF l (a, b, u) = ((Sd (curveF l) b + 182) / 365 - (Sd (curveF l) a + 182) / 365, 0) := by
  obtain ⟨hc, hp, htop, hall⟩ := upto_told h
  have hu : ∀ d, uptoO (curveF l) d = ((Sd (curveF l) d + 182) / 365, 0) := fun d => by
    have := hall d
    unfold UptoF at this
    rw [if_neg (by rw [hc]; decide)] at this
    exact this
  refine ⟨fun _ _ => by rw [hu, hu]; exact ⟨rfl, rfl⟩, ?_⟩
  unfold BetweenF
  rw [if_neg (by rw [hc, hr]; simp), hu, hu]

/-- What is earned up to a day. -/
def earn (l : List sliceT.den) (d : Int) : Int := (Sd (curveF l) d + 182) / 365


end Go.Proofs.Ytbplccbjgfappaa

/-
  AccruePolicies: the law's contract.
-/
namespace Go.Proofs.Ytbplccbjgfappaa
open Go Go.Ab Go.RowKit Go.Proofs

noncomputable def CLP : Cx := cx [(33, cAwake14), (34, cWritten), (35, cUptoF), (36, cBetween), (17, cOf), (16, cFew)] []
theorem CLP_ok : CxOK Try.prog CLP := cx_ok mixed ⟨awake14_ok, Written_ok, Upto_ok, Between_ok, of_ok, few_ok, trivial⟩ trivial

abbrev ptP : Pt := ⟨190, 0, ⟨[(18, .d i64), (9, .d slsT), (7, .d .bool), (17, .d i64)], [.x 3 31 histT, .r 3 3 0, .x 4 34 tarT, .r 4 4 0, .x 5 43 changeT, .r 5 5 0]⟩, ⟨[(7, .d .bool), (9, .d slsT), (17, .d i64)], [.x 3 31 histT, .r 3 3 0, .x 4 34 tarT, .r 4 4 0, .x 5 43 changeT, .r 5 5 0]⟩, ⟨[(6, .d .bool)], []⟩⟩
def fr_P (x : ptP.M.X) : Fr ptP.Out :=
  let k : Int := x.1.1; let l : List sliceT.den := x.1.2.1; let b : Bool := x.1.2.2.1; let o : Int := x.1.2.2.2.1; let h : histT.den := x.2.1; let t : tarT.den := x.2.2.1; let c : changeT.den := x.2.2.2.1
  let E : sliceT.den := l.getD k.toNat sliceT.dflt
  Fr.br (decide (k < (l.length : Int)))
    (Fr.need (0 ≤ k ∧ k < (l.length : Int))
      (Fr.need ((curveO l).isNone = false → rightS E.1 = true → (uptoO (curveF l) E.1.2.1).2 = 0 ∧ (uptoO (curveF l) E.1.1).2 = 0)
        (Fr.br ((cBetween.f (l, E.1, ())).2.1 != 0) (Fr.val (Rd.back ((false, ()), ())))
          (Fr.need (0 ≤ k ∧ k < (l.length : Int))
            (Fr.br (!E.2.1) (Fr.val (Rd.next ((IntKind.i64.wrap (k + 1), l, b, IntKind.i64.wrap (o + (cBetween.f (l, E.1, ())).1), ()), (h, t, c, ()))))
              (Fr.val (Rd.next ((IntKind.i64.wrap (k + 1), l, b, o, ()), (h, t, c, ())))))))))
    (Fr.val (Rd.out ((b, l, o, ()), (h, t, c, ()))))
theorem sem_P : Does Try.prog (loopF Try.f13 0) ptP.M ptP fr_P :=
  Does.of_run CLP_ok (bs := 0) (Λ := lam0) rfl rfl rfl (fun E => lam0_ok _ 0) (fun x => by kernel_rfl)

structure InvP (k : Int) (l : List sliceT.den) (o : Int) : Prop where
  told : (UptoF l 292195).2 = 0
  k0 : 0 ≤ k
  kl : k ≤ l.length
  big : (l.length : Int) ≤ 9223372036854775807
  o0 : o = 0
  each : ∀ s ∈ l, rightS s.1 = true ∧ (s.2.1 = false → earn l s.1.2.1 = earn l s.1.1)

def FP (x : ptP.M.X) : Fr ptP.Out :=
  Fr.need (InvP x.1.1 x.1.2.1 x.1.2.2.2.1) (Fr.val (Rd.out ((x.1.2.2.1, x.1.2.1, 0, ()), (x.2.1, x.2.2.1, x.2.2.2.1, ()))))

theorem lawP (k : Int) (l : List sliceT.den) (b : Bool) (o : Int) (h : histT.den) (t : tarT.den) (c : changeT.den) (hinv : InvP k l o) (Q : ptP.Out → Prop) (hq : Q (Rd.out ((b, l, 0, ()), (h, t, c, ())))) :
    (fr_P ((k, l, b, o, ()), (h, t, c, ()))).satP fun
      | .next x' => InvP x'.1.1 x'.1.2.1 x'.1.2.2.2.1 ∧ ((List.length (α := sliceT.den) x'.1.2.1 : Int) - x'.1.1).toNat < ((l.length : Int) - k).toNat ∧ (FP x').satP Q
      | .out y => Q (.out y)
      | .back z => Q (.back z)
      | .pan p => Q (.pan p) := by
  obtain ⟨ht, h0, h1, h2, h3, h4⟩ := hinv
  obtain ⟨i, rfl⟩ : ∃ n : Nat, k = n := ⟨k.toNat, by omega⟩
  subst h3
  dsimp only [fr_P, Fr.satP, Ty.den, PT.den]
  simp only [Int.toNat_natCast]
  refine ⟨fun hi => ?_, fun _ => hq⟩
  have hlt : i < l.length := by have : (i : Int) < (l.length : Int) := of_decide_eq_true hi; omega
  have w : IntKind.i64.wrap ((i : Int) + 1) = (i + 1 : Nat) := succ_nat (by omega)
  have hg : l.getD i sliceT.dflt = l[i] := by rw [List.getD_eq_getElem?_getD, List.getElem?_eq_getElem hlt]; rfl
  have hb : 0 ≤ (i : Int) ∧ (i : Int) < (l.length : Int) := ⟨by omega, by omega⟩
  have hμ : ((l.length : Int) - ((i + 1 : Nat) : Int)).toNat < ((l.length : Int) - (i : Int)).toNat := by omega
  have hm : l.getD i sliceT.dflt ∈ l := by rw [hg]; exact List.getElem_mem hlt
  obtain ⟨e1, e2⟩ := h4 _ hm
  have hI : InvP ((i + 1 : Nat) : Int) l 0 := ⟨ht, by omega, by omega, h2, rfl, h4⟩
  obtain ⟨b1, b2⟩ := between_told (u := ()) ht (a := (l.getD i sliceT.dflt).1.1) (b := (l.getD i sliceT.dflt).1.2.1) e1
  have b3 : BetweenF l (l.getD i sliceT.dflt).1 = (earn l (l.getD i sliceT.dflt).1.2.1 - earn l (l.getD i sliceT.dflt).1.1, 0) := b2
  rw [w]
  refine ⟨hb, b1, fun hx => ?_, fun _ => ⟨hb, fun hoff => ?_, fun _ => ⟨hI, hμ, hI, hq⟩⟩⟩
  · exfalso
    have hx' : ((BetweenF l (l.getD i sliceT.dflt).1).2 != 0) = true := hx
    rw [b3] at hx'
    cases hx'
  · have hoff' : (l.getD i sliceT.dflt).2.1 = false := by
      have : (!(l.getD i sliceT.dflt).2.1) = true := hoff
      simpa using this
    have hz : IntKind.i64.wrap (0 + (BetweenF l (l.getD i sliceT.dflt).1).1) = 0 := by
      rw [b3, e2 hoff', Int.sub_self]
      decide
    have hI' : InvP ((i + 1 : Nat) : Int) l (IntKind.i64.wrap (0 + (BetweenF l (l.getD i sliceT.dflt).1).1)) := by rw [hz]; exact hI
    exact ⟨hI', hμ, hI', hq⟩

theorem loopP : Does Try.prog (.loop (loopF Try.f13 0)) ptP.M ptP FP := by
  refine Does.loop (n := 190) (id := 0) sem_P (inv := fun x => InvP x.1.1 x.1.2.1 x.1.2.2.2.1) (μ := fun x => ((List.length (α := sliceT.den) x.1.2.1 : Int) - x.1.1).toNat) ?_ (fun x Q h => h.1)
  rintro ⟨⟨k, l, b, o, _⟩, h, t, c, _⟩ hinv Q hq
  exact lawP k l b o h t c hinv Q hq.2

def fr_Po2 (A : List sliceT.den) (B : denL [slsT, i64]) (cd : Int) : Fr (denL [.bool]) :=
  Fr.br (bif bif (0 : Int) != 0 then true else B.2.1 != 0 then true else (cWritten.f (B.1, ())).2.1 != 0) (Fr.val (bif true then (0 : Int) == 0 else false, ()))
    (Fr.val (bif bif bif true then (cUptoF.f (A, cd, ())).2.1 == 0 else false then (cUptoF.f (B.1, cd, ())).2.1 == 0 else false then (cUptoF.f (A, cd, ())).1 == (cUptoF.f (B.1, cd, ())).1 else false, ()))
def fr_Po (x : denP [.d histT, .d tarT, .d changeT]) : Fr (denL [.bool]) :=
  let h : histT.den := x.1; let t : tarT.den := x.2.1; let c : changeT.den := x.2.2.1
  let l : List changeT.den := h.2.2.2.1
  let R : denL [slsT, i64] := cOf.f (h, t, ())
  Fr.br (bif bif !(cFew.f (h, t, ())).1 then true else decide ((l.length : Int) > 59) then true else decide ((List.length (α := coverT.den) c.2.2.2.2.1 : Int) > 50)) (Fr.val (true, ()))
    (Fr.need (fewH h) (Fr.need (fewT t)
      (Fr.br (bif R.2.1 != 0 then true else (cWritten.f (R.1, ())).2.1 != 0) (Fr.val (true, ()))
        (Fr.br (bif bif bif (cUptoF.f (R.1, h.2.2.1.1.1, ())).2.1 != 0 then true else (cUptoF.f (R.1, h.2.2.1.1.2.1, ())).2.1 != 0 then true else (cUptoF.f (R.1, h.2.2.1.1.1, ())).1 != 0 then true else (cUptoF.f (R.1, h.2.2.1.1.2.1, ())).1 != (cWritten.f (R.1, ())).1)
          (Fr.val (false, ()))
          (Fr.need (InvP 0 R.1 0)
            (Fr.need (roomC ([] : List changeT.den).length l.length) (Fr.need (roomC (([] : List changeT.den) ++ l).length [c].length)
              (Fr.need (fewH (addCh h c)) (Fr.need (fewT t)
                (fr_Po2 R.1 (cOf.f (addCh h c, t, ())) c.2.1))))))))))

theorem po_run : SoundCt Try.prog 13 ⟨[.d histT, .d tarT, .d changeT], [.bool], fun xs => (fr_Po xs).get, fun xs => [(fr_Po xs).ok]⟩ :=
  fn_sound CLP_ok (Λ := fun _ => ptP.han CLP.Γ ptP.M FP) (fn := Try.f13) (fr := fr_Po) (ps := [.d histT, .d tarT, .d changeT]) (rs := [.bool]) (histT.dflt, tarT.dflt, changeT.dflt, ()) (by kernel_rfl)
    (fun c E hc => lam1f hc (by kernel_rfl) (b := loopF Try.f13 0) (by kernel_rfl) (Does.han CLP_ok rfl loopP)) (fun x => by kernel_rfl)

/-! ### The law, plain -/

theorem Runs.mem {st : Int → Core} {b : Int} : {a : Int} → {l : List sliceT.den} → Runs st b a l → ∀ s ∈ l, a ≤ s.1.1 ∧ s.1.1 < s.1.2.1 ∧ s.1.2.1 ≤ b ∧ ∀ d, s.1.1 ≤ d → d < s.1.2.1 → coreS s = st d
  | _, [], _, _, hs => by cases hs
  | a, t :: l, h, s, hs => by
    obtain ⟨h1, h2, h3, h4, h5, h6⟩ := h
    rcases List.mem_cons.1 hs with rfl | hs
    · rw [h1]
      exact ⟨Int.le_refl _, h2, h6.le, h4⟩
    · obtain ⟨q1, q2⟩ := Runs.mem h6 s hs
      exact ⟨Int.le_trans (Int.le_of_lt h2) q1, q2⟩

theorem dsum_zero {f : stepT.den} {n : Nat} {a : Int} (h : ∀ d, a ≤ d → d < a + n → valAt f d = 0) : dsum f a n = 0 := by
  rw [dsum_const n a h, Int.mul_zero]

theorem clampD_lt {d x : Int} (h1 : 1 ≤ x) (h : x < 1 + ((clampD d - 1).toNat : Int)) : x < d ∧ x ≤ 292194 := by
  obtain ⟨c1, c2⟩ := clampD_bd d
  unfold clampD at *
  split at c1 <;> split at c1 <;> omega

theorem rightS_of {s : spanT.den} (h1 : 1 ≤ s.1) (h2 : s.1 ≤ s.2.1) (h3 : s.2.1 ≤ 292195) : rightS s = true := by
  unfold rightS
  rw [decide_eq_true h1, decide_eq_true h2, decide_eq_true h3]
  rfl
theorem off_lt {a b d : Int} (h : a < b) (h2 : d < a + ((b - a).toNat : Int)) : d < b := by omega
theorem off_le {d b c : Int} (h : d < b) (h1 : b ≤ c) (h2 : c ≤ 292195) : d ≤ 292194 := by omega

/-- What is earned of runs' slices. -/
theorem earn_runs {st : Int → Core} {a b : Int} {l : List sliceT.den} (v : verT.den) (hr : Runs st b a l) (ha : 1 ≤ a) (hab : a < b) (hb : b ≤ 292195) (ht : (UptoF (l.map (priceV v)) 292195).2 = 0) :
    earn (l.map (priceV v)) a = 0 ∧ earn (l.map (priceV v)) b = earn (l.map (priceV v)) 292195 ∧ ∀ s ∈ l.map (priceV v), rightS s.1 = true ∧ (s.2.1 = false → earn (l.map (priceV v)) s.1.2.1 = earn (l.map (priceV v)) s.1.1) := by
  obtain ⟨hc, hp, htop, hall⟩ := upto_told ht
  have hv : ∀ d, 1 ≤ d → d ≤ 292194 → valAt (curveF (l.map (priceV v))) d = if a ≤ d ∧ d < b then costK v (st d) else 0 := fun d h1 h2 => (valAt_cost hc h1 h2).trans (runs_cost v hr d)
  have ea : Sd (curveF (l.map (priceV v))) a = 0 := by
    unfold Sd
    refine dsum_zero fun d h1 h2 => ?_
    obtain ⟨q1, q2⟩ := clampD_lt h1 h2
    rw [hv d h1 q2, if_neg (fun hh => absurd q1 (Int.not_lt.2 hh.1))]
  have eb : Sd (curveF (l.map (priceV v))) 292195 = Sd (curveF (l.map (priceV v))) b := by
    rw [Sd_split (curveF (l.map (priceV v))) (show 1 ≤ b by omega) hb (Int.le_refl 292195), dsum_zero fun d h1 h2 => ?_, Int.add_zero]
    rw [hv d (by omega) (by omega), if_neg (fun hh => absurd hh.2 (Int.not_lt.2 h1))]
  refine ⟨by unfold earn; rw [ea]; rfl, by unfold earn; rw [eb], fun s hs => ?_⟩
  obtain ⟨s0, hs0, rfl⟩ := List.mem_map.1 hs
  obtain ⟨m1, m2, m3, m4⟩ := hr.mem s0 hs0
  rw [price_span]
  refine ⟨rightS_of (Int.le_trans ha m1) (Int.le_of_lt m2) (Int.le_trans m3 hb), fun hoff => ?_⟩
  have hoff0 : s0.2.1 = false := by
    have := congrArg Prod.fst (price_core v s0).1
    exact this.symm.trans hoff
  unfold earn
  rw [Sd_split (curveF (l.map (priceV v))) (Int.le_trans ha m1) (Int.le_of_lt m2) (Int.le_trans m3 hb), dsum_zero fun d h1 h2 => ?_, Int.add_zero]
  have h2' : d < s0.1.2.1 := off_lt m2 h2
  rw [hv d (Int.le_trans (Int.le_trans ha m1) h1) (off_le h2' m3 hb), ← m4 d h1 h2']
  split
  · unfold costK
    rw [if_neg (by
      show ¬ s0.2.1 = true
      rw [hoff0]
      decide)]
  · rfl

theorem earn_same {st st' : Int → Core} {a b e : Int} {l m : List sliceT.den} (v : verT.den) (hl : Runs st b a l) (hm : Runs st' b a m) (he : ∀ d, d < e → st d = st' d) (h1 : (UptoF (l.map (priceV v)) 292195).2 = 0) (h2 : (UptoF (m.map (priceV v)) 292195).2 = 0) :
    earn (l.map (priceV v)) e = earn (m.map (priceV v)) e := by
  have c1 := (upto_told h1).1
  have c2 := (upto_told h2).1
  unfold earn Sd
  rw [dsum_congr (f := curveF (l.map (priceV v))) (g := curveF (m.map (priceV v))) _ _ (fun d q1 q2 => ?_)]
  obtain ⟨r1, r2⟩ := clampD_lt q1 q2
  rw [valAt_cost c1 q1 r2, valAt_cost c2 q1 r2, runs_cost v hl, runs_cost v hm, he d r1]

theorem cutL_length {h : histT.den} (hf : fewH h) : ((cutL h).length : Int) ≤ 9223372036854775807 := by
  have hl := endS_length (goH h).1 (goH h).2 h.2.2.1.1.2.1
  have hg := goCut_length (((orderL h).drop (0 : Int).toNat).map (chAt h)) ((h.2.2.1.1.1, 0, ()), true, h.2.2.1.2.1, [] ++ h.2.2.1.2.2.1, 0, ()) []
  have e : (((orderL h).drop (0 : Int).toNat).map (chAt h)).length = (chL h).length := by
    rw [List.length_map]
    exact orderL_length h
  rw [e] at hg
  have hg2 : (goH h).2.length ≤ 0 + (chL h).length := hg
  have hl2 : (cutL h).length ≤ (goH h).2.length + 1 := hl
  have hf1 := hf.1
  omega

/-- A policy with one more change is of a size that is looked at. -/
theorem few_add {h : histT.den} {c : changeT.den} (hf : fewH h) (hl : (chL h).length ≤ 59) (hc : c.2.2.2.2.1.length ≤ 50) : fewH (addCh h c) := by
  have e : chL (addCh h c) = ([] ++ chL h) ++ [c] := rfl
  refine ⟨?_, hf.2.1, fun c' hc' => ?_⟩
  · rw [e, List.length_append, List.nil_append]
    show _ + 1 ≤ _
    omega
  · rw [e, List.nil_append, List.mem_append] at hc'
    rcases hc' with hc' | hc'
    · exact hf.2.2 c' hc'
    · cases List.mem_singleton.1 hc'
      exact Nat.le_trans hc (by decide)

theorem room_few {n m : Nat} (hnm : n + m ≤ 60) : roomC n m := by
  refine ⟨?_, Nat.le_trans (Nat.mul_le_mul hnm changeBytes) (by decide)⟩
  unfold maxLen
  omega

theorem sizes {b : Bool} {n m : Int} (h : (bif bif !b then true else decide (n > 59) then true else decide (m > 50)) = false) : b = true ∧ n ≤ 59 ∧ m ≤ 50 := by
  cases b with
  | false => cases h
  | true =>
    have h' : (bif decide (n > 59) then true else decide (m > 50)) = false := h
    by_cases hn : n > 59
    · rw [decide_eq_true hn] at h'
      cases h'
    · rw [decide_eq_false hn] at h'
      have hm : ¬ m > 50 := of_decide_eq_false h'
      exact ⟨rfl, by omega, by omega⟩

theorem bif_two {a b : Int} : (bif a != 0 then true else b != 0) = false ↔ a = 0 ∧ b = 0 := by
  by_cases h : a = 0
  · subst h
    simp
  · simp [h]

theorem po_plain (h : histT.den) (t : tarT.den) (c : changeT.den) : (fr_Po (h, t, c, ())).ok ∧ (fr_Po (h, t, c, ())).get = (true, ()) := by
  cases hcond : (bif bif !(fewB h t) then true else decide ((List.length (α := changeT.den) h.2.2.2.1 : Int) > 59) then true else decide ((List.length (α := coverT.den) c.2.2.2.2.1 : Int) > 50)) with
  | true => exact Fr.br_t hcond ⟨trivial, rfl⟩
  | false =>
    obtain ⟨hf, hl, hcv⟩ := sizes hcond
    obtain ⟨f1, f2⟩ := fewB_fewH hf
    have hl1 : (chL h).length ≤ 59 := by
      have : (chL h).length = h.2.2.2.1.length := rfl
      omega
    have hcv1 : c.2.2.2.2.1.length ≤ 50 := by omega
    have fx := few_add f1 hl1 hcv1
    refine Fr.br_f hcond (Fr.need_ f1 (Fr.need_ f2 ?_))
    cases hc2 : (bif (ofF h t).2 != 0 then true else (UptoF (ofF h t).1 292195).2 != 0) with
    | true => exact Fr.br_t hc2 ⟨trivial, rfl⟩
    | false =>
      obtain ⟨he, ht⟩ := bif_two.1 hc2
      refine Fr.br_f hc2 ?_
      obtain ⟨g1, g2, g3, g4⟩ := ofF_good he
      have ho := histOk g1
      have hr1 := cutL_runs g1
      rw [g4] at ht
      obtain ⟨ea, eb, em⟩ := earn_runs (verH h t).1 hr1 ho.a1 ho.ab ho.b1 ht
      have hall : ∀ d, UptoF (ofF h t).1 d = (earn ((cutL h).map (priceV (verH h t).1)) d, 0) := fun d => by
        rw [g4]
        exact (upto_told ht).2.2.2 d
      refine Fr.br_f ?_ (Fr.need_ ⟨by rw [show (cOf.f (h, t, ())).1 = (ofF h t).1 from rfl, g4]; exact ht, Int.le_refl _, Int.natCast_nonneg _, ?_, rfl, ?_⟩ (Fr.need_ (room_few ?_) (Fr.need_ (room_few ?_) (Fr.need_ fx (Fr.need_ f2 ?_)))))
      · show (bif bif bif (UptoF (ofF h t).1 h.2.2.1.1.1).2 != 0 then true else (UptoF (ofF h t).1 h.2.2.1.1.2.1).2 != 0 then true else (UptoF (ofF h t).1 h.2.2.1.1.1).1 != 0 then true else (UptoF (ofF h t).1 h.2.2.1.1.2.1).1 != (UptoF (ofF h t).1 292195).1) = false
        rw [hall, hall, hall, ea, eb]
        simp
      · show ((ofF h t).1.length : Int) ≤ _
        rw [g4, List.length_map]
        exact cutL_length f1
      · show ∀ s ∈ (ofF h t).1, rightS s.1 = true ∧ (s.2.1 = false → earn (ofF h t).1 s.1.2.1 = earn (ofF h t).1 s.1.1)
        rw [g4]
        exact em
      · show 0 + (chL h).length ≤ 60
        omega
      · show (([] : List changeT.den) ++ chL h).length + 1 ≤ 60
        rw [List.nil_append]
        omega
      · show (fr_Po2 (ofF h t).1 ((ofF (addCh h c) t).1, (ofF (addCh h c) t).2, ()) c.2.1).ok ∧ (fr_Po2 (ofF h t).1 ((ofF (addCh h c) t).1, (ofF (addCh h c) t).2, ()) c.2.1).get = (true, ())
        cases hc3 : (bif (ofF (addCh h c) t).2 != 0 then true else (UptoF (ofF (addCh h c) t).1 292195).2 != 0) with
        | true => 
          refine Fr.br_t ?_ ⟨trivial, rfl⟩
          show (bif bif (0 : Int) != 0 then true else (ofF (addCh h c) t).2 != 0 then true else (UptoF (ofF (addCh h c) t).1 292195).2 != 0) = true
          exact hc3
        | false =>
          refine Fr.br_f ?_ ⟨trivial, Prod.ext ?_ rfl⟩
          · show (bif bif (0 : Int) != 0 then true else (ofF (addCh h c) t).2 != 0 then true else (UptoF (ofF (addCh h c) t).1 292195).2 != 0) = false
            exact hc3
          · obtain ⟨hx, hx2⟩ := bif_two.1 hc3
            obtain ⟨x1, x2, x3, x4⟩ := ofF_good hx
            have x4' : (ofF (addCh h c) t).1 = (cutL (addCh h c)).map (priceV (verH h t).1) := x4
            have hr2 : Runs (stOf (addCh h c)) h.2.2.1.1.2.1 h.2.2.1.1.1 (cutL (addCh h c)) := cutL_runs x1
            rw [x4'] at hx2
            have hall2 : ∀ d, UptoF (ofF (addCh h c) t).1 d = (earn ((cutL (addCh h c)).map (priceV (verH h t).1)) d, 0) := fun d => by
              rw [x4']
              exact (upto_told hx2).2.2.2 d
            show (bif bif bif true then (UptoF (ofF h t).1 c.2.1).2 == 0 else false then (UptoF (ofF (addCh h c) t).1 c.2.1).2 == 0 else false then (UptoF (ofF h t).1 c.2.1).1 == (UptoF (ofF (addCh h c) t).1 c.2.1).1 else false) = true
            rw [hall, hall2, earn_same (verH h t).1 hr1 hr2 (fun d hd => stOf_congr rfl (fun k hk => filter_addCh h c (Int.lt_of_le_of_lt hk hd))) ht hx2]
            simp

theorem lawPol_ok : SoundCt Try.prog 13 (cLaw [.d histT, .d tarT, .d changeT]) :=
  convF po_run _ _ (fun w F x vs hr _ => by
    obtain ⟨h, t, c, _⟩ := x
    exact po_plain h t c)

end Go.Proofs.Ytbplccbjgfappaa
