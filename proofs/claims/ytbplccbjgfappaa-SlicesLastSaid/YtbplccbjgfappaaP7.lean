/-
  Parts of the proof, one behind the other: I32, J1, J2, I33, J3, I42, I43, I44, I45, J6, J7.
-/
import Derived.Test.YtbplccbjgfappaaMd
/-
  The slices of a history that may be are the runs of what holds.
-/
namespace Go.Proofs.Ytbplccbjgfappaa
open Go Go.Ab Go.RowKit Go.Proofs

theorem orderL_sorted (h : histT.den) : (orderL h).Pairwise fun x y => dayOf h x ≤ dayOf h y :=
  (sortB_sort (key := dayOf h) (lt := ltDay h) (fun _ _ _ _ => rfl)).1

theorem chsO_sorted (h : histT.den) : (chsO h).Pairwise fun x y => x.2.1 ≤ y.2.1 := by
  unfold chsO
  rw [List.pairwise_map]
  exact orderL_sorted h

theorem chAt_mem {h : histT.den} {i : Int} (hi : 0 ≤ i ∧ i < ((chL h).length : Int)) : chAt h i ∈ chL h := by
  unfold chAt
  exact getD_mem (by omega)

theorem chsO_mem {h : histT.den} {c : changeT.den} (hc : c ∈ chsO h) : c ∈ chL h := by
  obtain ⟨i, hi, rfl⟩ := List.mem_map.1 hc
  exact chAt_mem (orderL_mem hi)

/-- What a history that may be says of its span, and of its changes. -/
structure HistOk (h : histT.den) : Prop where
  terms : termsB h.2.2.1 = true
  a1 : 1 ≤ h.2.2.1.1.1
  ab : h.2.2.1.1.1 < h.2.2.1.1.2.1
  b1 : h.2.2.1.1.2.1 ≤ 292195
  wide : h.2.2.1.1.2.1 - h.2.2.1.1.1 ≤ 1100
  chs : ∀ c ∈ chL h, changeB c = true ∧ h.2.2.1.1.1 ≤ c.2.1 ∧ c.2.1 < h.2.2.1.1.2.1

theorem histB_iff {h : histT.den} : histB h = true ↔ termsB h.2.2.1 = true ∧ h.2.2.2.1.length ≤ 2000 ∧ ∀ c ∈ chL h, changeB c = true ∧ inB h.2.2.1.1.1 h.2.2.1.1.2.1 c.2.1 = true := by
  unfold histB
  simp only [Bool.and_eq_true, decide_eq_true_eq, List.all_eq_true, and_assoc]

theorem terms_span {t : termsT.den} (h : termsB t = true) : 1 ≤ t.1.1 ∧ t.1.1 < t.1.2.1 ∧ t.1.2.1 ≤ 292195 ∧ t.1.2.1 - t.1.1 ≤ 1100 := by
  obtain ⟨⟨a, b, _⟩, r, cs, _⟩ := t
  unfold termsB at h
  rw [Bool.and_eq_true, Bool.and_eq_true] at h
  obtain ⟨h1, h2, _⟩ := h
  obtain ⟨p1, p2, p3⟩ := fullS_iff.1 h1
  exact ⟨p1, p2, p3, of_decide_eq_true h2⟩

theorem histOk {h : histT.den} (hh : histB h = true) : HistOk h := by
  obtain ⟨h1, _, h3⟩ := histB_iff.1 hh
  obtain ⟨p1, p2, p3, p4⟩ := terms_span h1
  refine ⟨h1, p1, p2, p3, p4, fun c hc => ?_⟩
  obtain ⟨q1, q2⟩ := h3 c hc
  have q3 := of_decide_eq_true q2
  exact ⟨q1, q3.2.2.1, q3.2.2.2⟩

theorem cutL_runs {h : histT.den} (hh : histB h = true) : Runs (stOf h) h.2.2.1.1.2.1 h.2.2.1.1.1 (cutL h) := by
  have ho := histOk hh
  exact goCut_runs (k0 := (true, h.2.2.1.2.1, h.2.2.1.2.2.1)) (a := h.2.2.1.1.1) (b := h.2.2.1.1.2.1) (fun c hc => Int.le_of_lt (ho.chs c (chsO_mem hc)).2.2) (chsO h) [] rfl (chsO_sorted h) (nowS h) [] (fun c hc => (by cases hc)) (fun c hc => (ho.chs c (chsO_mem hc)).2.1)
    (Int.le_of_lt ho.ab) rfl rfl rfl

/-! ### A day's slice, of runs -/

theorem atS_map {v : verT.den} (d : Int) : (l : List sliceT.den) → (atS (l.map (priceV v)) d).2 = (atS l d).2 ∧ ((atS l d).2 = true → (atS (l.map (priceV v)) d).1 = priceV v (atS l d).1)
  | [] => ⟨rfl, fun h => (by cases h)⟩
  | s :: l => by
    have hs : (priceV v s).1 = s.1 := by
      unfold priceV
      split <;> rfl
    simp only [List.map_cons, atS]
    rw [hs]
    split
    · exact ⟨rfl, fun _ => rfl⟩
    · exact atS_map d l

/-- Each day of the span is in a slice: what holds there is what holds on that day. -/
theorem Runs.at_day {st : Int → Core} {b : Int} (hb : b ≤ 292195) : {a : Int} → {l : List sliceT.den} → 1 ≤ a → Runs st b a l → (d : Int) → ((atS l d).2 = decide (a ≤ d ∧ d < b)) ∧ ((atS l d).2 = true → coreS (atS l d).1 = st d ∧ (atS l d).1 ∈ l ∧ (atS l d).1.1.1 ≤ d ∧ d < (atS l d).1.1.2.1)
  | a, [], _, h, d => by
    have h0 : a = b := h
    refine ⟨?_, fun h => (by cases h)⟩
    show false = _
    symm
    rw [decide_eq_false_iff_not]
    rintro ⟨h1, h2⟩
    rw [h0] at h1
    exact absurd (Int.lt_of_lt_of_le h2 h1) (Int.lt_irrefl _)
  | a, s :: l, ha, h, d => by
    have hlt : a < s.1.2.1 := h.2.1
    have hle : s.1.2.1 ≤ b := Runs.le h.2.2.2.2.2
    have h1 : s.1.1 = a := h.1
    have ih := Runs.at_day hb (a := s.1.2.1) (l := l) (by omega) h.2.2.2.2.2 d
    have hin : inB s.1.1 s.1.2.1 d = decide (a ≤ d ∧ d < s.1.2.1) := by
      unfold inB
      rw [h1]
      rw [Bool.eq_iff_iff, decide_eq_true_eq, decide_eq_true_eq]
      constructor
      · rintro ⟨_, _, q1, q2⟩
        exact ⟨q1, q2⟩
      · rintro ⟨q1, q2⟩
        exact ⟨ha, Int.le_trans hle hb, q1, q2⟩
    unfold atS
    by_cases hd : a ≤ d ∧ d < s.1.2.1
    · rw [hin, if_pos (decide_eq_true hd)]
      refine ⟨?_, fun _ => ⟨h.2.2.2.1 d hd.1 hd.2, by simp, ?_, hd.2⟩⟩
      · symm
        rw [decide_eq_true_eq]
        exact ⟨hd.1, Int.lt_of_lt_of_le hd.2 hle⟩
      · rw [h1]; exact hd.1
    · rw [hin, if_neg (by rw [decide_eq_true_eq]; exact hd)]
      refine ⟨?_, fun hx => ?_⟩
      · rw [ih.1, Bool.eq_iff_iff, decide_eq_true_eq, decide_eq_true_eq]
        constructor
        · rintro ⟨q1, q2⟩
          exact ⟨Int.le_trans (Int.le_of_lt hlt) q1, q2⟩
        · rintro ⟨q1, q2⟩
          refine ⟨Int.not_lt.1 fun q3 => hd ⟨q1, q3⟩, q2⟩
      · obtain ⟨q1, q2, q3⟩ := ih.2 hx
        exact ⟨q1, by simp [q2], q3⟩

end Go.Proofs.Ytbplccbjgfappaa

/-
  SlicesAt: the law's contract.
-/
namespace Go.Proofs.Ytbplccbjgfappaa
open Go Go.Ab Go.RowKit Go.Proofs

noncomputable def CLA : Cx := cx [(15, cYes), (25, cSliceEq), (21, cSliceEq), (20, cAt), (26, cAt)] []
theorem CLA_ok : CxOK Try.prog CLA := cx_ok mixed ⟨awake_ok, slices_Same_ok, r12_Same_ok, slices_At_ok, r12_At_ok, trivial⟩ trivial

abbrev pt_lAt : Pt := ⟨86, 0, ⟨[(8, .d i64), (0, .d slsT), (1, .d i64), (7, .d .bool)], [.x 5 46 sliceT, .r 5 5 0]⟩, ⟨[(0, .d slsT), (1, .d i64), (7, .d .bool)], [.x 5 46 sliceT, .r 5 5 0]⟩, ⟨[(6, .d .bool)], []⟩⟩
def fr_lAt (x : pt_lAt.M.X) : Fr pt_lAt.Out :=
  let i : Int := x.1.1; let l : List sliceT.den := x.1.2.1; let d : Int := x.1.2.2.1; let b : Bool := x.1.2.2.2.1; let X : sliceT.den := x.2.1
  let E : sliceT.den := l.getD i.toNat sliceT.dflt
  Fr.br (decide (i < (l.length : Int)))
    (Fr.need (0 ≤ i ∧ i < (l.length : Int))
      (Fr.br (decide ((E.2.2.2.1.length : Int) > 50)) (Fr.val (Rd.back ((b, ()), ())))
        (Fr.need (0 ≤ i ∧ i < (l.length : Int)) (Fr.need (0 ≤ i ∧ i < (l.length : Int))
          (Fr.need ((!(cSliceEq.f (E, X, ())).1 == (cSliceEq.f (E, X, ())).1) = false → 0 ≤ i ∧ i < (l.length : Int)) (Fr.need ((!(cSliceEq.f (E, X, ())).1 == (cSliceEq.f (E, X, ())).1) = false → 0 ≤ i ∧ i < (l.length : Int))
            (Fr.br (bif !(cSliceEq.f (E, X, ())).1 == (cSliceEq.f (E, X, ())).1 then true else !(cSliceEq.f (E, E, ())).1) (Fr.val (Rd.back ((false, ()), ())))
              (Fr.val (Rd.next ((IntKind.i64.wrap (i + 1), l, d, b, ()), (X, ()))))))))))
      ) (Fr.val (Rd.out ((l, d, b, ()), (X, ()))))
theorem sem_lAt : Does Try.prog (loopF Try.f7 0) pt_lAt.M pt_lAt fr_lAt :=
  Does.of_run CLA_ok (bs := 0) (Λ := lam0) rfl rfl rfl (fun E => lam0_ok _ 0) (fun x => by kernel_rfl)

theorem sliceEq_refl (s : sliceT.den) : sliceEq s s = true := by
  have h := holdsB_iff.2 (rfl : coreS s = coreS s)
  simp [sliceEq, h]

def InLAt (l : List sliceT.den) (i : Int) : Prop := 0 ≤ i ∧ i ≤ l.length ∧ (l.length : Int) ≤ 9223372036854775807
def bigL (l : List sliceT.den) : Bool := l.any fun s => decide (s.2.2.2.1.length > 50)
def FLAt (x : pt_lAt.M.X) : Fr pt_lAt.Out :=
  let i : Int := x.1.1; let l : List sliceT.den := x.1.2.1; let d : Int := x.1.2.2.1; let b : Bool := x.1.2.2.2.1; let X : sliceT.den := x.2.1
  Fr.need (InLAt l i) (Fr.br (bigL (l.drop i.toNat)) (Fr.val (Rd.back ((b, ()), ()))) (Fr.val (Rd.out ((l, d, b, ()), (X, ())))))

theorem lawLAt (i : Int) (l : List sliceT.den) (d : Int) (b : Bool) (X : sliceT.den) (hinv : InLAt l i) (Q : pt_lAt.Out → Prop)
    (hq : (Fr.br (bigL (l.drop i.toNat)) (Fr.val (Rd.back ((b, ()), ()))) (Fr.val (Rd.out ((l, d, b, ()), (X, ())))) : Fr pt_lAt.Out).satP Q) :
    (fr_lAt ((i, l, d, b, ()), (X, ()))).satP fun
      | .next x' => InLAt x'.1.2.1 x'.1.1 ∧ ((List.length (α := sliceT.den) x'.1.2.1 : Int) - x'.1.1).toNat < ((l.length : Int) - i).toNat ∧ (FLAt x').satP Q
      | .out y => Q (.out y)
      | .back z => Q (.back z)
      | .pan p => Q (.pan p) := by
  obtain ⟨h0, h1, h2⟩ := hinv
  obtain ⟨i', rfl⟩ : ∃ n : Nat, i = n := ⟨i.toNat, by omega⟩
  simp only [Int.toNat_natCast] at hq
  dsimp only [fr_lAt, Fr.satP, Ty.den, PT.den]
  simp only [Int.toNat_natCast]
  refine ⟨fun hi => ?_, fun hi => ?_⟩
  · have hlt : i' < l.length := by have : (i' : Int) < (l.length : Int) := of_decide_eq_true hi; omega
    have w : IntKind.i64.wrap ((i' : Int) + 1) = (i' + 1 : Nat) := succ_nat (by omega)
    have hg : l.getD i' sliceT.dflt = l[i'] := by rw [List.getD_eq_getElem?_getD, List.getElem?_eq_getElem hlt]; rfl
    have hd : l.drop i' = l.getD i' sliceT.dflt :: l.drop (i' + 1) := by rw [hg]; exact List.drop_eq_getElem_cons hlt
    have hb : 0 ≤ (i' : Int) ∧ (i' : Int) < (l.length : Int) := ⟨by omega, by omega⟩
    have hμ : ((l.length : Int) - ((i' + 1 : Nat) : Int)).toNat < ((l.length : Int) - (i' : Int)).toNat := by omega
    rw [w]
    rw [hd] at hq
    have hbig : bigL ((l.getD i' sliceT.dflt) :: l.drop (i' + 1)) = (decide ((l.getD i' sliceT.dflt).2.2.2.1.length > 50) || bigL (l.drop (i' + 1))) := rfl
    rw [hbig] at hq
    refine ⟨hb, fun hc => ?_, fun hc => ⟨hb, hb, fun _ => hb, fun _ => hb, fun he => ?_, fun he => ?_⟩⟩
    · have hc' : ((l.getD i' sliceT.dflt).2.2.2.1.length : Int) > 50 := of_decide_eq_true hc
      have : decide ((l.getD i' sliceT.dflt).2.2.2.1.length > 50) = true := decide_eq_true (by omega)
      rw [this] at hq
      exact hq.1 rfl
    · exfalso
      have h3 : (cSliceEq.f ((l.getD i' sliceT.dflt), (l.getD i' sliceT.dflt), ())).1 = true := sliceEq_refl _
      rw [h3] at he
      cases hx : (cSliceEq.f ((l.getD i' sliceT.dflt), X, ())).1 <;> rw [hx] at he <;> cases he
    · have hc' : ¬ ((l.getD i' sliceT.dflt).2.2.2.1.length : Int) > 50 := of_decide_eq_false hc
      have : decide ((l.getD i' sliceT.dflt).2.2.2.1.length > 50) = false := decide_eq_false (by omega)
      rw [this, Bool.false_or] at hq
      have hI : InLAt l ((i' + 1 : Nat) : Int) := ⟨by omega, by omega, h2⟩
      exact ⟨hI, hμ, hI, hq⟩
  · have hge : ¬ i' < l.length := by have : ¬ (i' : Int) < (l.length : Int) := of_decide_eq_false hi; omega
    rw [List.drop_eq_nil_of_le (by omega)] at hq
    exact hq.2 rfl

theorem loopLAt : Does Try.prog (.loop (loopF Try.f7 0)) pt_lAt.M pt_lAt FLAt := by
  refine Does.loop (n := 86) (id := 0) sem_lAt (inv := fun x => InLAt x.1.2.1 x.1.1) (μ := fun x => ((List.length (α := sliceT.den) x.1.2.1 : Int) - x.1.1).toNat) ?_ (fun x Q h => h.1)
  rintro ⟨⟨i, l, d, b, _⟩, X, _⟩ hinv Q hq
  exact lawLAt i l d b X hinv Q hq.2

def fr_SAt (x : denP [.d slsT, .d i64, .d sliceT]) : Fr (denL [.bool]) :=
  Fr.br (bif decide ((x.1.length : Int) > 60) then true else decide ((x.2.2.1.2.2.2.1.length : Int) > 50)) (Fr.val (true, ()))
    (Fr.need (InLAt x.1 0) (Fr.br (bigL (x.1.drop (0 : Int).toNat)) (Fr.val (true, ()))
      (Fr.val (bif bif true then ((cAt.f (x.1, x.2.1, ())).2.1 == (cAt.f (x.1, x.2.1, ())).2.1) else false then (cSliceEq.f ((cAt.f (x.1, x.2.1, ())).1, (cAt.f (x.1, x.2.1, ())).1, ())).1 else false, ()))))

/-- A law that is kept. -/
def cLaw (ps : List PT) : Ct := ⟨ps, [.bool], fun _ => (true, ()), fun _ => []⟩
theorem lawAt_ok : SoundCt Try.prog 7 (cLaw [.d slsT, .d i64, .d sliceT]) :=
  convF (fn_sound CLA_ok (Λ := fun _ => pt_lAt.han CLA.Γ pt_lAt.M FLAt) (fn := Try.f7) (fr := fr_SAt) (ps := [.d slsT, .d i64, .d sliceT]) (rs := [.bool]) ([], 0, sliceT.dflt, ()) (by kernel_rfl)
    (fun c E hc => lam1f hc (by kernel_rfl) (b := loopF Try.f7 0) (by kernel_rfl) (Does.han CLA_ok rfl loopLAt)) (fun x => by kernel_rfl)) _ _ (fun w F x vs hr _ => by
    obtain ⟨l, d, X, _⟩ := x
    obtain ⟨v1, vs1, rfl, h1, _⟩ := hr
    have hlen : (l.length : Int) ≤ 9223372036854775807 := wf_len h1
    show (fr_SAt (l, d, X, ())).ok ∧ (fr_SAt (l, d, X, ())).get = (true, ())
    unfold fr_SAt
    cases (bif decide ((l.length : Int) > 60) then true else decide ((X.2.2.2.1.length : Int) > 50)) with
    | true => exact Fr.br_t rfl ⟨trivial, rfl⟩
    | false =>
      refine Fr.br_f rfl (Fr.need_ ⟨Int.le_refl _, Int.natCast_nonneg _, hlen⟩ ?_)
      cases bigL (l.drop (0 : Int).toNat) with
      | true => exact Fr.br_t rfl ⟨trivial, rfl⟩
      | false =>
        refine Fr.br_f rfl ⟨trivial, Prod.ext ?_ rfl⟩
        show (bif ((cAt.f (l, d, ())).2.1 == (cAt.f (l, d, ())).2.1) then (cSliceEq.f ((cAt.f (l, d, ())).1, (cAt.f (l, d, ())).1, ())).1 else false) = true
        have h3 : (cSliceEq.f ((cAt.f (l, d, ())).1, (cAt.f (l, d, ())).1, ())).1 = true := sliceEq_refl _
        rw [h3]
        simp)

end Go.Proofs.Ytbplccbjgfappaa

/-
  SlicesWhole: the law's contract.
-/
namespace Go.Proofs.Ytbplccbjgfappaa
open Go Go.Ab Go.RowKit Go.Proofs

noncomputable def CLW : Cx := cx [(15, cYes), (25, cSliceEq), (20, cAt), (17, cOf), (16, cFew), (23, cIn)] []
theorem CLW_ok : CxOK Try.prog CLW := cx_ok mixed ⟨awake_ok, slices_Same_ok, slices_At_ok, of_ok, few_ok, in3_ok, trivial⟩ trivial

abbrev pt_lWh : Pt := ⟨173, 0, ⟨[(12, .d i64), (9, .d slsT), (2, .d (.int .u32)), (7, .d .bool), (11, .d i64)], [.x 3 31 histT, .r 3 3 0]⟩, ⟨[(2, .d (.int .u32)), (7, .d .bool), (9, .d slsT), (11, .d i64)], [.x 3 31 histT, .r 3 3 0]⟩, ⟨[(6, .d .bool)], []⟩⟩
def setSp (p : sliceT.den) (e : sliceT.den) : sliceT.den := (e.1, p.2.1, p.2.2.1, p.2.2.2.1, e.2.2.2.2.1, ())
def badW (e : sliceT.den) (a : Int) : Bool := bif e.1.1 != a then true else decide (e.1.2.1 ≤ a)
def badW2 (e : sliceT.den) (a : Int) : Bool := bif badW e a then true else bif !e.2.1 then e.2.2.2.2.1 != 0 else false
def fr_lWh (x : pt_lWh.M.X) : Fr pt_lWh.Out :=
  let i : Int := x.1.1; let l : List sliceT.den := x.1.2.1; let d : Int := x.1.2.2.1; let b : Bool := x.1.2.2.2.1; let a : Int := x.1.2.2.2.2.1; let h : histT.den := x.2.1
  let E : sliceT.den := l.getD i.toNat sliceT.dflt; let P : sliceT.den := l.getD (IntKind.i64.wrap (i - 1)).toNat sliceT.dflt
  Fr.br (decide (i < (l.length : Int)))
    (Fr.need (0 ≤ i ∧ i < (l.length : Int))
      (Fr.need ((E.1.1 != a) = false → 0 ≤ i ∧ i < (l.length : Int))
        (Fr.need (badW E a = false → 0 ≤ i ∧ i < (l.length : Int))
          (Fr.need ((!E.2.1) = true → badW E a = false → 0 ≤ i ∧ i < (l.length : Int))
            (Fr.need (badW2 E a = false → 0 ≤ i ∧ i < (l.length : Int))
              (Fr.br (bif badW2 E a then true else decide (E.2.2.2.2.1 < 0)) (Fr.val (Rd.back ((false, ()), ())))
                (Fr.br (decide (i > 0))
                  (Fr.need (0 ≤ IntKind.i64.wrap (i - 1) ∧ IntKind.i64.wrap (i - 1) < (l.length : Int))
                    (Fr.need (0 ≤ i ∧ i < (l.length : Int)) (Fr.need (0 ≤ i ∧ i < (l.length : Int)) (Fr.need (0 ≤ i ∧ i < (l.length : Int))
                      (Fr.br (cSliceEq.f (setSp P E, E, ())).1 (Fr.val (Rd.back ((false, ()), ())))
                        (Fr.need (0 ≤ i ∧ i < (l.length : Int)) (Fr.val (Rd.next ((IntKind.i64.wrap (i + 1), l, d, b, E.1.2.1, ()), (h, ()))))))))))
                  (Fr.need (0 ≤ i ∧ i < (l.length : Int)) (Fr.val (Rd.next ((IntKind.i64.wrap (i + 1), l, d, b, E.1.2.1, ()), (h, ())))))))))))
      ) (Fr.val (Rd.out ((d, b, l, a, ()), (h, ()))))
theorem sem_lWh : Does Try.prog (loopF Try.f8 0) pt_lWh.M pt_lWh fr_lWh :=
  Does.of_run CLW_ok (bs := 0) (Λ := lam0) rfl rfl rfl (fun E => lam0_ok _ 0) (fun x => by kernel_rfl)

/-- Slices on end, each as it should be. -/
def wholeP : Int → Option sliceT.den → List sliceT.den → Prop
  | _, _, [] => True
  | a, p, s :: l => s.1.1 = a ∧ a < s.1.2.1 ∧ (s.2.1 = false → s.2.2.2.2.1 = (0 : Int)) ∧ (0 : Int) ≤ s.2.2.2.2.1 ∧ (∀ q, p = some q → coreS q ≠ coreS s) ∧ wholeP s.1.2.1 (some s) l
def endAt : Int → List sliceT.den → Int
  | a, [] => a
  | _, s :: l => endAt s.1.2.1 l
def prevO (i : Int) (l : List sliceT.den) : Option sliceT.den := if i > 0 then some (l.getD (i - 1).toNat sliceT.dflt) else none

structure InvW (i : Int) (l : List sliceT.den) (a : Int) : Prop where
  i0 : 0 ≤ i
  il : i ≤ l.length
  big : (l.length : Int) ≤ 9223372036854775807
  whole : wholeP a (prevO i l) (l.drop i.toNat)

def FLW (x : pt_lWh.M.X) : Fr pt_lWh.Out :=
  let i : Int := x.1.1; let l : List sliceT.den := x.1.2.1; let d : Int := x.1.2.2.1; let b : Bool := x.1.2.2.2.1; let a : Int := x.1.2.2.2.2.1; let h : histT.den := x.2.1
  Fr.need (InvW i l a) (Fr.val (Rd.out ((d, b, l, endAt a (l.drop i.toNat), ()), (h, ()))))

theorem lawLW (i : Int) (l : List sliceT.den) (d : Int) (b : Bool) (a : Int) (h : histT.den) (hinv : InvW i l a) (Q : pt_lWh.Out → Prop) (hq : Q (Rd.out ((d, b, l, endAt a (l.drop i.toNat), ()), (h, ())))) :
    (fr_lWh ((i, l, d, b, a, ()), (h, ()))).satP fun
      | .next x' => InvW x'.1.1 x'.1.2.1 x'.1.2.2.2.2.1 ∧ ((List.length (α := sliceT.den) x'.1.2.1 : Int) - x'.1.1).toNat < ((l.length : Int) - i).toNat ∧ (FLW x').satP Q
      | .out y => Q (.out y)
      | .back z => Q (.back z)
      | .pan p => Q (.pan p) := by
  obtain ⟨h0, h1, h2, h3⟩ := hinv
  obtain ⟨i', rfl⟩ : ∃ n : Nat, i = n := ⟨i.toNat, by omega⟩
  simp only [Int.toNat_natCast] at hq h3
  dsimp only [fr_lWh, Fr.satP, Ty.den, PT.den]
  simp only [Int.toNat_natCast]
  refine ⟨fun hi => ?_, fun hi => ?_⟩
  · have hlt : i' < l.length := by have : (i' : Int) < (l.length : Int) := of_decide_eq_true hi; omega
    have w : IntKind.i64.wrap ((i' : Int) + 1) = (i' + 1 : Nat) := succ_nat (by omega)
    have hg : l.getD i' sliceT.dflt = l[i'] := by rw [List.getD_eq_getElem?_getD, List.getElem?_eq_getElem hlt]; rfl
    have hd : l.drop i' = l.getD i' sliceT.dflt :: l.drop (i' + 1) := by rw [hg]; exact List.drop_eq_getElem_cons hlt
    have hb : 0 ≤ (i' : Int) ∧ (i' : Int) < (l.length : Int) := ⟨by omega, by omega⟩
    have hμ : ((l.length : Int) - ((i' + 1 : Nat) : Int)).toNat < ((l.length : Int) - (i' : Int)).toNat := by omega
    rw [w]
    rw [hd] at hq h3
    obtain ⟨e1, e2, e3, e4, e5, e6⟩ := h3
    have hprev : prevO ((i' + 1 : Nat) : Int) l = some (l.getD i' sliceT.dflt) := by
      unfold prevO
      have : (((i' + 1 : Nat) : Int) - 1).toNat = i' := by omega
      rw [if_pos (by omega), this]
    have hI : InvW ((i' + 1 : Nat) : Int) l (l.getD i' sliceT.dflt).1.2.1 := ⟨by omega, by omega, h2, by rw [hprev]; exact e6⟩
    have b1 : badW (l.getD i' sliceT.dflt) a = false := by
      unfold badW
      have k1 : ((l.getD i' sliceT.dflt).1.1 != a) = false := by rw [e1]; simp
      rw [k1]
      exact decide_eq_false (Int.not_le.2 e2)
    have b2 : badW2 (l.getD i' sliceT.dflt) a = false := by
      unfold badW2
      rw [b1]
      cases hon : (l.getD i' sliceT.dflt).2.1 with
      | true => rfl
      | false =>
        show ((l.getD i' sliceT.dflt).2.2.2.2.1 != 0) = false
        rw [e3 hon]
        rfl
    refine ⟨hb, fun _ => hb, fun _ => hb, fun _ _ => hb, fun _ => hb, fun hx => ?_, fun _ => ⟨fun hp => ?_, fun hp => ⟨hb, hI, hμ, hI, hq⟩⟩⟩
    · exfalso
      rw [b2] at hx
      have : (l.getD i' sliceT.dflt).2.2.2.2.1 < (0 : Int) := of_decide_eq_true hx
      exact absurd this (Int.not_lt.2 e4)
    · have hp' : (i' : Int) > 0 := of_decide_eq_true hp
      have w2 : IntKind.i64.wrap ((i' : Int) - 1) = (i' : Int) - 1 := IntWalk.i64_in _ (by omega)
      rw [w2]
      refine ⟨⟨by omega, by omega⟩, hb, hb, hb, fun hx => ?_, fun _ => ⟨hb, hI, hμ, hI, hq⟩⟩
      exfalso
      have hx' : sliceEq (setSp (l.getD ((i' : Int) - 1).toNat sliceT.dflt) (l.getD i' sliceT.dflt)) (l.getD i' sliceT.dflt) = true := hx
      unfold sliceEq at hx'
      rw [Bool.and_eq_true] at hx'
      have hx2 := hx'.2
      rw [Bool.and_eq_true] at hx2
      have := holdsB_iff.1 hx2.2
      refine e5 (l.getD ((i' : Int) - 1).toNat sliceT.dflt) ?_ this
      unfold prevO
      rw [if_pos hp']
  · have hge : ¬ i' < l.length := by have : ¬ (i' : Int) < (l.length : Int) := of_decide_eq_false hi; omega
    rw [List.drop_eq_nil_of_le (by omega)] at hq
    exact hq

theorem loopLW : Does Try.prog (.loop (loopF Try.f8 0)) pt_lWh.M pt_lWh FLW := by
  refine Does.loop (n := 173) (id := 0) sem_lWh (inv := fun x => InvW x.1.1 x.1.2.1 x.1.2.2.2.2.1) (μ := fun x => ((List.length (α := sliceT.den) x.1.2.1 : Int) - x.1.1).toNat) ?_ (fun x Q h => h.1)
  rintro ⟨⟨i, l, d, b, a, _⟩, h, _⟩ hinv Q hq
  exact lawLW i l d b a h hinv Q hq.2

def dayW (h : histT.den) (d : Int) : Int := IntKind.i64.wrap (h.2.2.1.1.1 + IntKind.i64.wrap (d.tmod 1100))
def fr_Wh (x : denP [.d histT, .d tarT, .d (.int .u32)]) : Fr (denL [.bool]) :=
  let h : histT.den := x.1; let t : tarT.den := x.2.1; let d : Int := x.2.2.1
  let R : denL [slsT, i64] := cOf.f (h, t, ()); let A : denL [sliceT, .bool] := cAt.f (R.1, dayW h d, ())
  Fr.br (!(cFew.f (h, t, ())).1) (Fr.val (true, ()))
    (Fr.need (fewH h) (Fr.need (fewT t)
      (Fr.br (R.2.1 != 0) (Fr.val (bif true then (R.1.length : Int) == 0 else false, ()))
        (Fr.need (InvW 0 R.1 h.2.2.1.1.1) (Fr.need ((1100 : Int) ≠ 0)
          (Fr.val (bif bif bif true then endAt h.2.2.1.1.1 (R.1.drop (0 : Int).toNat) == h.2.2.1.1.2.1 else false then A.2.1 == (cIn.f (h.2.2.1.1, dayW h d, ())).1 else false then
            (bif !A.2.1 then true else bif decide (dayW h d ≥ A.1.1.1) then decide (dayW h d < A.1.1.2.1) else false) else false, ())))))))

theorem wh_run : SoundCt Try.prog 8 ⟨[.d histT, .d tarT, .d (.int .u32)], [.bool], fun xs => (fr_Wh xs).get, fun xs => [(fr_Wh xs).ok]⟩ :=
  fn_sound CLW_ok (Λ := fun _ => pt_lWh.han CLW.Γ pt_lWh.M FLW) (fn := Try.f8) (fr := fr_Wh) (ps := [.d histT, .d tarT, .d (.int .u32)]) (rs := [.bool]) (histT.dflt, tarT.dflt, 0, ()) (by kernel_rfl)
    (fun c E hc => lam1f hc (by kernel_rfl) (b := loopF Try.f8 0) (by kernel_rfl) (Does.han CLW_ok rfl loopLW)) (fun x => by kernel_rfl)

/-! ### The law, plain -/

theorem fewB_fewH {h : histT.den} {t : tarT.den} (hf : fewB h t = true) : fewH h ∧ fewT t := by
  unfold fewB at hf
  simp only [Bool.and_eq_true, decide_eq_true_eq, List.all_eq_true] at hf
  obtain ⟨⟨h1, h2, h3⟩, h4, h5⟩ := hf
  refine ⟨⟨by show h.2.2.2.1.length ≤ 500000; omega, by omega, fun c hc => ?_⟩, by omega, fun v hv => ?_⟩
  · have : c.2.2.2.2.1.length ≤ 50 := of_decide_eq_true (h4 c hc)
    omega
  · have := h5 v hv
    unfold fewV at this
    simp only [Bool.and_eq_true, decide_eq_true_eq] at this
    exact ⟨by omega, by omega, by omega⟩

theorem yrGo_pos (v : verT.den) (r : riskT.den) : (l : List coverT.den) → (q : Int) → (b : Bool) → 0 ≤ q → 0 ≤ (yrGo v r l q b).1
  | [], q, b, h => by
    unfold yrGo
    show 0 ≤ if b = true then q else 0
    split
    · exact h
    · exact Int.le_refl 0
  | c :: l, q, b, h => by
    unfold yrGo
    split
    · rename_i he
      split
      · split
        · exact yrGo_pos v r l q false h
        · exact yrGo_pos v r l _ true (Int.add_nonneg h (oneF_pos he))
      · exact yrGo_pos v r l q false h
    · exact Int.le_refl 0
theorem yearF_pos (v : verT.den) (r : riskT.den) (l : List coverT.den) : 0 ≤ (yearF v r l).1 := by
  unfold yearF
  split
  · split
    · exact yrGo_pos v r l 0 true (Int.le_refl 0)
    · exact Int.le_refl 0
  · exact Int.le_refl 0

theorem price_core (v : verT.den) (s : sliceT.den) : coreS (priceV v s) = coreS s ∧ (priceV v s).1 = s.1 := by
  unfold priceV
  split <;> exact ⟨rfl, rfl⟩

theorem whole_of {st : Int → Core} {b : Int} (v : verT.den) : {a : Int} → {l : List sliceT.den} → (p : Option sliceT.den) → (∀ q, p = some q → ∀ t ∈ l.head?, coreS q ≠ coreS t) → Runs st b a l → wholeP a p (l.map (priceV v)) ∧ endAt a (l.map (priceV v)) = b
  | a, [], _, _, h => ⟨trivial, h⟩
  | a, s :: l, p, hp, h => by
    obtain ⟨h1, h2, h3, h4, h5, h6⟩ := h
    obtain ⟨k1, k2⟩ := price_core v s
    have ih := whole_of v (some (priceV v s)) (fun q hq t ht => by
      cases hq
      rw [k1]
      exact h5 t ht) h6
    refine ⟨⟨by rw [k2]; exact h1, by rw [k2]; exact h2, fun hoff => ?_, ?_, fun q hq => ?_, ?_⟩, ?_⟩
    · have hoff' : s.2.1 = false := by
        have := congrArg Prod.fst k1
        exact this.symm.trans hoff
      have : priceV v s = s := if_neg (by rw [hoff']; decide)
      rw [this]
      exact h3
    · unfold priceV
      split
      · exact yearF_pos _ _ _
      · rw [h3]
        exact Int.le_refl 0
    · rw [k1]
      exact hp q hq s (by simp)
    · rw [k2]
      exact ih.1
    · show endAt (priceV v s).1.2.1 (l.map (priceV v)) = b
      rw [k2]
      exact ih.2

theorem ofF_bad {h : histT.den} {t : tarT.den} (he : (ofF h t).2 ≠ 0) : (ofF h t).1 = [] := by
  unfold ofF at he ⊢
  split
  · rename_i h1
    rw [if_pos h1] at he
    split
    · rename_i h2
      rw [if_pos h2] at he
      split
      · rename_i h3
        rw [if_pos h3] at he
        exact absurd rfl he
      · rfl
    · rfl
  · rfl

/-- The version of a policy's first day. -/
def verH (h : histT.den) (t : tarT.den) : verT.den × Int := verAt h.2.2.1.1.1 t.1.reverse

theorem ofF_good {h : histT.den} {t : tarT.den} (he : (ofF h t).2 = 0) : histB h = true ∧ (verH h t).2 = 0 ∧ errP (verH h t).1 (cutL h) = 0 ∧ (ofF h t).1 = (cutL h).map (priceV (verH h t).1) := by
  unfold ofF at he ⊢
  by_cases h1 : histB h = true
  · rw [if_pos h1] at he ⊢
    by_cases h2 : (verAt h.2.2.1.1.1 t.1.reverse).2 = 0
    · rw [if_pos h2] at he ⊢
      by_cases h3 : errP (verAt h.2.2.1.1.1 t.1.reverse).1 (cutL h) = 0
      · rw [if_pos h3]
        exact ⟨h1, h2, h3, rfl⟩
      · rw [if_neg h3] at he
        exact absurd he h3
    · rw [if_neg h2] at he
      exact absurd he h2
  · rw [if_neg h1] at he
    cases he

theorem dayW_plain {a b d : Int} (h1 : 1 ≤ a) (h2 : b ≤ 292195) (h3 : a < b) (hd : 0 ≤ d ∧ d ≤ 4294967295) : IntKind.i64.wrap (a + IntKind.i64.wrap (d.tmod 1100)) = a + d % 1100 := by
  rw [Int.tmod_eq_emod_of_nonneg hd.1]
  have e1 : IntKind.i64.wrap (d % 1100) = d % 1100 := IntWalk.i64_in _ (by omega)
  rw [e1]
  exact IntWalk.i64_in _ (by omega)
theorem dayW_eq {h : histT.den} {d : Int} (ho : HistOk h) (hd : 0 ≤ d ∧ d ≤ 4294967295) : dayW h d = h.2.2.1.1.1 + d % 1100 := dayW_plain ho.a1 ho.b1 ho.ab hd

theorem inB_eq {h : histT.den} (ho : HistOk h) (d : Int) : inB h.2.2.1.1.1 h.2.2.1.1.2.1 d = decide (h.2.2.1.1.1 ≤ d ∧ d < h.2.2.1.1.2.1) := by
  have h1 := ho.a1
  have h2 := ho.b1
  unfold inB
  rw [Bool.eq_iff_iff, decide_eq_true_eq, decide_eq_true_eq]
  exact ⟨fun h => ⟨h.2.2.1, h.2.2.2⟩, fun h => ⟨h1, h2, h.1, h.2⟩⟩

theorem lawWhole_ok : SoundCt Try.prog 8 (cLaw [.d histT, .d tarT, .d (.int .u32)]) :=
  convF wh_run _ _ (fun w F x vs hr _ => by
    obtain ⟨h, t, d, _⟩ := x
    obtain ⟨v1, vs1, rfl, _, v2, vs2, rfl, _, v3, vs3, rfl, h3, _⟩ := hr
    have hd : 0 ≤ d ∧ d ≤ 4294967295 := h3.2.2.2
    show (fr_Wh (h, t, d, ())).ok ∧ (fr_Wh (h, t, d, ())).get = (true, ())
    cases hf : fewB h t with
    | false =>
      refine Fr.br_t ?_ ⟨trivial, rfl⟩
      show (!(fewB h t)) = true
      rw [hf]; rfl
    | true =>
      obtain ⟨f1, f2⟩ := fewB_fewH hf
      refine Fr.br_f ?_ (Fr.need_ f1 (Fr.need_ f2 ?_))
      · show (!(fewB h t)) = false
        rw [hf]; rfl
      · by_cases he : (ofF h t).2 = 0
        · obtain ⟨g1, g2, g3, g4⟩ := ofF_good he
          have ho := histOk g1
          have hruns := cutL_runs g1
          obtain ⟨w1, w2⟩ := whole_of (verH h t).1 none (fun q hq => by cases hq) hruns
          have hmem := fewB_fewH hf
          have hlen : ((ofF h t).1.length : Int) ≤ 9223372036854775807 := by
            have hl := endS_length (goH h).1 (goH h).2 h.2.2.1.1.2.1
            have hg := goCut_length (((orderL h).drop (0 : Int).toNat).map (chAt h)) ((h.2.2.1.1.1, 0, ()), true, h.2.2.1.2.1, [] ++ h.2.2.1.2.2.1, 0, ()) []
            have e : (((orderL h).drop (0 : Int).toNat).map (chAt h)).length = (chL h).length := by
              rw [List.length_map]
              exact orderL_length h
            rw [e] at hg
            have hg2 : (goH h).2.length ≤ 0 + (chL h).length := hg
            have hl2 : (cutL h).length ≤ (goH h).2.length + 1 := hl
            have hf1 := f1.1
            rw [g4, List.length_map]
            omega
          refine Fr.br_f ?_ (Fr.need_ ⟨Int.le_refl _, Int.natCast_nonneg _, hlen, ?_⟩ (Fr.need_ (by decide) ⟨trivial, Prod.ext ?_ rfl⟩))
          · show ((ofF h t).2 != 0) = false
            rw [he]; rfl
          · show wholeP h.2.2.1.1.1 none (ofF h t).1
            rw [g4]
            exact w1
          · show (bif bif (endAt h.2.2.1.1.1 (ofF h t).1 == h.2.2.1.1.2.1) then (atS (ofF h t).1 (dayW h d)).2 == inB h.2.2.1.1.1 h.2.2.1.1.2.1 (dayW h d) else false then
              (bif !(atS (ofF h t).1 (dayW h d)).2 then true else bif decide (dayW h d ≥ (atS (ofF h t).1 (dayW h d)).1.1.1) then decide (dayW h d < (atS (ofF h t).1 (dayW h d)).1.1.2.1) else false) else false) = true
            obtain ⟨k1, k2⟩ := atS_map (v := (verH h t).1) (dayW h d) (cutL h)
            obtain ⟨m1, m2⟩ := hruns.at_day ho.b1 ho.a1 (dayW h d)
            have ee : (endAt h.2.2.1.1.1 (ofF h t).1 == h.2.2.1.1.2.1) = true := by
              rw [g4, w2]
              simp
            rw [ee, inB_eq ho]
            rw [g4, k1, m1]
            cases hx : decide (h.2.2.1.1.1 ≤ dayW h d ∧ dayW h d < h.2.2.1.1.2.1) with
            | false => rfl
            | true =>
              rw [hx] at m1
              obtain ⟨_, _, q3, q4⟩ := m2 m1
              have hp := k2 m1
              have e1 : decide (dayW h d ≥ (atS ((cutL h).map (priceV (verH h t).1)) (dayW h d)).1.1.1) = true := by
                rw [hp, (price_core _ _).2]
                exact decide_eq_true q3
              have e2 : decide (dayW h d < (atS ((cutL h).map (priceV (verH h t).1)) (dayW h d)).1.1.2.1) = true := by
                rw [hp, (price_core _ _).2]
                exact decide_eq_true q4
              rw [e1, e2]
              rfl
        · have hnil := ofF_bad he
          refine Fr.br_t ?_ ⟨trivial, Prod.ext ?_ rfl⟩
          · show ((ofF h t).2 != 0) = true
            exact bne_iff_ne.2 he
          · show (bif true then ((ofF h t).1.length : Int) == 0 else false) = true
            rw [hnil]
            rfl)

end Go.Proofs.Ytbplccbjgfappaa

/-
  What holds on a day hangs on the changes up to that day, each day's in their order, and not on when they were booked.
-/
namespace Go.Proofs.Ytbplccbjgfappaa
open Go Go.Ab Go.RowKit Go.Proofs

/-- A change, whenever it was booked. -/
def strip (c : changeT.den) : changeT.den := (0, c.2)

theorem doesK_strip (k : Core) (c : changeT.den) : doesK k (strip c) = doesK k c := rfl

theorem holdK_strip (d : Int) : (l : List changeT.den) → (k : Core) → holdK d (l.map strip) k = holdK d l k
  | [], _ => rfl
  | c :: l, k => by
    simp only [List.map_cons, holdK]
    exact holdK_strip d l _

theorem holdK_filter (d : Int) : (l : List changeT.den) → (k : Core) → holdK d (l.filter fun c => decide (c.2.1 ≤ d)) k = holdK d l k
  | [], _ => rfl
  | c :: l, k => by
    by_cases hc : c.2.1 ≤ d
    · rw [List.filter_cons_of_pos (by simpa using hc)]
      simp only [holdK]
      exact holdK_filter d l _
    · rw [List.filter_cons_of_neg (by simpa using hc)]
      have hgt : c.2.1 > d := Int.not_le.1 hc
      simp only [holdK]
      rw [if_pos hgt]
      exact holdK_filter d l k

def dayC (c : changeT.den) : Int := c.2.1

theorem rangeI_chAt (h : histT.den) : (rangeI (chL h).length).map (chAt h) = chL h := by
  unfold rangeI chAt
  rw [List.map_map]
  apply List.ext_getElem
  · simp
  · intro i h1 h2
    simp only [List.getElem_map, List.getElem_range, Function.comp_apply, Int.toNat_natCast]
    rw [List.getD_eq_getElem?_getD, List.getElem?_eq_getElem h2]
    rfl

/-- Each day's changes stand in their order. -/
theorem chsO_same (h : histT.den) : SameK dayC (chL h) (chsO h) := fun k => by
  have hs := (sortB_sort (key := dayOf h) (lt := ltDay h) (l := rangeI (chL h).length) (fun _ _ _ _ => rfl)).2 k
  have h1 : (chsO h).filter (fun x => dayC x == k) = ((orderL h).filter (fun x => dayOf h x == k)).map (chAt h) := by
    unfold chsO
    rw [List.filter_map]
    rfl
  have h2 : (chL h).filter (fun x => dayC x == k) = ((rangeI (chL h).length).filter (fun x => dayOf h x == k)).map (chAt h) := by
    conv => lhs; rw [← rangeI_chAt h]
    rw [List.filter_map]
    rfl
  rw [h1, h2]
  exact congrArg _ hs

theorem chsO_sortK (h : histT.den) : SortK dayC (chsO h) := chsO_sorted h

theorem SortK.filter {α : Type} {key : α → Int} {l : List α} (h : SortK key l) (p : α → Bool) : SortK key (l.filter p) := List.Pairwise.sublist List.filter_sublist h

theorem sortK_strip {l : List changeT.den} (h : SortK dayC l) : SortK dayC (l.map strip) := by
  unfold SortK
  rw [List.pairwise_map]
  exact h

theorem filter_strip (l : List changeT.den) (k : Int) : (l.map strip).filter (fun x => dayC x == k) = (l.filter (fun x => dayC x == k)).map strip := by
  rw [List.filter_map]
  rfl

/-- What holds on a day: by what is told of each day up to it. -/
theorem stOf_congr {h x : histT.den} {d : Int} (h0 : ((true, h.2.2.1.2.1, h.2.2.1.2.2.1) : Core) = (true, x.2.2.1.2.1, x.2.2.1.2.2.1))
    (hk : ∀ k, k ≤ d → ((chL h).map strip).filter (fun c => dayC c == k) = ((chL x).map strip).filter (fun c => dayC c == k)) : stOf h d = stOf x d := by
  unfold stOf
  rw [h0, ← holdK_filter d (chsO h), ← holdK_filter d (chsO x), ← holdK_strip d ((chsO h).filter _), ← holdK_strip d ((chsO x).filter _)]
  congr 1
  refine SameK.eq (key := dayC) (sortK_strip ((chsO_sortK h).filter _)) (sortK_strip ((chsO_sortK x).filter _)) fun k => ?_
  have key : ∀ y : histT.den, ((((chsO y).filter fun c => decide (c.2.1 ≤ d))).map strip).filter (fun c => dayC c == k) = if k ≤ d then ((chL y).map strip).filter (fun c => dayC c == k) else [] := by
    intro y
    rw [filter_strip, List.filter_filter]
    split
    · rename_i hkd
      have : ((chsO y).filter fun a => (dayC a == k && decide (a.2.1 ≤ d))) = (chsO y).filter fun a => dayC a == k := by
        apply List.filter_congr
        intro a _
        rw [Bool.eq_iff_iff]
        simp only [Bool.and_eq_true, beq_iff_eq, decide_eq_true_eq]
        constructor
        · exact fun q => q.1
        · intro q
          refine ⟨q, ?_⟩
          have : dayC a = a.2.1 := rfl
          rw [← this, q]
          exact hkd
      rw [this, chsO_same y k, filter_strip]
    · rename_i hkd
      have : ((chsO y).filter fun a => (dayC a == k && decide (a.2.1 ≤ d))) = [] := by
        rw [List.filter_eq_nil_iff]
        intro a _
        simp only [Bool.and_eq_true, beq_iff_eq, decide_eq_true_eq]
        rintro ⟨q1, q2⟩
        have : dayC a = a.2.1 := rfl
        rw [← this, q1] at q2
        exact hkd q2
      rw [this]
      rfl
  rw [key x, key h]
  split
  · rename_i hkd
    exact (hk k hkd).symm
  · rfl

end Go.Proofs.Ytbplccbjgfappaa

/-
  SlicesAhead: the law's contract.
-/
namespace Go.Proofs.Ytbplccbjgfappaa
open Go Go.Ab Go.RowKit Go.Proofs

noncomputable def CLH : Cx := cx [(15, cYes), (21, cSliceEq), (20, cAt), (17, cOf), (16, cFew)] []
theorem CLH_ok : CxOK Try.prog CLH := cx_ok mixed ⟨awake_ok, r12_Same_ok, slices_At_ok, of_ok, few_ok, trivial⟩ trivial

/-- A policy with one more change. -/
def addCh (h : histT.den) (c : changeT.den) : histT.den := (h.1, h.2.1, h.2.2.1, ([] ++ h.2.2.2.1) ++ [c], ())
def setSpan (p : sliceT.den) (e : sliceT.den) : sliceT.den := (e.1, p.2.1, p.2.2.1, p.2.2.2.1, p.2.2.2.2.1, ())
set_option maxRecDepth 100000 in
def roomC (n m : Nat) : Prop := n + m ≤ maxLen ∧ (n + m) * Try.prog.types[43].bytes ≤ 140737488355328
set_option maxRecDepth 100000 in
theorem changeBytes : Try.prog.types[43].bytes ≤ 1000 := by decide
def fr_Ah (x : denP [.d histT, .d tarT, .d changeT, .d (.int .u32)]) : Fr (denL [.bool]) :=
  let h : histT.den := x.1; let t : tarT.den := x.2.1; let c : changeT.den := x.2.2.1; let d : Int := x.2.2.2.1
  let l : List changeT.den := h.2.2.2.1
  let R : denL [slsT, i64] := cOf.f (h, t, ()); let S : denL [slsT, i64] := cOf.f (addCh h c, t, ())
  let A : denL [sliceT, .bool] := cAt.f (R.1, dayW h d, ()); let B : denL [sliceT, .bool] := cAt.f (S.1, dayW h d, ())
  Fr.br (bif bif !(cFew.f (h, t, ())).1 then true else decide ((l.length : Int) > 59) then true else decide ((List.length (α := coverT.den) c.2.2.2.2.1 : Int) > 50)) (Fr.val (true, ()))
    (Fr.need (roomC ([] : List changeT.den).length l.length) (Fr.need (roomC (([] : List changeT.den) ++ l).length [c].length)
      (Fr.need (fewH h) (Fr.need (fewT t) (Fr.need (fewH (addCh h c)) (Fr.need (fewT t)
        (Fr.br (bif R.2.1 != 0 then true else S.2.1 != 0) (Fr.val (true, ()))
          (Fr.need ((1100 : Int) ≠ 0)
            (Fr.br (decide (dayW h d ≥ c.2.1)) (Fr.val (true, ()))
              (Fr.val (bif bif true then A.2.1 == B.2.1 else false then (cSliceEq.f (setSpan A.1 B.1, B.1, ())).1 else false, ())))))))))))

theorem ah_run : SoundCt Try.prog 5 ⟨[.d histT, .d tarT, .d changeT, .d (.int .u32)], [.bool], fun xs => (fr_Ah xs).get, fun xs => [(fr_Ah xs).ok]⟩ :=
  fn_sound CLH_ok (Λ := lam0) (fn := Try.f5) (fr := fr_Ah) (ps := [.d histT, .d tarT, .d changeT, .d (.int .u32)]) (rs := [.bool]) (histT.dflt, tarT.dflt, changeT.dflt, 0, ()) (by kernel_rfl)
    (fun c E hc => lam0_ok _ 0) (fun x => by kernel_rfl)

/-! ### The law, plain -/

theorem Runs.yearly {st : Int → Core} {b : Int} : {a : Int} → {l : List sliceT.den} → Runs st b a l → ∀ s ∈ l, s.2.2.2.2.1 = (0 : Int)
  | _, [], _, _, hs => by cases hs
  | _, t :: l, h, s, hs => by
    rcases List.mem_cons.1 hs with rfl | hs
    · exact h.2.2.1
    · exact Runs.yearly h.2.2.2.2.2 s hs

theorem price_same (v : verT.den) {s t : sliceT.den} (hc : coreS s = coreS t) (hy : s.2.2.2.2.1 = t.2.2.2.2.1) : sliceEq (setSpan (priceV v s) (priceV v t)) (priceV v t) = true := by
  obtain ⟨⟨a, b, _⟩, o, r, c, y, _⟩ := s
  obtain ⟨⟨a', b', _⟩, o', r', c', y', _⟩ := t
  have e : (o, r, c) = ((o', r', c') : Core) := hc
  have e4 : y = y' := hy
  cases e
  cases e4
  have key : setSpan (priceV v ((a, b, ()), o, r, c, y, ())) (priceV v ((a', b', ()), o, r, c, y, ())) = priceV v ((a', b', ()), o, r, c, y, ()) := by
    unfold priceV
    cases o <;> rfl
  rw [key]
  exact sliceEq_refl _

theorem filter_addCh (h : histT.den) (c : changeT.den) {k : Int} (hk : k < c.2.1) : ((chL h).map strip).filter (fun x => dayC x == k) = ((chL (addCh h c)).map strip).filter (fun x => dayC x == k) := by
  show _ = ((([] ++ h.2.2.2.1) ++ [c]).map strip).filter (fun x => dayC x == k)
  rw [List.nil_append, List.map_append, List.filter_append]
  have : ([c].map strip).filter (fun x => dayC x == k) = [] := by
    have hn : ¬ (dayC (strip c) == k) = true := by
      rw [beq_iff_eq]
      intro he
      have : c.2.1 = k := he
      rw [this] at hk
      exact absurd hk (Int.lt_irrefl _)
    exact List.filter_cons_of_neg hn
  rw [this, List.append_nil]

theorem lawAhead_ok : SoundCt Try.prog 5 (cLaw [.d histT, .d tarT, .d changeT, .d (.int .u32)]) :=
  convF ah_run _ _ (fun w F x vs hr _ => by
    obtain ⟨h, t, c, d, _⟩ := x
    obtain ⟨v1, vs1, rfl, _, v2, vs2, rfl, _, v3, vs3, rfl, _, v4, vs4, rfl, h4, _⟩ := hr
    have hd : 0 ≤ d ∧ d ≤ 4294967295 := h4.2.2.2
    show (fr_Ah (h, t, c, d, ())).ok ∧ (fr_Ah (h, t, c, d, ())).get = (true, ())
    have hcond : ∀ b : Bool, (bif bif !(fewB h t) then true else decide ((List.length (α := changeT.den) h.2.2.2.1 : Int) > 59) then true else decide ((List.length (α := coverT.den) c.2.2.2.2.1 : Int) > 50)) = b → (fr_Ah (h, t, c, d, ())).ok ∧ (fr_Ah (h, t, c, d, ())).get = (true, ()) := by
      intro b hb
      cases b with
      | true => exact Fr.br_t hb ⟨trivial, rfl⟩
      | false =>
        have hf : fewB h t = true := by
          cases hf : fewB h t with
          | true => rfl
          | false => rw [hf] at hb; cases hb
        rw [hf] at hb
        have hl : ¬ ((List.length (α := changeT.den) h.2.2.2.1 : Int) > 59) := by
          intro hx
          rw [decide_eq_true hx] at hb
          cases hb
        rw [decide_eq_false hl] at hb
        have hcv : ¬ ((List.length (α := coverT.den) c.2.2.2.2.1 : Int) > 50) := of_decide_eq_false hb
        obtain ⟨f1, f2⟩ := fewB_fewH hf
        have hl1 : (chL h).length ≤ 59 := by
          have : (chL h).length = h.2.2.2.1.length := rfl
          omega
        have fx : fewH (addCh h c) := by
          have e : chL (addCh h c) = ([] ++ chL h) ++ [c] := rfl
          refine ⟨?_, f1.2.1, fun c' hc' => ?_⟩
          · rw [e, List.length_append, List.nil_append]
            show _ + 1 ≤ _
            omega
          · rw [e, List.nil_append, List.mem_append] at hc'
            rcases hc' with hc' | hc'
            · exact f1.2.2 c' hc'
            · cases List.mem_singleton.1 hc'
              have : c.2.2.2.2.1.length ≤ 50 := by omega
              exact Nat.le_trans this (by decide)
        have room : ∀ n m : Nat, n + m ≤ 60 → roomC n m := by
          intro n m hnm
          refine ⟨?_, Nat.le_trans (Nat.mul_le_mul hnm changeBytes) (by decide)⟩
          unfold maxLen
          omega
        refine Fr.br_f ?_ (Fr.need_ (room _ _ ?_) (Fr.need_ (room _ _ ?_) (Fr.need_ f1 (Fr.need_ f2 (Fr.need_ fx (Fr.need_ f2 ?_))))))
        · show (bif bif !(fewB h t) then true else decide ((List.length (α := changeT.den) h.2.2.2.1 : Int) > 59) then true else decide ((List.length (α := coverT.den) c.2.2.2.2.1 : Int) > 50)) = false
          rw [hf, decide_eq_false hl, decide_eq_false hcv]
          rfl
        · show 0 + (chL h).length ≤ 60
          omega
        · show (([] : List changeT.den) ++ chL h).length + 1 ≤ 60
          rw [List.nil_append]
          omega
        · by_cases he : (ofF h t).2 = 0
          · by_cases hx : (ofF (addCh h c) t).2 = 0
            · refine Fr.br_f ?_ (Fr.need_ (by decide) ?_)
              · show (bif (ofF h t).2 != 0 then true else (ofF (addCh h c) t).2 != 0) = false
                rw [he, hx]
                rfl
              · by_cases hday : dayW h d ≥ c.2.1
                · exact Fr.br_t (decide_eq_true hday) ⟨trivial, rfl⟩
                · refine Fr.br_f (decide_eq_false hday) ⟨trivial, Prod.ext ?_ rfl⟩
                  have hlt : dayW h d < c.2.1 := Int.not_le.1 hday
                  obtain ⟨g1, g2, g3, g4⟩ := ofF_good he
                  obtain ⟨x1, x2, x3, x4⟩ := ofF_good hx
                  have ho := histOk g1
                  have hr1 := cutL_runs g1
                  have hr2 : Runs (stOf (addCh h c)) h.2.2.1.1.2.1 h.2.2.1.1.1 (cutL (addCh h c)) := cutL_runs x1
                  obtain ⟨k1, k2⟩ := atS_map (v := (verH h t).1) (dayW h d) (cutL h)
                  obtain ⟨l1, l2⟩ := atS_map (v := (verH h t).1) (dayW h d) (cutL (addCh h c))
                  obtain ⟨m1, m2⟩ := hr1.at_day ho.b1 ho.a1 (dayW h d)
                  obtain ⟨n1, n2⟩ := hr2.at_day ho.b1 ho.a1 (dayW h d)
                  have x4' : (ofF (addCh h c) t).1 = (cutL (addCh h c)).map (priceV (verH h t).1) := x4
                  show (bif ((atS (ofF h t).1 (dayW h d)).2 == (atS (ofF (addCh h c) t).1 (dayW h d)).2) then sliceEq (setSpan (atS (ofF h t).1 (dayW h d)).1 (atS (ofF (addCh h c) t).1 (dayW h d)).1) (atS (ofF (addCh h c) t).1 (dayW h d)).1 else false) = true
                  rw [g4, x4', k1, l1, m1, n1]
                  have hst : stOf h (dayW h d) = stOf (addCh h c) (dayW h d) := stOf_congr rfl (fun k hk => filter_addCh h c (Int.lt_of_le_of_lt hk hlt))
                  cases hin : decide (h.2.2.1.1.1 ≤ dayW h d ∧ dayW h d < h.2.2.1.1.2.1) with
                  | true =>
                    rw [hin] at m1 n1
                    obtain ⟨p1, p2, _⟩ := m2 m1
                    obtain ⟨q1, q2, _⟩ := n2 n1
                    rw [k2 m1, l2 n1]
                    show sliceEq _ _ = true
                    exact price_same _ (p1.trans (hst.trans q1.symm)) ((hr1.yearly _ p2).trans (hr2.yearly _ q2).symm)
                  | false =>
                    rw [hin] at m1 n1
                    have z1 := atS_none ((cutL h).map (priceV (verH h t).1)) (dayW h d) (k1.trans m1)
                    have z2 := atS_none ((cutL (addCh h c)).map (priceV (verH h t).1)) (dayW h d) (l1.trans n1)
                    rw [z1, z2]
                    exact sliceEq_refl _
            · refine Fr.br_t ?_ ⟨trivial, rfl⟩
              show (bif (ofF h t).2 != 0 then true else (ofF (addCh h c) t).2 != 0) = true
              rw [he]
              exact bne_iff_ne.2 hx
          · refine Fr.br_t ?_ ⟨trivial, rfl⟩
            show (bif (ofF h t).2 != 0 then true else (ofF (addCh h c) t).2 != 0) = true
            rw [show ((ofF h t).2 != 0) = true from bne_iff_ne.2 he]
            rfl
    exact hcond _ rfl)

end Go.Proofs.Ytbplccbjgfappaa

/-
  Changes of unlike days, turned round, make the same slices.
-/
namespace Go.Proofs.Ytbplccbjgfappaa
open Go Go.Ab Go.RowKit Go.Proofs

/-- The n-th change, with the booking of the n-th from behind. -/
def chB (h : histT.den) (n : Nat) : changeT.den := (((chL h).getD ((chL h).length - 1 - n) changeT.dflt).1, ((chL h).getD n changeT.dflt).2)
def anyDay (h : histT.den) (c : changeT.den) (k i : Nat) : Bool := (((chL h).take i).drop k).any fun x => x.2.1 == c.2.1
/-- The changes turned round, from the n-th down; none: two of one day. -/
def goX (h : histT.den) : Nat → List changeT.den → Option (List changeT.den)
  | 0, o => some o
  | n + 1, o => if anyDay h (chB h n) 0 n = true then none else goX h n (o ++ [chB h n])

theorem goX_some (h : histT.den) : (n : Nat) → (o r : List changeT.den) → goX h n o = some r → n ≤ (chL h).length → r = o ++ (List.range n).reverse.map (chB h) ∧ ∀ m, m < n → ∀ k, k < m → ((chL h).getD k changeT.dflt).2.1 ≠ ((chL h).getD m changeT.dflt).2.1
  | 0, o, r, hr, _ => by
    simp only [goX, Option.some.injEq] at hr
    subst hr
    exact ⟨by simp, fun m hm => absurd hm (Nat.not_lt_zero m)⟩
  | n + 1, o, r, hr, hn => by
    simp only [goX] at hr
    split at hr
    · cases hr
    · rename_i hno
      obtain ⟨h1, h2⟩ := goX_some h n _ r hr (Nat.le_of_succ_le hn)
      refine ⟨?_, fun m hm k hk => ?_⟩
      · rw [h1, List.range_succ, List.reverse_append, List.append_assoc]
        rfl
      · by_cases hmn : m < n
        · exact h2 m hmn k hk
        · have : m = n := by omega
          subst this
          intro he
          refine hno ?_
          unfold anyDay
          rw [List.drop_zero, List.any_eq_true]
          have hkl : k < (chL h).length := by omega
          refine ⟨(chL h)[k], List.mem_take_iff_getElem.2 ⟨k, by omega, rfl⟩, ?_⟩
          have e : (chL h).getD k changeT.dflt = (chL h)[k] := by rw [List.getD_eq_getElem?_getD, List.getElem?_eq_getElem hkl]; rfl
          rw [e] at he
          exact beq_iff_eq.2 he

def turned (h : histT.den) : List changeT.den := (List.range (chL h).length).reverse.map (chB h)
def turnH (h : histT.den) (o : List changeT.den) : histT.den := (h.1, h.2.1, h.2.2.1, o, ())

theorem range_getD (l : List changeT.den) : (List.range l.length).map (fun n => l.getD n changeT.dflt) = l := by
  apply List.ext_getElem
  · simp
  · intro i h1 h2
    simp only [List.getElem_map, List.getElem_range]
    rw [List.getD_eq_getElem?_getD, List.getElem?_eq_getElem h2]
    rfl

theorem turned_strip (h : histT.den) : (turned h).map strip = ((chL h).map strip).reverse := by
  unfold turned
  rw [List.map_map, List.map_reverse]
  congr 1
  conv => rhs; rw [← range_getD (chL h)]
  rw [List.map_map]
  rfl

theorem one_day {k : Int} : {l : List changeT.den} → l.Pairwise (fun x y => x.2.1 ≠ y.2.1) → (l.filter fun c => dayC c == k).length ≤ 1
  | [], _ => Nat.zero_le _
  | c :: l, h => by
    obtain ⟨h1, h2⟩ := List.pairwise_cons.1 h
    by_cases hc : (dayC c == k) = true
    · rw [List.filter_cons_of_pos (p := fun c => dayC c == k) hc]
      have : (l.filter fun c => dayC c == k) = [] := by
        rw [List.filter_eq_nil_iff]
        intro x hx hk
        have e1 : c.2.1 = k := beq_iff_eq.1 hc
        have e2 : x.2.1 = k := beq_iff_eq.1 hk
        exact h1 x hx (e1.trans e2.symm)
      rw [this]
      exact Nat.le_refl 1
    · rw [List.filter_cons_of_neg (p := fun c => dayC c == k) hc]
      exact one_day h2

theorem rev_one {α : Type} : {l : List α} → l.length ≤ 1 → l.reverse = l
  | [], _ => rfl
  | [_], _ => rfl
  | _ :: _ :: _, h => absurd h (by simp)

theorem turned_st {h : histT.den} (hd : ∀ m, m < (chL h).length → ∀ k, k < m → ((chL h).getD k changeT.dflt).2.1 ≠ ((chL h).getD m changeT.dflt).2.1) (d : Int) : stOf h d = stOf (turnH h (turned h)) d := by
  have hpw : (chL h).Pairwise fun x y => x.2.1 ≠ y.2.1 := by
    rw [List.pairwise_iff_getElem]
    intro i j hi hj hij
    have := hd j hj i hij
    rw [List.getD_eq_getElem?_getD, List.getElem?_eq_getElem hi, List.getD_eq_getElem?_getD, List.getElem?_eq_getElem hj] at this
    exact this
  refine stOf_congr rfl fun k _ => ?_
  have e : chL (turnH h (turned h)) = turned h := rfl
  rw [e, turned_strip, List.filter_reverse, filter_strip, ← List.map_reverse, rev_one (one_day hpw)]

theorem turned_all {h : histT.den} (P : Int → Prop) (R : Int × (Int × (riskT.den × (List coverT.den × (Int × Unit)))) → Prop) : (∀ c ∈ turned h, P c.1 ∧ R c.2) ↔ ∀ c ∈ chL h, P c.1 ∧ R c.2 := by
  have key : ∀ c ∈ chL h, ∃ n, n < (chL h).length ∧ (chL h).getD n changeT.dflt = c := fun c hc => by
    obtain ⟨n, hn, he⟩ := List.mem_iff_getElem.1 hc
    exact ⟨n, hn, by rw [List.getD_eq_getElem?_getD, List.getElem?_eq_getElem hn]; exact he⟩
  have mem : ∀ n, n < (chL h).length → (chL h).getD n changeT.dflt ∈ chL h := fun n hn => by
    rw [List.getD_eq_getElem?_getD, List.getElem?_eq_getElem hn]
    exact List.getElem_mem hn
  have memT : ∀ n, n < (chL h).length → chB h n ∈ turned h := fun n hn => List.mem_map.2 ⟨n, by simpa using hn, rfl⟩
  constructor
  · intro hT c hc
    obtain ⟨n, hn, rfl⟩ := key c hc
    refine ⟨?_, (hT _ (memT n hn)).2⟩
    have := (hT _ (memT ((chL h).length - 1 - n) (by omega))).1
    have e : (chL h).length - 1 - ((chL h).length - 1 - n) = n := by omega
    unfold chB at this
    rw [e] at this
    exact this
  · intro hC c hc
    obtain ⟨n, hn, rfl⟩ := List.mem_map.1 hc
    have hn' : n < (chL h).length := by simpa using hn
    exact ⟨(hC _ (mem ((chL h).length - 1 - n) (by omega))).1, (hC _ (mem n hn')).2⟩

theorem turned_length (h : histT.den) : (turned h).length = (chL h).length := by
  unfold turned
  rw [List.length_map, List.length_reverse, List.length_range]

theorem turned_hist (h : histT.den) : histB (turnH h (turned h)) = histB h := by
  rw [Bool.eq_iff_iff, histB_iff, histB_iff]
  have e1 : (turnH h (turned h)).2.2.2.1.length = h.2.2.2.1.length := turned_length h
  rw [e1]
  have := turned_all (h := h) (fun b => dayB b = true) (fun r => dayB r.1 = true ∧ kindB ((0, r) : changeT.den) = true ∧ inB h.2.2.1.1.1 h.2.2.1.1.2.1 r.1 = true)
  have conv' : ∀ l : List changeT.den, (∀ c ∈ l, changeB c = true ∧ inB h.2.2.1.1.1 h.2.2.1.1.2.1 c.2.1 = true) ↔ ∀ c ∈ l, dayB c.1 = true ∧ (dayB c.2.1 = true ∧ kindB ((0, c.2) : changeT.den) = true ∧ inB h.2.2.1.1.1 h.2.2.1.1.2.1 c.2.1 = true) := fun l => by
    refine forall_congr' fun c => forall_congr' fun _ => ?_
    have ek : kindB c = kindB ((0, c.2) : changeT.den) := rfl
    unfold changeB
    rw [Bool.and_eq_true, Bool.and_eq_true, ek, and_assoc, and_assoc]
  have c1 := conv' (turned h)
  have c2 := conv' (chL h)
  show (termsB h.2.2.1 = true ∧ h.2.2.2.1.length ≤ 2000 ∧ ∀ c ∈ turned h, changeB c = true ∧ inB h.2.2.1.1.1 h.2.2.1.1.2.1 c.2.1 = true) ↔ _
  rw [c1, this, ← c2]

theorem turned_of {h : histT.den} (t : tarT.den) (hd : ∀ m, m < (chL h).length → ∀ k, k < m → ((chL h).getD k changeT.dflt).2.1 ≠ ((chL h).getD m changeT.dflt).2.1) : ofF (turnH h (turned h)) t = ofF h t := by
  unfold ofF
  rw [turned_hist]
  by_cases hh : histB h = true
  · have hc : cutL (turnH h (turned h)) = cutL h := by
      have h2 : histB (turnH h (turned h)) = true := (turned_hist h).trans hh
      have r1 : Runs (stOf (turnH h (turned h))) h.2.2.1.1.2.1 h.2.2.1.1.1 (cutL (turnH h (turned h))) := cutL_runs h2
      exact Runs.uniq (r1.congr (fun d _ _ => (turned_st hd d).symm)) (cutL_runs hh)
    rw [hc]
    rfl
  · rw [if_neg hh, if_neg hh]

theorem turned_few {h : histT.den} (hf : fewH h) : fewH (turnH h (turned h)) := by
  refine ⟨?_, hf.2.1, ?_⟩
  · show (turned h).length ≤ 500000
    rw [turned_length]
    exact hf.1
  · have := (turned_all (h := h) (fun _ => True) (fun r => r.2.2.2.1.length ≤ 1000000)).2 (fun c hc => ⟨trivial, hf.2.2 c hc⟩)
    exact fun c hc => (this c hc).2

end Go.Proofs.Ytbplccbjgfappaa

/-
  SlicesOrder: its two loops.
-/
namespace Go.Proofs.Ytbplccbjgfappaa
open Go Go.Ab Go.RowKit Go.Proofs

theorem room_few2 {n m : Nat} (hnm : n + m ≤ 60) : roomC n m := by
  refine ⟨?_, Nat.le_trans (Nat.mul_le_mul hnm changeBytes) (by decide)⟩
  unfold maxLen
  omega

/-- A history's box, its changes still growing. -/
abbrev fsH : List YF := [(none, i64), (none, i64), (none, i64), (none, i64), (none, i64), (none, i64), (none, i64), (none, i64), (none, .sl coverT), (some 43, changeT)]
def toY (h : histT.den) : denY fsH := (h.1, h.2.1, h.2.2.1.1.1, h.2.2.1.1.2.1, h.2.2.1.2.1.1, h.2.2.1.2.1.2.1, h.2.2.1.2.1.2.2.1, h.2.2.1.2.1.2.2.2.1, h.2.2.1.2.2.1, h.2.2.2.1, ())
def ofY (y : denY fsH) : histT.den := (y.1, y.2.1, ((y.2.2.1, y.2.2.2.1, ()), (y.2.2.2.2.1, y.2.2.2.2.2.1, y.2.2.2.2.2.2.1, y.2.2.2.2.2.2.2.1, ()), y.2.2.2.2.2.2.2.2.1, ()), y.2.2.2.2.2.2.2.2.2.1, ())
def chsY (y : denY fsH) : List changeT.den := y.2.2.2.2.2.2.2.2.2.1
def setC (y : denY fsH) (l : List changeT.den) : denY fsH := (y.1, y.2.1, y.2.2.1, y.2.2.2.1, y.2.2.2.2.1, y.2.2.2.2.2.1, y.2.2.2.2.2.2.1, y.2.2.2.2.2.2.2.1, y.2.2.2.2.2.2.2.2.1, l, ())

noncomputable def CLO : Cx := cx [(15, cYes), (19, cSameS), (17, cOf), (16, cFew)] []
theorem CLO_ok : CxOK Try.prog CLO := cx_ok mixed ⟨awake_ok, all12_ok, of_ok, few_ok, trivial⟩ trivial

abbrev msH : List MI := [.x 2 31 histT, .r 2 2 0, .x 3 34 tarT, .r 3 3 0, .y 7 31 fsH, .r 7 7 0]
abbrev msI : List MI := [.x 2 31 histT, .r 2 2 0, .x 3 34 tarT, .r 3 3 0, .y 7 31 fsH, .r 7 7 0, .x 9 43 changeT, .r 9 9 0]
abbrev pOi : Pt := ⟨100, 2, ⟨[(10, .d i64), (8, .d i64), (5, .d .bool)], msI⟩, ⟨[(8, .d i64), (5, .d .bool)], msI⟩, ⟨[(4, .d .bool)], []⟩⟩
abbrev pOo : Pt := ⟨100, 0, ⟨[(8, .d i64), (5, .d .bool)], msH⟩, ⟨[(5, .d .bool)], msH⟩, ⟨[(4, .d .bool)], []⟩⟩

def fOi (x : pOi.M.X) : Fr pOi.Out :=
  let k : Int := x.1.1; let i : Int := x.1.2.1; let b : Bool := x.1.2.2.1; let h : histT.den := x.2.1; let c : changeT.den := x.2.2.2.2.1
  Fr.br (decide (k < i))
    (Fr.need (0 ≤ k ∧ k < ((List.length (α := changeT.den) h.2.2.2.1 : Nat) : Int))
      (Fr.br ((h.2.2.2.1.getD k.toNat changeT.dflt).2.1 == c.2.1) (Fr.val (Rd.back ((b, ()), ()))) (Fr.val (Rd.next ((IntKind.i64.wrap (k + 1), i, b, ()), x.2)))))
    (Fr.val (Rd.out ((i, b, ()), x.2)))
noncomputable def innerO : Code := (bodyOf (loopF Try.f4 0) 0).getD .skip
theorem semOi : Does Try.prog innerO pOi.M pOi fOi := Does.of_run CLO_ok (bs := 0) rfl rfl rfl (fun _ => lam0_ok _ 0) (fun x => by kernel_rfl)

structure InOi (k i : Int) (h : histT.den) : Prop where
  k0 : 0 ≤ k
  ki : k ≤ i
  il : i ≤ (chL h).length
  big : (chL h).length ≤ 500000
def FOi (x : pOi.M.X) : Fr pOi.Out :=
  let k : Int := x.1.1; let i : Int := x.1.2.1; let b : Bool := x.1.2.2.1; let h : histT.den := x.2.1; let c : changeT.den := x.2.2.2.2.1
  Fr.need (InOi k i h) (Fr.br (anyDay h c k.toNat i.toNat) (Fr.val (Rd.back ((b, ()), ()))) (Fr.val (Rd.out ((i, b, ()), x.2))))

theorem anyDay_cons {h : histT.den} {c : changeT.den} {k i : Nat} (hki : k < i) (hil : i ≤ (chL h).length) : anyDay h c k i = (((chL h).getD k changeT.dflt).2.1 == c.2.1 || anyDay h c (k + 1) i) := by
  have hl : k < ((chL h).take i).length := by rw [List.length_take]; omega
  have hkl : k < (chL h).length := by omega
  unfold anyDay
  rw [List.drop_eq_getElem_cons hl, List.any_cons, List.getElem_take, List.getD_eq_getElem?_getD, List.getElem?_eq_getElem hkl]
  rfl

theorem lawOi (k i : Int) (b : Bool) (h : histT.den) (c : changeT.den) (z : denM msI) (h1 : z.1 = h) (h2 : z.2.2.2.1 = c) (hinv : InOi k i h) (Q : pOi.Out → Prop) (hq : (Fr.br (anyDay h c k.toNat i.toNat) (Fr.val (Rd.back ((b, ()), ()))) (Fr.val (Rd.out ((i, b, ()), z))) : Fr pOi.Out).satP Q) :
    (fOi ((k, i, b, ()), z)).satP fun
      | .next x' => InOi x'.1.1 x'.1.2.1 x'.2.1 ∧ ((x'.1.2.1 : Int) - x'.1.1).toNat < (i - k).toNat ∧ (FOi x').satP Q
      | .out y => Q (.out y)
      | .back z => Q (.back z)
      | .pan p => Q (.pan p) := by
  subst h1
  subst h2
  obtain ⟨g1, g2, g3, g4⟩ := hinv
  obtain ⟨k, rfl⟩ : ∃ n : Nat, k = n := ⟨k.toNat, by omega⟩
  obtain ⟨i, rfl⟩ : ∃ n : Nat, i = n := ⟨i.toNat, by omega⟩
  simp only [Int.toNat_natCast] at hq
  dsimp only [fOi, Fr.satP]
  simp only [Int.toNat_natCast]
  refine ⟨fun hi => ?_, fun hi => ?_⟩
  · have hi' : (k : Int) < i := of_decide_eq_true hi
    have hki : k < i := by omega
    have hw : IntKind.i64.wrap ((k : Int) + 1) = ((k + 1 : Nat) : Int) := succ_nat (by omega)
    have hc := anyDay_cons (h := z.1) (c := z.2.2.2.1) hki (by omega)
    have hd : z.1.2.2.2.1.getD k changeT.dflt = (chL z.1).getD k changeT.dflt := rfl
    rw [hw, hd]
    refine ⟨⟨by omega, by show (k : Int) < ((chL z.1).length : Int); omega⟩, fun hb => ?_, fun hb => ?_⟩
    · have hb' : (((chL z.1).getD k changeT.dflt).2.1 == z.2.2.2.1.2.1) = true := hb
      rw [hb', Bool.true_or] at hc
      exact hq.1 hc
    · have hb' : (((chL z.1).getD k changeT.dflt).2.1 == z.2.2.2.1.2.1) = false := hb
      rw [hb', Bool.false_or] at hc
      have hI : InOi ((k + 1 : Nat) : Int) i z.1 := ⟨by omega, by omega, g3, g4⟩
      refine ⟨hI, by show ((i : Int) - ((k + 1 : Nat) : Int)).toNat < ((i : Int) - (k : Int)).toNat; omega, hI, ?_⟩
      show (Fr.br (anyDay z.1 z.2.2.2.1 (k + 1) i) (Fr.val (Rd.back ((b, ()), ()))) (Fr.val (Rd.out (((i : Int), b, ()), z))) : Fr pOi.Out).satP Q
      rw [← hc]
      exact hq
  · have hi' : ¬ (k : Int) < i := of_decide_eq_false hi
    refine hq.2 ?_
    unfold anyDay
    rw [List.drop_eq_nil_of_le (by rw [List.length_take]; omega)]
    rfl
theorem loopOi : Does Try.prog (.loop innerO) pOi.M pOi FOi := by
  refine Does.loop (n := 100) (id := 2) semOi (inv := fun x => InOi x.1.1 x.1.2.1 x.2.1) (μ := fun x => ((x.1.2.1 : Int) - x.1.1).toNat) ?_ (fun x Q h => h.1)
  rintro ⟨⟨k, i, b, _⟩, z⟩ hinv Q hq
  exact lawOi k i b z.1 z.2.2.2.1 z rfl rfl hinv Q hq.2

/-! ### The changes turned round -/

def chJ (h : histT.den) (i : Int) : changeT.den := ((h.2.2.2.1.getD (IntKind.i64.wrap (IntKind.i64.wrap (((List.length (α := changeT.den) h.2.2.2.1 : Nat) : Int) - 1) - i)).toNat changeT.dflt).1, (h.2.2.2.1.getD i.toNat changeT.dflt).2)
def fOo (x : pOo.M.X) : Fr pOo.Out :=
  let i : Int := x.1.1; let b : Bool := x.1.2.1; let h : histT.den := x.2.1; let t : tarT.den := x.2.2.1; let y : denY fsH := x.2.2.2.1
  let n : Int := ((List.length (α := changeT.den) h.2.2.2.1 : Nat) : Int)
  Fr.br (decide (i ≥ 0))
    (Fr.need (0 ≤ i ∧ i < n) (Fr.need (0 ≤ IntKind.i64.wrap (IntKind.i64.wrap (n - 1) - i) ∧ IntKind.i64.wrap (IntKind.i64.wrap (n - 1) - i) < n)
      (Fr.need (InOi 0 i h)
        (Fr.br (anyDay h (chJ h i) (0 : Int).toNat i.toNat) (Fr.val (Rd.back ((b, ()), ())))
          (Fr.need (roomC (chsY y).length [chJ h i].length) (Fr.val (Rd.next ((IntKind.i64.wrap (i - 1), b, ()), (h, t, setC y (chsY y ++ [chJ h i]), ())))))))))
    (Fr.val (Rd.out ((b, ()), (h, t, y, ()))))
theorem semOo : Does Try.prog (loopF Try.f4 0) pOo.M pOo fOo :=
  Does.of_run CLO_ok (bs := 0) (Λ := fun _ => pOi.han CLO.Γ pOi.M FOi) rfl rfl rfl (fun E => lam_of _ 0 fun i b hb => by
    match i, hb with
    | 0, hb =>
      have e : some innerO = some b := by rw [← hb]; kernel_rfl
      cases e
      exact Does.han CLO_ok rfl loopOi
    | i + 1, hb => exact absurd (bodyOf_lt hb) (by
      have : loopsIn (loopF Try.f4 0) = 1 := by kernel_rfl
      omega)) (fun x => by kernel_rfl)

structure InOo (i : Int) (h : histT.den) (y : denY fsH) : Prop where
  lo : -1 ≤ i
  hi : i < (chL h).length
  big : (chL h).length ≤ 500000
  room : (chsY y).length + (i + 1).toNat ≤ 60
def FOo (x : pOo.M.X) : Fr pOo.Out :=
  let i : Int := x.1.1; let b : Bool := x.1.2.1; let h : histT.den := x.2.1; let t : tarT.den := x.2.2.1; let y : denY fsH := x.2.2.2.1
  Fr.need (InOo i h y) (Fr.br (goX h (i + 1).toNat (chsY y)).isNone (Fr.val (Rd.back ((b, ()), ()))) (Fr.val (Rd.out ((b, ()), (h, t, setC y ((goX h (i + 1).toNat (chsY y)).getD []), ())))))

theorem chJ_eq {h : histT.den} {n : Nat} (hn : n < (chL h).length) (hb : (chL h).length ≤ 500000) : chJ h (n : Int) = chB h n := by
  unfold chJ chB
  have e1 : IntKind.i64.wrap (((chL h).length : Int) - 1) = ((chL h).length : Int) - 1 := IntWalk.i64_in _ (by omega)
  have e2 : IntKind.i64.wrap (((chL h).length : Int) - 1 - (n : Int)) = ((chL h).length : Int) - 1 - n := IntWalk.i64_in _ (by omega)
  have e3 : (((chL h).length : Int) - 1 - (n : Int)).toNat = (chL h).length - 1 - n := by omega
  show (((chL h).getD (IntKind.i64.wrap (IntKind.i64.wrap (((chL h).length : Int) - 1) - (n : Int))).toNat changeT.dflt).1, ((chL h).getD ((n : Int)).toNat changeT.dflt).2) = _
  rw [e1, e2, e3, Int.toNat_natCast]

theorem lawOo (i : Int) (b : Bool) (h : histT.den) (t : tarT.den) (y : denY fsH) (hinv : InOo i h y) (Q : pOo.Out → Prop) (hq : (Fr.br (goX h (i + 1).toNat (chsY y)).isNone (Fr.val (Rd.back ((b, ()), ()))) (Fr.val (Rd.out ((b, ()), (h, t, setC y ((goX h (i + 1).toNat (chsY y)).getD []), ())))) : Fr pOo.Out).satP Q) :
    (fOo ((i, b, ()), (h, t, y, ()))).satP fun
      | .next x' => InOo x'.1.1 x'.2.1 x'.2.2.2.1 ∧ ((x'.1.1 : Int) + 1).toNat < (i + 1).toNat ∧ (FOo x').satP Q
      | .out y => Q (.out y)
      | .back z => Q (.back z)
      | .pan p => Q (.pan p) := by
  obtain ⟨g1, g2, g3, g4⟩ := hinv
  refine ⟨fun hi => ?_, fun hi => ?_⟩
  · have hi' : i ≥ 0 := of_decide_eq_true hi
    obtain ⟨n, rfl⟩ : ∃ n : Nat, i = n := ⟨i.toNat, by omega⟩
    have hn : n < (chL h).length := by omega
    have e1 : IntKind.i64.wrap (((chL h).length : Int) - 1) = ((chL h).length : Int) - 1 := IntWalk.i64_in _ (by omega)
    have e2 : IntKind.i64.wrap (((chL h).length : Int) - 1 - (n : Int)) = ((chL h).length : Int) - 1 - n := IntWalk.i64_in _ (by omega)
    have e3 : IntKind.i64.wrap ((n : Int) - 1) = (n : Int) - 1 := IntWalk.i64_in _ (by omega)
    have e4 : ((n : Int) + 1).toNat = n + 1 := by omega
    have e5 : ((n : Int) - 1 + 1).toNat = n := by omega
    have eJ : 0 ≤ IntKind.i64.wrap (IntKind.i64.wrap (((chL h).length : Int) - 1) - (n : Int)) ∧ IntKind.i64.wrap (IntKind.i64.wrap (((chL h).length : Int) - 1) - (n : Int)) < ((chL h).length : Int) := by
      rw [e1, e2]
      omega
    rw [e4] at hq g4
    dsimp only [fOo, Fr.satP]
    rw [chJ_eq hn g3, e3]
    refine ⟨⟨by omega, by show (n : Int) < ((chL h).length : Int); omega⟩, eJ, ⟨Int.le_refl _, by omega, by omega, g3⟩, fun hb => ?_, fun hb => ?_⟩
    · have hb' : anyDay h (chB h n) 0 n = true := hb
      have e : goX h (n + 1) (chsY y) = none := if_pos hb'
      rw [e] at hq
      exact hq.1 rfl
    · have hb' : ¬ anyDay h (chB h n) 0 n = true := by
        have : anyDay h (chB h n) 0 n = false := hb
        rw [this]
        decide
      have e : goX h (n + 1) (chsY y) = goX h n (chsY y ++ [chB h n]) := if_neg hb'
      rw [e] at hq
      have hI : InOo ((n : Int) - 1) h (setC y (chsY y ++ [chB h n])) := ⟨by omega, by omega, g3, by
        have e6 : (chsY (setC y (chsY y ++ [chB h n]))).length = (chsY y).length + 1 := by
          show (chsY y ++ [chB h n]).length = _
          rw [List.length_append, List.length_singleton]
        rw [e5, e6]
        omega⟩
      refine ⟨room_few2 (by show (chsY y).length + 1 ≤ 60; omega), hI, by show ((n : Int) - 1 + 1).toNat < ((n : Int) + 1).toNat; omega, hI, ?_⟩
      show (Fr.br (goX h ((n : Int) - 1 + 1).toNat (chsY y ++ [chB h n])).isNone (Fr.val (Rd.back ((b, ()), ()))) (Fr.val (Rd.out ((b, ()), (h, t, setC y ((goX h ((n : Int) - 1 + 1).toNat (chsY y ++ [chB h n])).getD []), ())))) : Fr pOo.Out).satP Q
      rw [e5]
      exact hq
  · have hi' : ¬ i ≥ 0 := of_decide_eq_false hi
    have : (i + 1).toNat = 0 := by omega
    rw [this] at hq
    exact hq.2 rfl
theorem loopOo : Does Try.prog (.loop (loopF Try.f4 0)) pOo.M pOo FOo := by
  refine Does.loop (n := 100) (id := 0) semOo (inv := fun x => InOo x.1.1 x.2.1 x.2.2.2.1) (μ := fun x => ((x.1.1 : Int) + 1).toNat) ?_ (fun x Q h => h.1)
  rintro ⟨⟨i, b, _⟩, h, t, y, _⟩ hinv Q hq
  exact lawOo i b h t y hinv Q hq.2

end Go.Proofs.Ytbplccbjgfappaa

/-
  The change that comes last of a day counts.
-/
namespace Go.Proofs.Ytbplccbjgfappaa
open Go Go.Ab Go.RowKit Go.Proofs

/-- The example's policy, with changes. -/
def H1 (l : List changeT.den) : histT.den := (1, 1, X0, l, ())

theorem filt_comm {α : Type} (p q : α → Bool) (l : List α) : (l.filter p).filter q = (l.filter q).filter p := by
  rw [List.filter_filter, List.filter_filter]
  congr 1
  funext x
  exact Bool.and_comm _ _

/-- A change of the last day, behind all others: it is done last. -/
theorem st_last {l : List changeT.den} {z : changeT.den} {d : Int} (hz : z.2.1 = d) : stOf (H1 (l ++ [z])) d = doesK (stOf (H1 l) d) z := by
  have e : ((chsO (H1 (l ++ [z]))).filter fun c => decide (c.2.1 ≤ d)) = ((chsO (H1 l)).filter fun c => decide (c.2.1 ≤ d)) ++ [z] := by
    refine SameK.eq (key := dayC) ((chsO_sortK _).filter _) ?_ fun k => ?_
    · show List.Pairwise _ _
      rw [List.pairwise_append]
      refine ⟨(chsO_sortK (H1 l)).filter _, List.pairwise_singleton _ _, fun a ha b hb => ?_⟩
      rw [List.mem_singleton.1 hb]
      have := of_decide_eq_true (List.mem_filter.1 ha).2
      show a.2.1 ≤ z.2.1
      rw [hz]
      exact this
    · have key : ∀ m : List changeT.den, (((chsO (H1 m)).filter fun c => decide (c.2.1 ≤ d)).filter fun x => dayC x == k) = (m.filter fun x => dayC x == k).filter fun c => decide (c.2.1 ≤ d) := fun m => by
        rw [filt_comm (fun c : changeT.den => decide (c.2.1 ≤ d)) (fun x => dayC x == k), chsO_same (H1 m) k]
        rfl
      rw [List.filter_append, key, key, List.filter_append, List.filter_append]
      congr 1
      by_cases hk : (dayC z == k) = true
      · have e1 : [z].filter (fun x => dayC x == k) = [z] := List.filter_cons_of_pos (p := fun x => dayC x == k) hk
        have e2 : [z].filter (fun c : changeT.den => decide (c.2.1 ≤ d)) = [z] := List.filter_cons_of_pos (p := fun c : changeT.den => decide (c.2.1 ≤ d)) (decide_eq_true (by rw [hz]; exact Int.le_refl d))
        rw [e1, e2]
      · have e1 : [z].filter (fun x => dayC x == k) = [] := List.filter_cons_of_neg (p := fun x => dayC x == k) hk
        rw [e1]
        rfl
  unfold stOf
  rw [← holdK_filter d (chsO (H1 (l ++ [z]))), e, holdK_append d (true, (H1 l).2.2.1.2.1, (H1 l).2.2.1.2.2.1), holdK_filter]
  have one : ∀ k : Core, holdK d [z] k = doesK k z := fun k => by
    show holdK d [] (if z.2.1 > d then k else doesK k z) = _
    rw [if_neg (by rw [hz]; exact Int.lt_irrefl d)]
    rfl
  rw [one]
  rfl

/-- Changes that touch neither the risk nor the covers, or say the risk that holds. -/
def Tame (c : changeT.den) : Prop := c.2.2.1 = 3 ∨ c.2.2.1 = 4 ∨ (c.2.2.1 = 1 ∧ c.2.2.2.1 = X0.2.1)

theorem tame_does {c : changeT.den} (hc : Tame c) {k : Core} (hk : k.2 = (X0.2.1, X0.2.2.1)) : (doesK k c).2 = (X0.2.1, X0.2.2.1) := by
  unfold doesK
  rcases hc with h | h | ⟨h, h2⟩
  · rw [h]
    exact hk
  · rw [h]
    exact hk
  · rw [h, h2]
    show (X0.2.1, k.2.2) = _
    rw [hk]

theorem tame_hold {d : Int} : {l : List changeT.den} → (∀ c ∈ l, Tame c) → {k : Core} → k.2 = (X0.2.1, X0.2.2.1) → (holdK d l k).2 = (X0.2.1, X0.2.2.1)
  | [], _, _, hk => hk
  | c :: l, hl, k, hk => by
    unfold holdK
    refine tame_hold (fun x hx => hl x (List.mem_cons_of_mem _ hx)) ?_
    split
    · exact hk
    · exact tame_does (hl c (List.mem_cons_self ..)) hk

def notR (c : changeT.den) : Bool := c.2.2.1 != 1
theorem tame_drop {d : Int} : {l : List changeT.den} → (∀ c ∈ l, Tame c) → {k : Core} → k.2 = (X0.2.1, X0.2.2.1) → holdK d l k = holdK d (l.filter notR) k
  | [], _, _, _ => rfl
  | c :: l, hl, k, hk => by
    have hc := hl c (List.mem_cons_self ..)
    have hl' : ∀ x ∈ l, Tame x := fun x hx => hl x (List.mem_cons_of_mem _ hx)
    by_cases h1 : c.2.2.1 = 1
    · have hn : ¬ notR c = true := by
        unfold notR
        rw [h1]
        decide
      rw [List.filter_cons_of_neg hn]
      have hd : doesK k c = k := by
        rcases hc with h | h | ⟨h, h2⟩
        · rw [h1] at h; cases h
        · rw [h1] at h; cases h
        · unfold doesK
          rw [h, h2]
          show (k.1, X0.2.1, k.2.2) = k
          have : k.2.1 = X0.2.1 := congrArg Prod.fst hk
          rw [← this]
      show holdK d l (if c.2.1 > d then k else doesK k c) = _
      rw [hd]
      split <;> exact tame_drop hl' hk
    · have hp : notR c = true := bne_iff_ne.2 h1
      rw [List.filter_cons_of_pos hp]
      show holdK d l (if c.2.1 > d then k else doesK k c) = holdK d (l.filter notR) (if c.2.1 > d then k else doesK k c)
      refine tame_drop hl' ?_
      split
      · exact hk
      · exact tame_does hc hk

theorem mem_chsO {l : List changeT.den} (h : ∀ c ∈ l, Tame c) : ∀ c ∈ chsO (H1 l), Tame c := fun c hc => h c (chsO_mem hc)

/-- To say what holds already changes nothing. -/
theorem st_noop {l : List changeT.den} {z : changeT.den} (hl : ∀ c ∈ l, c.2.2.1 = 3 ∨ c.2.2.1 = 4) (hz : z.2.2.1 = 1 ∧ z.2.2.2.1 = X0.2.1) (d : Int) : stOf (H1 (l ++ [z])) d = stOf (H1 l) d := by
  have hT : ∀ c ∈ l, Tame c := fun c hc => (hl c hc).elim .inl fun h => .inr (.inl h)
  have hT2 : ∀ c ∈ l ++ [z], Tame c := fun c hc => by
    rcases List.mem_append.1 hc with hc | hc
    · exact hT c hc
    · rw [List.mem_singleton.1 hc]
      exact .inr (.inr hz)
  unfold stOf
  rw [tame_drop (mem_chsO hT2) (k := (true, (H1 (l ++ [z])).2.2.1.2.1, (H1 (l ++ [z])).2.2.1.2.2.1)) rfl, tame_drop (mem_chsO hT) (k := (true, (H1 l).2.2.1.2.1, (H1 l).2.2.1.2.2.1)) rfl]
  congr 1
  refine SameK.eq (key := dayC) ((chsO_sortK _).filter _) ((chsO_sortK _).filter _) fun k => ?_
  have key : ∀ m : List changeT.den, (((chsO (H1 m)).filter notR).filter fun x => dayC x == k) = (m.filter notR).filter fun x => dayC x == k := fun m => by
    rw [filt_comm notR (fun x => dayC x == k), chsO_same (H1 m) k, filt_comm (fun x => dayC x == k) notR]
    rfl
  rw [key, key, List.filter_append]
  have : [z].filter notR = [] := by
    have hn : ¬ notR z = true := by
      unfold notR
      rw [hz.1]
      decide
    exact List.filter_cons_of_neg hn
  rw [this, List.append_nil]

/-- The example's version. -/
def V0 : verT.den := (1, (100, 100, 100, 100, ()), [], [10000], [10000, 10000, 10000, 10000, 10000, 10000, 10000, 10000], 0, ())
theorem year0 : (yearF V0 X0.2.1 X0.2.2.1).2 = 0 := by kernel_rfl

theorem errP_tame {l : List sliceT.den} (h : ∀ s ∈ l, (coreS s).2 = (X0.2.1, X0.2.2.1)) : errP V0 l = 0 := by
  induction l with
  | nil => rfl
  | cons s l ih =>
    have hs := h s (List.mem_cons_self ..)
    have e1 : s.2.2.1 = X0.2.1 := congrArg Prod.fst hs
    have e2 : s.2.2.2.1 = X0.2.2.1 := congrArg Prod.snd hs
    have hy : (yrS V0 s).2 = 0 := by
      unfold yrS
      rw [e1, e2]
      exact year0
    unfold errP
    rw [if_pos hy, ih (fun t ht => h t (List.mem_cons_of_mem _ ht))]
    split <;> rfl

theorem hist1 {l : List changeT.den} (hn : l.length ≤ 2000) (hl : ∀ c ∈ l, changeB c = true ∧ inB 1 101 c.2.1 = true) : histB (H1 l) = true :=
  histB_iff.2 ⟨by kernel_rfl, hn, hl⟩

theorem Runs.memL {st : Int → Core} {b : Int} : {a : Int} → {l : List sliceT.den} → Runs st b a l → ∀ s ∈ l, coreS s = st s.1.1
  | _, [], _, _, hs => by cases hs
  | a, t :: l, h, s, hs => by
    rcases List.mem_cons.1 hs with rfl | hs
    · rw [h.1]
      exact h.at_
    · exact Runs.memL h.2.2.2.2.2 s hs

theorem of_tame {l : List changeT.den} (hn : l.length ≤ 2000) (hl : ∀ c ∈ l, changeB c = true ∧ inB 1 101 c.2.1 = true) (hT : ∀ c ∈ l, Tame c) : ofF (H1 l) T0 = ((cutL (H1 l)).map (priceV V0), 0) := by
  have hh := hist1 hn hl
  have hv : verAt (H1 l).2.2.1.1.1 T0.1.reverse = (V0, 0) := by
    show verAt 1 T0.1.reverse = (V0, 0)
    kernel_rfl
  have he : errP V0 (cutL (H1 l)) = 0 := errP_tame fun s hs => by
    rw [Runs.memL (cutL_runs hh) s hs]
    exact tame_hold (mem_chsO hT) rfl
  unfold ofF
  rw [if_pos hh, hv]
  show (if (0 : Int) = 0 then (if errP V0 (cutL (H1 l)) = 0 then ((cutL (H1 l)).map (priceV V0), (0 : Int)) else ([], errP V0 (cutL (H1 l)))) else ([], 0)) = _
  rw [if_pos rfl, if_pos he]

end Go.Proofs.Ytbplccbjgfappaa

/-
  SlicesLast: its loop.
-/
namespace Go.Proofs.Ytbplccbjgfappaa
open Go Go.Ab Go.RowKit Go.Proofs

noncomputable def CLL : Cx := cx [(15, cYes), (22, cSome), (23, cIn), (24, cChange), (17, cOf), (20, cAt), (19, cSameS)] []
theorem CLL_ok : CxOK Try.prog CLL := cx_ok mixed ⟨awake_ok, some_ok, in3_ok, chRight_ok, of_ok, slices_At_ok, all12_ok, trivial⟩ trivial

abbrev msL : List MI := [.x 6 34 tarT, .r 6 6 0, .x 7 28 termsT, .r 7 7 0, .y 8 31 fsH, .r 8 8 0]
abbrev pLa : Pt := ⟨203, 0, ⟨[(9, .d i64), (0, .d (.sl changeT)), (1, .d (.int .u8)), (5, .d .bool)], msL⟩, ⟨[(1, .d (.int .u8)), (5, .d .bool)], msL⟩, ⟨[(4, .d .bool)], []⟩⟩

def sk1 (x : termsT.den) (e : changeT.den) : Bool := !(cIn.f (x.1, e.2.1, ())).1
def sk2 (x : termsT.den) (e : changeT.den) : Bool := bif sk1 x e then true else !(cChange.f (e, ())).1
def sk3 (x : termsT.den) (e : changeT.den) : Bool := bif sk2 x e then true else e.2.2.1 == 2
/-- A change that is passed over. -/
def skipC (x : termsT.den) (e : changeT.den) : Bool := bif sk3 x e then true else e.2.2.1 == 1
def atOne (e : changeT.den) : changeT.den := (1, e.2)
def keepL (x : termsT.den) (l : List changeT.den) : List changeT.den := (l.filter fun e => !skipC x e).map atOne

def fLa (z : pLa.M.X) : Fr pLa.Out :=
  let k : Int := z.1.1; let l : List changeT.den := z.1.2.1; let d : Int := z.1.2.2.1; let b : Bool := z.1.2.2.2.1; let t : tarT.den := z.2.1; let x : termsT.den := z.2.2.1; let y : denY fsH := z.2.2.2.1
  let e : changeT.den := l.getD k.toNat changeT.dflt
  Fr.br (decide (k < (l.length : Int)))
    (Fr.need (0 ≤ k ∧ k < (l.length : Int)) (Fr.need (sk1 x e = false → 0 ≤ k ∧ k < (l.length : Int)) (Fr.need (sk2 x e = false → 0 ≤ k ∧ k < (l.length : Int)) (Fr.need (sk3 x e = false → 0 ≤ k ∧ k < (l.length : Int))
      (Fr.br (skipC x e) (Fr.val (Rd.next ((IntKind.i64.wrap (k + 1), l, d, b, ()), (t, x, y, ()))))
        (Fr.need (0 ≤ k ∧ k < (l.length : Int)) (Fr.need (roomC (chsY y).length [atOne e].length)
          (Fr.val (Rd.next ((IntKind.i64.wrap (k + 1), l, d, b, ()), (t, x, setC y (chsY y ++ [atOne e]), ())))))))))))
    (Fr.val (Rd.out ((d, b, ()), (t, x, y, ()))))
theorem semLa : Does Try.prog (loopF Try.f6 0) pLa.M pLa fLa := Does.of_run CLL_ok (bs := 0) rfl rfl rfl (fun _ => lam0_ok _ 0) (fun x => by kernel_rfl)

structure InLa (k : Int) (l : List changeT.den) (y : denY fsH) : Prop where
  k0 : 0 ≤ k
  kl : k ≤ l.length
  big : l.length ≤ 60
  room : (chsY y).length + (l.length - k.toNat) ≤ 60
def FLa (z : pLa.M.X) : Fr pLa.Out :=
  let k : Int := z.1.1; let l : List changeT.den := z.1.2.1; let d : Int := z.1.2.2.1; let b : Bool := z.1.2.2.2.1; let t : tarT.den := z.2.1; let x : termsT.den := z.2.2.1; let y : denY fsH := z.2.2.2.1
  Fr.need (InLa k l y) (Fr.val (Rd.out ((d, b, ()), (t, x, setC y (chsY y ++ keepL x (l.drop k.toNat)), ()))))
def outLa (d : Int) (b : Bool) (t : tarT.den) (x : termsT.den) (y : denY fsH) (m : List changeT.den) : pLa.Out := Rd.out ((d, b, ()), (t, x, setC y m, ()))

theorem lawLa (k : Int) (l : List changeT.den) (d : Int) (b : Bool) (t : tarT.den) (x : termsT.den) (y : denY fsH) (hinv : InLa k l y) (Q : pLa.Out → Prop) (hq : Q (outLa d b t x y (chsY y ++ keepL x (l.drop k.toNat)))) :
    (fLa ((k, l, d, b, ()), (t, x, y, ()))).satP fun
      | .next x' => InLa x'.1.1 x'.1.2.1 x'.2.2.2.1 ∧ ((List.length (α := changeT.den) x'.1.2.1 : Int) - x'.1.1).toNat < ((l.length : Int) - k).toNat ∧ (FLa x').satP Q
      | .out y => Q (.out y)
      | .back z => Q (.back z)
      | .pan p => Q (.pan p) := by
  obtain ⟨h1, h2, h3, h4⟩ := hinv
  refine ⟨fun hi => ?_, fun hi => ?_⟩
  · have hi' : k < (l.length : Int) := of_decide_eq_true hi
    obtain ⟨k, rfl⟩ : ∃ n : Nat, k = n := ⟨k.toNat, by omega⟩
    have hl : k < l.length := by omega
    have hk : (k : Int).toNat = k := by omega
    have hk1 : ((k : Int) + 1).toNat = k + 1 := by omega
    rw [hk] at hq h4
    have hw : IntKind.i64.wrap ((k : Int) + 1) = k + 1 := IntWalk.i64_in _ (by omega)
    have g1 : l.getD (k : Int).toNat changeT.dflt = l[k] := by
      rw [hk, List.getD_eq_getElem?_getD, List.getElem?_eq_getElem hl]; rfl
    rw [List.drop_eq_getElem_cons hl] at hq
    have hb : 0 ≤ (k : Int) ∧ (k : Int) < (l.length : Int) := ⟨by omega, by omega⟩
    have hμ : ((l.length : Int) - ((k : Int) + 1)).toNat < ((l.length : Int) - (k : Int)).toNat := by omega
    dsimp only [fLa, Fr.satP]
    rw [g1, hw]
    refine ⟨hb, fun _ => hb, fun _ => hb, fun _ => hb, fun hs => ?_, fun hs => ⟨hb, room_few2 (by show (chsY y).length + 1 ≤ 60; omega), ?_⟩⟩
    · have e : keepL x (l[k] :: l.drop (k + 1)) = keepL x (l.drop (k + 1)) := by
        unfold keepL
        have hn : ¬ (!skipC x l[k]) = true := by rw [hs]; decide
        rw [List.filter_cons_of_neg (p := fun e => !skipC x e) hn]
      rw [e] at hq
      have hI : InLa ((k : Int) + 1) l y := ⟨by omega, by omega, h3, by rw [hk1]; omega⟩
      refine ⟨hI, hμ, hI, ?_⟩
      show Q (outLa d b t x y (chsY y ++ keepL x (l.drop ((k : Int) + 1).toNat)))
      rw [hk1]
      exact hq
    · have e : keepL x (l[k] :: l.drop (k + 1)) = atOne l[k] :: keepL x (l.drop (k + 1)) := by
        unfold keepL
        have hp : (!skipC x l[k]) = true := by
          have hs' : skipC x l[k] = false := hs
          rw [hs']; rfl
        rw [List.filter_cons_of_pos (p := fun e => !skipC x e) hp]
        rfl
      have e2 : chsY y ++ (atOne l[k] :: keepL x (l.drop (k + 1))) = (chsY y ++ [atOne l[k]]) ++ keepL x (l.drop (k + 1)) := by
        rw [List.append_assoc]
        rfl
      rw [e, e2] at hq
      have hlen : (chsY (setC y (chsY y ++ [atOne l[k]]))).length = (chsY y).length + 1 := by
        show (chsY y ++ [atOne l[k]]).length = _
        rw [List.length_append, List.length_singleton]
      have hI : InLa ((k : Int) + 1) l (setC y (chsY y ++ [atOne l[k]])) := ⟨by omega, by omega, h3, by rw [hk1, hlen]; omega⟩
      refine ⟨hI, hμ, hI, ?_⟩
      show Q (outLa d b t x y ((chsY y ++ [atOne l[k]]) ++ keepL x (l.drop ((k : Int) + 1).toNat)))
      rw [hk1]
      exact hq
  · have hi' : ¬ k < (l.length : Int) := of_decide_eq_false hi
    have : l.drop k.toNat = [] := List.drop_eq_nil_of_le (by omega)
    rw [this] at hq
    have e : chsY y ++ keepL x [] = chsY y := List.append_nil _
    rw [e] at hq
    exact hq
theorem loopLa : Does Try.prog (.loop (loopF Try.f6 0)) pLa.M pLa FLa := by
  refine Does.loop (n := 203) (id := 0) semLa (inv := fun x => InLa x.1.1 x.1.2.1 x.2.2.2.1) (μ := fun x => ((List.length (α := changeT.den) x.1.2.1 : Int) - x.1.1).toNat) ?_ (fun x Q h => h.1)
  rintro ⟨⟨k, l, d, b, _⟩, t, x, y, _⟩ hinv Q hq
  exact lawLa k l d b t x y hinv Q hq.2

end Go.Proofs.Ytbplccbjgfappaa

/-
  SlicesOrder: the law's contract.
-/
namespace Go.Proofs.Ytbplccbjgfappaa
open Go Go.Ab Go.RowKit Go.Proofs

def lastH (h : histT.den) : Int := IntKind.i64.wrap (((List.length (α := changeT.den) h.2.2.2.1 : Nat) : Int) - 1)
def goO (h : histT.den) : Option (List changeT.den) := goX h (lastH h + 1).toNat (chsY (setC (toY h) []))
def resX (h : histT.den) : histT.den := ofY (setC (setC (toY h) []) ((goO h).getD []))
def fr_Or (x : denP [.d histT, .d tarT]) : Fr (denL [.bool]) :=
  let h : histT.den := x.1; let t : tarT.den := x.2.1
  let R : denL [slsT, i64] := cOf.f (h, t, ()); let S : denL [slsT, i64] := cOf.f (resX h, t, ())
  Fr.br (!(cFew.f (h, t, ())).1) (Fr.val (true, ()))
    (Fr.need (InOo (lastH h) h (setC (toY h) []))
      (Fr.br (goO h).isNone (Fr.val (true, ()))
        (Fr.need (fewH h) (Fr.need (fewT t) (Fr.need (fewH (resX h)) (Fr.need (fewT t)
          (Fr.br (R.2.1 != S.2.1) (Fr.val (bif bif true then R.2.1 != 0 else false then S.2.1 != 0 else false, ()))
            (Fr.val (bif true then (cSameS.f (R.1, S.1, ())).1 else false, ())))))))))

theorem or_run : SoundCt Try.prog 4 ⟨[.d histT, .d tarT], [.bool], fun xs => (fr_Or xs).get, fun xs => [(fr_Or xs).ok]⟩ :=
  fn_sound CLO_ok (Λ := fun _ => pOo.han CLO.Γ pOo.M FOo) (fn := Try.f4) (fr := fr_Or) (ps := [.d histT, .d tarT]) (rs := [.bool]) (histT.dflt, tarT.dflt, ()) (by kernel_rfl)
    (fun c E hc => lam1f hc (by kernel_rfl) (b := loopF Try.f4 0) (by kernel_rfl) (Does.han CLO_ok rfl loopOo)) (fun x => by kernel_rfl)

theorem sameS_refl2 : (l : List sliceT.den) → sameS l l = true
  | [] => rfl
  | s :: l => by
    unfold sameS
    rw [sliceEq_refl, sameS_refl2 l]
    rfl

theorem lawOrder_ok : SoundCt Try.prog 4 (cLaw [.d histT, .d tarT]) :=
  convF or_run _ _ (fun w F x vs hr _ => by
    obtain ⟨h, t, _⟩ := x
    show (fr_Or (h, t, ())).ok ∧ (fr_Or (h, t, ())).get = (true, ())
    cases hf : fewB h t with
    | false =>
      refine Fr.br_t ?_ ⟨trivial, rfl⟩
      show (!(fewB h t)) = true
      rw [hf]; rfl
    | true =>
      obtain ⟨f1, f2⟩ := fewB_fewH hf
      have hl : (chL h).length ≤ 60 := by
        unfold fewB at hf
        simp only [Bool.and_eq_true, decide_eq_true_eq] at hf
        exact hf.1.1
      have e1 : lastH h = ((chL h).length : Int) - 1 := IntWalk.i64_in (((chL h).length : Int) - 1) (by omega)
      have e2 : (lastH h + 1).toNat = (chL h).length := by rw [e1]; omega
      have e3 : goO h = goX h (chL h).length [] := by
        unfold goO
        rw [e2]
        rfl
      have hI : InOo (lastH h) h (setC (toY h) []) := ⟨by rw [e1]; omega, by rw [e1]; omega, by omega, by
        show 0 + (lastH h + 1).toNat ≤ 60
        rw [e2]
        omega⟩
      refine Fr.br_f ?_ (Fr.need_ hI ?_)
      · show (!(fewB h t)) = false
        rw [hf]; rfl
      · cases hg : goO h with
        | none => exact Fr.br_t rfl ⟨trivial, rfl⟩
        | some r =>
          rw [e3] at hg
          obtain ⟨r1, r2⟩ := goX_some h _ _ _ hg (Nat.le_refl _)
          rw [List.nil_append] at r1
          have hX : resX h = turnH h (turned h) := by
            unfold resX
            rw [e3, hg, r1]
            rfl
          refine Fr.br_f rfl (Fr.need_ f1 (Fr.need_ f2 (Fr.need_ ?_ (Fr.need_ f2 ?_))))
          · show fewH (resX h)
            rw [hX]
            exact turned_few f1
          · refine Fr.br_f ?_ ⟨trivial, Prod.ext ?_ rfl⟩
            · show ((ofF h t).2 != (ofF (resX h) t).2) = false
              rw [hX, turned_of t r2]
              simp
            · show sameS (ofF h t).1 (ofF (resX h) t).1 = true
              rw [hX, turned_of t r2]
              exact sameS_refl2 _)

end Go.Proofs.Ytbplccbjgfappaa

/-
  SlicesLast: the law's contract.
-/
namespace Go.Proofs.Ytbplccbjgfappaa
open Go Go.Ab Go.RowKit Go.Proofs

def lastD (d : Int) : Int := IntKind.i64.wrap (1 + IntKind.i64.wrap (d.tmod 100))
def cCA (d : Int) : changeT.den := (1, lastD d, 3, (0, 0, 0, 0, ()), [], 0, ())
def cRE (d : Int) : changeT.den := (1, lastD d, 4, (0, 0, 0, 0, ()), [], 0, ())
def cSA (d : Int) : changeT.den := (1, lastD d, 1, X0.2.1, [], 0, ())

def fr_La3 (A B C U : denL [slsT, i64]) (D : Int) : Fr (denL [.bool]) :=
  let p : denL [sliceT, .bool] := cAt.f (A.1, D, ()); let q : denL [sliceT, .bool] := cAt.f (B.1, D, ())
  Fr.br (bif bif bif A.2.1 != 0 then true else B.2.1 != 0 then true else C.2.1 != 0 then true else U.2.1 != 0) (Fr.val (false, ()))
    (Fr.val (bif bif bif bif bif true then p.2.1 else false then q.2.1 else false then p.1.2.1 else false then !q.1.2.1 else false then (cSameS.f (C.1, U.1, ())).1 else false, ()))
def fr_La2 (d : Int) (K : List changeT.den) : Fr (denL [.bool]) :=
  let n0 : Nat := ([] : List changeT.den).length; let n1 : Nat := (([] : List changeT.den) ++ K).length
  Fr.need (roomC n0 K.length) (Fr.need (roomC n1 [cCA d, cRE d].length) (Fr.need (roomC n0 K.length) (Fr.need (roomC n1 [cRE d, cCA d].length) (Fr.need (roomC n0 K.length) (Fr.need (roomC n1 [cSA d].length)
    (Fr.need (fewH (H1 (([] ++ K) ++ [cCA d, cRE d]))) (Fr.need (fewT T0) (Fr.need (fewH (H1 (([] ++ K) ++ [cRE d, cCA d]))) (Fr.need (fewT T0) (Fr.need (fewH (H1 K)) (Fr.need (fewT T0) (Fr.need (fewH (H1 (([] ++ K) ++ [cSA d]))) (Fr.need (fewT T0)
      (fr_La3 (cOf.f (H1 (([] ++ K) ++ [cCA d, cRE d]), T0, ())) (cOf.f (H1 (([] ++ K) ++ [cRE d, cCA d]), T0, ())) (cOf.f (H1 K, T0, ())) (cOf.f (H1 (([] ++ K) ++ [cSA d]), T0, ())) (lastD d)))))))))))))))
def fr_La (x : denP [.d (.sl changeT), .d (.int .u8)]) : Fr (denL [.bool]) :=
  let l : List changeT.den := x.1; let d : Int := x.2.1
  Fr.br (decide ((l.length : Int) > 60)) (Fr.val (true, ()))
    (Fr.need (InLa 0 l (toY (H1 []))) (Fr.need ((100 : Int) ≠ 0) (fr_La2 d ([] ++ keepL X0 (l.drop (0 : Int).toNat)))))

theorem la_run : SoundCt Try.prog 6 ⟨[.d (.sl changeT), .d (.int .u8)], [.bool], fun xs => (fr_La xs).get, fun xs => [(fr_La xs).ok]⟩ :=
  fn_sound CLL_ok (Λ := fun _ => pLa.han CLL.Γ pLa.M FLa) (fn := Try.f6) (fr := fr_La) (ps := [.d (.sl changeT), .d (.int .u8)]) (rs := [.bool]) ([], 0, ()) (by kernel_rfl)
    (fun c E hc => lam1f hc (by kernel_rfl) (b := loopF Try.f6 0) (by kernel_rfl) (Does.han CLL_ok rfl loopLa)) (fun x => by kernel_rfl)

/-! ### The law, plain -/

/-- Changes of the example's days, that cancel or revive. -/
def Plain (c : changeT.den) : Prop := (changeB c = true ∧ inB 1 101 c.2.1 = true) ∧ (c.2.2.1 = 3 ∨ c.2.2.1 = 4) ∧ c.2.2.2.2.1.length ≤ 1000000

theorem kindB_four {c : changeT.den} (h : kindB c = true) : c.2.2.1 = 1 ∨ c.2.2.1 = 2 ∨ c.2.2.1 = 3 ∨ c.2.2.1 = 4 := by
  unfold kindB at h
  by_cases h1 : c.2.2.1 = 1
  · exact .inl h1
  · rw [if_neg h1] at h
    by_cases h2 : c.2.2.1 = 2
    · exact .inr (.inl h2)
    · rw [if_neg h2] at h
      by_cases h3 : c.2.2.1 = 3
      · exact .inr (.inr (.inl h3))
      · rw [if_neg h3] at h
        by_cases h4 : c.2.2.1 = 4
        · exact .inr (.inr (.inr h4))
        · rw [if_neg h4] at h
          cases h

theorem bif_mid {a b c : Bool} (h : (bif bif a then b else false then c else false) = true) : b = true := by
  cases a <;> cases b <;> cases c <;> first | rfl | cases h

theorem kindB_len {c : changeT.den} (h : kindB c = true) (h1 : c.2.2.1 = 3 ∨ c.2.2.1 = 4) : c.2.2.2.2.1.length ≤ 1000000 := by
  have key : ((c.2.2.2.2.1.length : Int) == 0) = true := by
    unfold kindB at h
    rcases h1 with h1 | h1
    · rw [h1, if_neg (by decide), if_neg (by decide), if_pos rfl] at h
      exact bif_mid (a := bif c.2.2.2.2.2.1 == 0 then true else c.2.2.2.2.2.1 == 1) (c := bareB c.2.2.2.1) h
    · rw [h1, if_neg (by decide), if_neg (by decide), if_neg (by decide), if_pos rfl] at h
      exact bif_mid (a := c.2.2.2.2.2.1 == 0) (c := bareB c.2.2.2.1) h
  have : (c.2.2.2.2.1.length : Int) = 0 := beq_iff_eq.1 key
  omega

theorem keep_plain (l : List changeT.den) : ∀ c ∈ keepL X0 l, Plain c := fun c hc => by
  unfold keepL at hc
  obtain ⟨e, he, rfl⟩ := List.mem_map.1 hc
  obtain ⟨_, hk⟩ := List.mem_filter.1 he
  have hs : skipC X0 e = false := by
    cases h : skipC X0 e with
    | false => rfl
    | true => rw [h] at hk; cases hk
  have a1 : sk3 X0 e = false := by
    cases h : sk3 X0 e with
    | false => rfl
    | true => unfold skipC at hs; rw [h] at hs; cases hs
  have a2 : sk2 X0 e = false := by
    cases h : sk2 X0 e with
    | false => rfl
    | true => unfold sk3 at a1; rw [h] at a1; cases a1
  have a3 : sk1 X0 e = false := by
    cases h : sk1 X0 e with
    | false => rfl
    | true => unfold sk2 at a2; rw [h] at a2; cases a2
  have k1 : ¬ e.2.2.1 = 1 := by
    unfold skipC at hs
    rw [a1] at hs
    exact beq_eq_false_iff_ne.1 hs
  have k2 : ¬ e.2.2.1 = 2 := by
    unfold sk3 at a1
    rw [a2] at a1
    exact beq_eq_false_iff_ne.1 a1
  have k3 : changeB e = true := by
    unfold sk2 at a2
    rw [a3] at a2
    have : (!(changeB e)) = false := a2
    simpa using this
  have k4 : inB 1 101 e.2.1 = true := by
    have : (!(inB 1 101 e.2.1)) = false := a3
    simpa using this
  unfold changeB at k3
  rw [Bool.and_eq_true, Bool.and_eq_true] at k3
  obtain ⟨_, k5, k6⟩ := k3
  have k7 : e.2.2.1 = 3 ∨ e.2.2.1 = 4 := by
    rcases kindB_four k6 with h | h | h | h
    · exact absurd h k1
    · exact absurd h k2
    · exact .inl h
    · exact .inr h
  refine ⟨⟨?_, k4⟩, k7, kindB_len k6 k7⟩
  have e1 : kindB (atOne e) = kindB e := rfl
  unfold changeB
  rw [e1, k6, show dayB (atOne e).2.1 = true from k5]
  rfl

theorem keep_length (l : List changeT.den) : (keepL X0 l).length ≤ l.length := by
  unfold keepL
  rw [List.length_map]
  exact List.length_filter_le _ _

theorem lastD_eq {d : Int} (hd : 0 ≤ d ∧ d ≤ 255) : 1 ≤ lastD d ∧ lastD d ≤ 100 := by
  unfold lastD
  rw [Int.tmod_eq_emod_of_nonneg hd.1]
  have e1 : IntKind.i64.wrap (d % 100) = d % 100 := IntWalk.i64_in _ (by omega)
  rw [e1]
  have e2 : IntKind.i64.wrap (1 + d % 100) = 1 + d % 100 := IntWalk.i64_in _ (by omega)
  rw [e2]
  omega

theorem day_in {D : Int} (h : 1 ≤ D ∧ D ≤ 100) : inB 1 101 D = true ∧ dayB D = true := by
  constructor
  · exact decide_eq_true (by omega)
  · exact decide_eq_true (by omega)

theorem bare_change {D k : Int} {r : riskT.den} (h : 1 ≤ D ∧ D ≤ 100) (hk : kindB ((1, D, k, r, [], 0, ()) : changeT.den) = true) : changeB ((1, D, k, r, [], 0, ()) : changeT.den) = true ∧ inB 1 101 D = true := by
  obtain ⟨h1, h2⟩ := day_in h
  refine ⟨?_, h1⟩
  unfold changeB
  rw [hk, show dayB ((1, D, k, r, [], 0, ()) : changeT.den).2.1 = true from h2]
  rfl

/-- What is asked of changes, and what comes of it. -/
theorem tame_all {K : List changeT.den} (hK : ∀ c ∈ K, Plain c) (m : List changeT.den) (hm : ∀ c ∈ m, (changeB c = true ∧ inB 1 101 c.2.1 = true) ∧ Tame c) (hlen : (K ++ m).length ≤ 100) : ofF (H1 (K ++ m)) T0 = ((cutL (H1 (K ++ m))).map (priceV V0), 0) ∧ histB (H1 (K ++ m)) = true := by
  have h1 : ∀ c ∈ K ++ m, changeB c = true ∧ inB 1 101 c.2.1 = true := fun c hc => (List.mem_append.1 hc).elim (fun h => (hK c h).1) (fun h => (hm c h).1)
  have h2 : ∀ c ∈ K ++ m, Tame c := fun c hc => (List.mem_append.1 hc).elim (fun h => (hK c h).2.1.elim .inl fun h => .inr (.inl h)) (fun h => (hm c h).2)
  exact ⟨of_tame (by omega) h1 h2, hist1 (by omega) h1⟩

theorem fewH_app {K m : List changeT.den} (hK : ∀ c ∈ K, Plain c) (hm : ∀ c ∈ m, c.2.2.2.2.1.length ≤ 1000000) (hlen : (K ++ m).length ≤ 100) : fewH (H1 (K ++ m)) := by
  refine ⟨?_, (by show (1 : Nat) ≤ 1000000; decide), fun c hc => ?_⟩
  · show (K ++ m).length ≤ 500000
    omega
  · have hc' : c ∈ K ++ m := hc
    exact (List.mem_append.1 hc').elim (fun h => (hK c h).2.2) (fun h => hm c h)

theorem at_on {l : List changeT.den} (hh : histB (H1 l) = true) {D : Int} (hD : 1 ≤ D ∧ D ≤ 100) : (atS ((cutL (H1 l)).map (priceV V0)) D).2 = true ∧ (atS ((cutL (H1 l)).map (priceV V0)) D).1.2.1 = (stOf (H1 l) D).1 := by
  have hr : Runs (stOf (H1 l)) 101 1 (cutL (H1 l)) := cutL_runs hh
  obtain ⟨k1, k2⟩ := atS_map (v := V0) D (cutL (H1 l))
  obtain ⟨m1, m2⟩ := hr.at_day (by decide) (by decide) D
  have hin : (atS (cutL (H1 l)) D).2 = true := by
    rw [m1]
    exact decide_eq_true (by omega)
  refine ⟨k1.trans hin, ?_⟩
  rw [k2 hin]
  have e1 := congrArg Prod.fst (price_core V0 (atS (cutL (H1 l)) D).1).1
  have e2 := congrArg Prod.fst (m2 hin).1
  exact e1.trans e2

theorem room_100 {n m : Nat} (hnm : n + m ≤ 100) : roomC n m := by
  refine ⟨?_, Nat.le_trans (Nat.mul_le_mul hnm changeBytes) (by decide)⟩
  unfold maxLen
  omega

theorem doesK_re (k : Core) (d : Int) : (doesK k (cRE d)).1 = true := rfl
theorem doesK_ca (k : Core) (d : Int) : (doesK k (cCA d)).1 = false := rfl

theorem cut_noop {K : List changeT.den} {d : Int} (hK : ∀ c ∈ K, Plain c) (h1 : histB (H1 (K ++ [cSA d])) = true) (h2 : histB (H1 K) = true) : cutL (H1 (K ++ [cSA d])) = cutL (H1 K) := by
  have r1 : Runs (stOf (H1 (K ++ [cSA d]))) 101 1 (cutL (H1 (K ++ [cSA d]))) := cutL_runs h1
  have r2 : Runs (stOf (H1 K)) 101 1 (cutL (H1 K)) := cutL_runs h2
  exact Runs.uniq (r1.congr fun x _ _ => st_noop (fun c hc => (hK c hc).2.1) ⟨rfl, rfl⟩ x) r2

theorem la2_eq {d : Int} (hd : 0 ≤ d ∧ d ≤ 255) {K : List changeT.den} (hK : ∀ c ∈ K, Plain c) (hl : K.length ≤ 60) : (fr_La2 d K).ok ∧ (fr_La2 d K).get = (true, ()) := by
  have hD := lastD_eq hd
  have bCA : (changeB (cCA d) = true ∧ inB 1 101 (cCA d).2.1 = true) ∧ Tame (cCA d) := ⟨bare_change hD rfl, .inl rfl⟩
  have bRE : (changeB (cRE d) = true ∧ inB 1 101 (cRE d).2.1 = true) ∧ Tame (cRE d) := ⟨bare_change hD rfl, .inr (.inl rfl)⟩
  have bSA : (changeB (cSA d) = true ∧ inB 1 101 (cSA d).2.1 = true) ∧ Tame (cSA d) := ⟨bare_change hD (by kernel_rfl), .inr (.inr ⟨rfl, rfl⟩)⟩
  have l2 : ∀ a b : changeT.den, (K ++ [a, b]).length ≤ 100 := fun a b => by rw [List.length_append]; show _ + 2 ≤ 100; omega
  have l1 : ∀ a : changeT.den, (K ++ [a]).length ≤ 100 := fun a => by rw [List.length_append]; show _ + 1 ≤ 100; omega
  have two : ∀ {a b : changeT.den} {p : changeT.den → Prop}, p a → p b → ∀ c ∈ [a, b], p c := fun {a b p} ha hb c hc => by
    rcases List.mem_cons.1 hc with rfl | hc
    · exact ha
    · rw [List.mem_singleton.1 hc]
      exact hb
  obtain ⟨oA, hA⟩ := tame_all hK [cCA d, cRE d] (two bCA bRE) (l2 _ _)
  obtain ⟨oB, hB⟩ := tame_all hK [cRE d, cCA d] (two bRE bCA) (l2 _ _)
  obtain ⟨oU, hU⟩ := tame_all hK [cSA d] (fun c hc => by rw [List.mem_singleton.1 hc]; exact bSA) (l1 _)
  obtain ⟨oC, hC⟩ := tame_all hK [] (fun c hc => by cases hc) (by rw [List.append_nil]; omega)
  rw [List.append_nil] at oC hC
  have f0 : ∀ c ∈ ([] : List changeT.den), c.2.2.2.2.1.length ≤ 1000000 := fun c hc => by cases hc
  have fA := fewH_app (m := [cCA d, cRE d]) hK (two (Nat.zero_le _) (Nat.zero_le _)) (l2 _ _)
  have fB := fewH_app (m := [cRE d, cCA d]) hK (two (Nat.zero_le _) (Nat.zero_le _)) (l2 _ _)
  have fU := fewH_app (m := [cSA d]) hK (fun c hc => by rw [List.mem_singleton.1 hc]; exact Nat.zero_le _) (l1 _)
  have fC := fewH_app (m := []) hK f0 (by rw [List.append_nil]; omega)
  rw [List.append_nil] at fC
  have eA : K ++ [cCA d, cRE d] = (K ++ [cCA d]) ++ [cRE d] := by simp
  have eB : K ++ [cRE d, cCA d] = (K ++ [cRE d]) ++ [cCA d] := by simp
  obtain ⟨pA, qA⟩ := at_on hA hD
  obtain ⟨pB, qB⟩ := at_on hB hD
  rw [eA, st_last (d := lastD d) rfl, doesK_re, ← eA] at qA
  rw [eB, st_last (d := lastD d) rfl, doesK_ca, ← eB] at qB
  have r0 : roomC ([] : List changeT.den).length K.length := room_100 (by show 0 + _ ≤ 100; omega)
  have r2 : ∀ a b : changeT.den, roomC (([] : List changeT.den) ++ K).length [a, b].length := fun a b => room_100 (by show K.length + 2 ≤ 100; omega)
  have r1 : ∀ a : changeT.den, roomC (([] : List changeT.den) ++ K).length [a].length := fun a => room_100 (by show K.length + 1 ≤ 100; omega)
  refine Fr.need_ r0 (Fr.need_ (r2 _ _) (Fr.need_ r0 (Fr.need_ (r2 _ _) (Fr.need_ r0 (Fr.need_ (r1 _) (Fr.need_ fA (Fr.need_ fewT0 (Fr.need_ fB (Fr.need_ fewT0 (Fr.need_ fC (Fr.need_ fewT0 (Fr.need_ fU (Fr.need_ fewT0 ?_)))))))))))))
  refine Fr.br_f ?_ ⟨trivial, Prod.ext ?_ rfl⟩
  · show (bif bif bif (ofF (H1 (K ++ [cCA d, cRE d])) T0).2 != 0 then true else (ofF (H1 (K ++ [cRE d, cCA d])) T0).2 != 0 then true else (ofF (H1 K) T0).2 != 0 then true else (ofF (H1 (K ++ [cSA d])) T0).2 != 0) = false
    rw [oA, oB, oC, oU]
    rfl
  · show (bif bif bif bif (atS (ofF (H1 (K ++ [cCA d, cRE d])) T0).1 (lastD d)).2 then (atS (ofF (H1 (K ++ [cRE d, cCA d])) T0).1 (lastD d)).2 else false then (atS (ofF (H1 (K ++ [cCA d, cRE d])) T0).1 (lastD d)).1.2.1 else false then
      !(atS (ofF (H1 (K ++ [cRE d, cCA d])) T0).1 (lastD d)).1.2.1 else false then sameS (ofF (H1 K) T0).1 (ofF (H1 (K ++ [cSA d])) T0).1 else false) = true
    rw [oA, oB, oC, oU]
    dsimp only
    rw [pA, pB, qA, qB, cut_noop hK hU hC, sameS_refl2]
    rfl

theorem lawLast_ok : SoundCt Try.prog 6 (cLaw [.d (.sl changeT), .d (.int .u8)]) :=
  convF la_run _ _ (fun w F x vs hr _ => by
    obtain ⟨l, d, _⟩ := x
    obtain ⟨v1, vs1, rfl, _, v2, vs2, rfl, h2, _⟩ := hr
    have hd : 0 ≤ d ∧ d ≤ 255 := h2.2.2.2
    show (fr_La (l, d, ())).ok ∧ (fr_La (l, d, ())).get = (true, ())
    by_cases hl : (l.length : Int) > 60
    · exact Fr.br_t (decide_eq_true hl) ⟨trivial, rfl⟩
    · have hl' : l.length ≤ 60 := by omega
      have hI : InLa 0 l (toY (H1 [])) := ⟨Int.le_refl _, Int.natCast_nonneg _, hl', by show 0 + (l.length - 0) ≤ 60; omega⟩
      have hk := keep_length l
      exact Fr.br_f (decide_eq_false hl) (Fr.need_ hI (Fr.need_ (by decide) (la2_eq hd (keep_plain l) (by show (keepL X0 l).length ≤ 60; omega)))))

end Go.Proofs.Ytbplccbjgfappaa
