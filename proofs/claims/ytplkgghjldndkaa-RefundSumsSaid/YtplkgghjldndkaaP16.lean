/-
  RefundBack, RefundSums: the laws' contracts.
-/
import Derived.Test.YtplkgghjldndkaaMg
namespace Go.Proofs.Ytplkgghjldndkaa
open Go Go.Ab Go.RowKit Go.Proofs

abbrev pairT : Ty := .pair i64 (.pair i64 .unit)
abbrev twoC : Ty := .pair changeT (.pair changeT .unit)
noncomputable def CLb : Cx := cx [(25, cYesR), (13, cFew), (24, cSteady), (26, cCancel), (17, cPut), (27, cDue), (28, cKeptP), (29, cGiven)] []
theorem CLb_ok : CxOK Try.prog CLb := cx_ok mixed ⟨alive15_ok, few_ok, steady_ok, cancel_ok, put_ok, due_ok, keptP_ok, given_ok, trivial⟩ trivial

theorem not_or2 {a b : Bool} : (bif !a then true else !b) = false ↔ a = true ∧ b = true := by
  cases a <;> cases b <;> simp
theorem few_c2 {b : Bool} {n : Int} (h : (bif !b then true else decide (n > 50)) = false) : b = true ∧ n ≤ 50 := by
  cases b with
  | false => cases h
  | true => exact ⟨rfl, Int.not_lt.1 (of_decide_eq_false h)⟩

/-! ### RefundBack -/

def revC (day : Int) : changeT.den := (292194, day, 4, (0, 0, 0, 0, ()), [], 0, ())
def andW (a : Int) : Int := IntKind.i64.wrap (BitVec.ofInt IntKind.i64.bits a &&& BitVec.ofInt IntKind.i64.bits 1).toNat
def frBk2 (a b k : Int × Int) : Fr (denL [.bool]) :=
  Fr.val (bif bif bif bif true then a.1 == b.1 else false then a.2 == b.2 else false then k.1 == 0 else false then (bif k.2 == 0 then true else a.2 != 0) else false, ())
def frBk1 (h y : histT.den) (t : tarT.den) : Fr (denL [.bool]) :=
  Fr.need (fewH h) (Fr.need (fewT t) (Fr.need (fewH y) (Fr.need (fewT t) (Fr.need (fewH y) (Fr.need (fewT t) (frBk2 (dueF h t) (dueF y t) (keptF y t)))))))
def frBack (x : denP [.d histT, .d tarT, .d pairT]) : Fr (denL [.bool]) :=
  let h : histT.den := x.1; let t : tarT.den := x.2.1; let z0 : Int := x.2.2.1.1; let z1 : Int := x.2.2.1.2.1
  let p : histT.den × Int := putF h (canC 292194 z0 (andW z1)); let q : histT.den × Int := putF p.1 (revC z0)
  Fr.br (bif !(cFew.f (h, t, ())).1 then true else !(cSteady.f (h, ())).1) (Fr.val (true, ()))
    (Fr.need ((0 : Int) ≤ 0 ∧ (0 : Int) < ((2 : Nat) : Int)) (Fr.need ((0 : Int) ≤ 1 ∧ (1 : Int) < ((2 : Nat) : Int)) (Fr.need (fewH h) (
      (Fr.need ((0 : Int) ≤ 0 ∧ (0 : Int) < ((2 : Nat) : Int)) (Fr.need (fewH p.1) (
        (Fr.br (bif p.2 != 0 then true else q.2 != 0) (Fr.val (true, ())) (frBk1 h q.1 t)))))))))
theorem back_run : SoundCt Try.prog 8 ⟨[.d histT, .d tarT, .d pairT], [.bool], fun xs => (frBack xs).get, fun xs => [(frBack xs).ok]⟩ :=
  fn_sound CLb_ok (Λ := lam0) (fn := Try.f8) (fr := frBack) (ps := [.d histT, .d tarT, .d pairT]) (rs := [.bool]) (histT.dflt, tarT.dflt, (0, 0, ()), ()) (by kernel_rfl) (fun c E _ => lam0_ok c 0) (fun x => by kernel_rfl)

theorem back_hist {h : histT.den} {c r : changeT.den} (hc : changeB c = true ∧ inB h.2.2.1.1.1 h.2.2.1.1.2.1 c.2.1 = true) (hr : changeB r = true ∧ inB h.2.2.1.1.1 h.2.2.1.1.2.1 r.2.1 = true) (hl : (chL h).length + 2 ≤ 2000) :
    histB (addCh (addCh h c) r) = histB h := by
  have key : histB (addCh (addCh h c) r) = true ↔ histB h = true := by
    rw [histB_iff, histB_iff]
    have e : chL (addCh (addCh h c) r) = chL h ++ [c] ++ [r] := by rw [chL_add, chL_add]
    have e2 : (addCh (addCh h c) r).2.2.2.1 = chL h ++ [c] ++ [r] := e
    have e3 : (addCh (addCh h c) r).2.2.1 = h.2.2.1 := rfl
    have e4 : h.2.2.2.1 = chL h := rfl
    rw [e, e2, e3, e4]
    constructor
    · rintro ⟨h1, _, h3⟩
      exact ⟨h1, by omega, fun x hx => h3 x (by simp [hx])⟩
    · rintro ⟨h1, _, h3⟩
      refine ⟨h1, by simp; omega, fun x hx => ?_⟩
      simp only [List.mem_append, List.mem_singleton] at hx
      rcases hx with (hx | rfl) | rfl
      · exact h3 x hx
      · exact hc
      · exact hr
  cases ha : histB h with
  | true => exact key.2 ha
  | false =>
    cases hb : histB (addCh (addCh h c) r) with
    | false => rfl
    | true => rw [key.1 hb] at ha; cases ha

theorem back_core {h : histT.den} (t : tarT.den) {c r : changeT.den} (hs : steadyB h = true) (kc : c.2.2.1 = 3) (kr : r.2.2.1 = 4) (hd : r.2.1 = c.2.1) (hc : changeB c = true ∧ inB h.2.2.1.1.1 h.2.2.1.1.2.1 c.2.1 = true)
    (hr : changeB r = true ∧ inB h.2.2.1.1.1 h.2.2.1.1.2.1 r.2.1 = true) (hl : (chL h).length + 2 ≤ 2000) :
    ofF (addCh (addCh h c) r) t = ofF h t ∧ keptF (addCh (addCh h c) r) t = (0, (ofF h t).2) := by
  have hB := back_hist hc hr hl
  have hst : ∀ d, stOf (addCh (addCh h c) r) d = stOf h d := fun d => st_back hs kc kr hd d
  have hof : ofF (addCh (addCh h c) r) t = ofF h t := by
    cases hh : histB h with
    | false =>
      unfold ofF
      rw [hB, hh]
      rfl
    | true =>
      have r1 : Runs (stOf h) h.2.2.1.1.2.1 h.2.2.1.1.1 (cutL h) := cutL_runs hh
      have r2 : Runs (stOf (addCh (addCh h c) r)) h.2.2.1.1.2.1 h.2.2.1.1.1 (cutL (addCh (addCh h c) r)) := cutL_runs (hB.trans hh)
      have hcut : cutL (addCh (addCh h c) r) = cutL h := Runs.uniq (r2.congr (fun d _ _ => hst d)) r1
      unfold ofF
      rw [hB, hcut]
      rfl
  refine ⟨hof, ?_⟩
  have hT : isT r = true := by unfold isT; rw [kr]; rfl
  have hlast : (turnO (addCh (addCh h c) r)).map (chAt (addCh (addCh h c) r)) = some r := by
    rw [turnO_last, chsO_add, show [r] ++ behL r.2.1 (chsO (addCh h c)) = r :: behL r.2.1 (chsO (addCh h c)) from rfl]
    refine lastT_mid hT fun x hx => ?_
    have hm := (List.mem_filter.1 hx).1
    have hlt := behL_lt x hx
    rw [chsO_add] at hm
    rcases List.mem_append.1 hm with hm | hm
    · exact steady_ord hs x (List.mem_filter.1 hm).1
    · rcases List.mem_append.1 hm with hm | hm
      · exfalso
        rw [List.mem_singleton.1 hm, hd] at hlt
        exact Int.lt_irrefl _ hlt
      · exact steady_ord hs x (List.mem_filter.1 hm).1
  unfold keptF
  rw [hof]
  by_cases c0 : (ofF h t).2 = 0
  · rw [if_pos c0, c0]
    cases ho : turnO (addCh (addCh h c) r) with
    | none => rfl
    | some a =>
      rw [ho] at hlast
      have ha : chAt (addCh (addCh h c) r) a = r := Option.some.inj hlast
      show keptA _ _ a = _
      unfold keptA
      rw [ha, if_neg (fun hh => by rw [kr] at hh; exact absurd hh.1 (by decide))]
  · rw [if_neg c0]

theorem lawBack_ok : SoundCt Try.prog 8 (cLawR [.d histT, .d tarT, .d pairT]) :=
  convF back_run _ _ (fun _ _ x _ _ _ => by
    obtain ⟨h, t, ⟨z0, z1, _⟩, _⟩ := x
    cases hc : (bif !(fewB h t) then true else !(steadyB h)) with
    | true => exact Fr.br_t hc ⟨trivial, rfl⟩
    | false =>
      obtain ⟨hf, hs⟩ := not_or2.1 hc
      obtain ⟨f1, f2⟩ := fewB_fewH hf
      have i0 : (0 : Int) ≤ 0 ∧ (0 : Int) < ((2 : Nat) : Int) := by decide
      have i1 : (0 : Int) ≤ 1 ∧ (1 : Int) < ((2 : Nat) : Int) := by decide
      have fp : fewH (putF h (canC 292194 z0 (andW z1))).1 := put_few f1
      refine Fr.br_f hc (Fr.need_ i0 (Fr.need_ i1 (Fr.need_ f1 (Fr.need_ i0 (Fr.need_ fp ?_)))))
      by_cases p0 : (putF h (canC 292194 z0 (andW z1))).2 = 0
      · obtain ⟨a1, a2, a3, a4⟩ := putF_ok p0
        by_cases q0 : (putF (putF h (canC 292194 z0 (andW z1))).1 (revC z0)).2 = 0
        · obtain ⟨b1, b2, b3, b4⟩ := putF_ok q0
          refine Fr.br_f (by show (bif (putF h (canC 292194 z0 (andW z1))).2 != 0 then true else (putF (putF h (canC 292194 z0 (andW z1))).1 (revC z0)).2 != 0) = false; rw [p0, q0]; rfl) ?_
          rw [a4] at b2 b3 b4
          have fq : fewH (putF (putF h (canC 292194 z0 (andW z1))).1 (revC z0)).1 := put_few fp
          show (frBk1 h (putF (putF h (canC 292194 z0 (andW z1))).1 (revC z0)).1 t).ok ∧ _
          refine Fr.need_ f1 (Fr.need_ f2 (Fr.need_ fq (Fr.need_ f2 (Fr.need_ fq (Fr.need_ f2 ⟨trivial, ?_⟩)))))
          rw [chL_add, List.length_append] at b3
          simp only [List.length_cons, List.length_nil] at b3
          obtain ⟨k1, k2⟩ := back_core t (c := canC 292194 z0 (andW z1)) (r := revC z0) hs rfl rfl rfl ⟨a1, a2⟩ ⟨b1, b2⟩ (by omega)
          have hk : keptF h t = (0, (ofF h t).2) := keptF_steady t hs
          have hdue : dueF (addCh (addCh h (canC 292194 z0 (andW z1))) (revC z0)) t = dueF h t := by
            unfold dueF
            rw [k1, k2, hk]
          have e : (putF (putF h (canC 292194 z0 (andW z1))).1 (revC z0)).1 = addCh (addCh h (canC 292194 z0 (andW z1))) (revC z0) := by
            rw [a4]
            exact b4
          show (bif bif bif bif true then (dueF h t).1 == (dueF (putF (putF h (canC 292194 z0 (andW z1))).1 (revC z0)).1 t).1 else false then (dueF h t).2 == (dueF (putF (putF h (canC 292194 z0 (andW z1))).1 (revC z0)).1 t).2 else false then (keptF (putF (putF h (canC 292194 z0 (andW z1))).1 (revC z0)).1 t).1 == 0 else false then (bif (keptF (putF (putF h (canC 292194 z0 (andW z1))).1 (revC z0)).1 t).2 == 0 then true else (dueF h t).2 != 0) else false, ()) = (true, ())
          rw [e, hdue, k2]
          by_cases o0 : (ofF h t).2 = 0
          · rw [o0]
            simp
          · have hne : (dueF h t).2 ≠ 0 := fun hh => o0 (due_told hh).2.1
            simp [hne]
        · exact Fr.br_t (by show (bif (putF h (canC 292194 z0 (andW z1))).2 != 0 then true else (putF (putF h (canC 292194 z0 (andW z1))).1 (revC z0)).2 != 0) = true; rw [p0]; simp [q0]) ⟨trivial, rfl⟩
      · exact Fr.br_t (by show (bif (putF h (canC 292194 z0 (andW z1))).2 != 0 then true else (putF (putF h (canC 292194 z0 (andW z1))).1 (revC z0)).2 != 0) = true; simp [p0]) ⟨trivial, rfl⟩)

/-! ### RefundSums -/

def frSu3 (h : histT.den) (t : tarT.den) (c d : changeT.den) : Fr (denL [.bool]) :=
  let p : histT.den × Int := putF h c; let q : histT.den × Int := putF p.1 d; let a : Int × Int := givenF h t c; let b : Int × Int := givenF p.1 t d
  Fr.br (bif bif bif p.2 != 0 then true else q.2 != 0 then true else a.2 != 0 then true else b.2 != 0)
    (Fr.val (bif true then (bif p.2 == 0 then true else a.2 == p.2) else false, ()))
    (Fr.need (fewH h) (Fr.need (fewT t) (Fr.need (fewH q.1) (Fr.need (fewT t)
      (Fr.val (bif bif bif true then (dueF h t).2 == 0 else false then (dueF q.1 t).2 == 0 else false then IntKind.i64.wrap (a.1 + b.1) == IntKind.i64.wrap ((dueF h t).1 - (dueF q.1 t).1) else false, ()))))))
def frSums (x : denP [.d histT, .d tarT, .d twoC]) : Fr (denL [.bool]) :=
  let h : histT.den := x.1; let t : tarT.den := x.2.1; let c : changeT.den := x.2.2.1.1; let d : changeT.den := x.2.2.1.2.1
  let p : histT.den × Int := putF h c
  Fr.br (bif !(cFew.f (h, t, ())).1 then true else decide (IntKind.i64.wrap ((List.length (α := coverT.den) c.2.2.2.2.1 : Int) + (List.length (α := coverT.den) d.2.2.2.2.1 : Int)) > 50)) (Fr.val (true, ()))
    (Fr.need (fewH h) ((Fr.need (fewH p.1) (
      (Fr.need (fewH h) (Fr.need (fewT t) (
        (Fr.need (fewH p.1) (Fr.need (fewT t) ((frSu3 h t c d)))))))))))
theorem sums_run : SoundCt Try.prog 9 ⟨[.d histT, .d tarT, .d twoC], [.bool], fun xs => (frSums xs).get, fun xs => [(frSums xs).ok]⟩ :=
  fn_sound CLb_ok (Λ := lam0) (fn := Try.f9) (fr := frSums) (ps := [.d histT, .d tarT, .d twoC]) (rs := [.bool]) (histT.dflt, tarT.dflt, (changeT.dflt, changeT.dflt, ()), ()) (by kernel_rfl) (fun c E _ => lam0_ok c 0) (fun x => by kernel_rfl)

theorem su3_eq {h : histT.den} {t : tarT.den} {c d : changeT.den} (f1 : fewH h) (f2 : fewT t) (fq : fewH (putF (putF h c).1 d).1) : (frSu3 h t c d).ok ∧ (frSu3 h t c d).get = (true, ()) := by
  by_cases p0 : (putF h c).2 = 0
  · cases hb : (bif bif bif (putF h c).2 != 0 then true else (putF (putF h c).1 d).2 != 0 then true else (givenF h t c).2 != 0 then true else (givenF (putF h c).1 t d).2 != 0) with
    | true =>
      refine Fr.br_t hb ⟨trivial, ?_⟩
      show (bif true then (bif (putF h c).2 == 0 then true else (givenF h t c).2 == (putF h c).2) else false, ()) = (true, ())
      rw [p0]
      rfl
    | false =>
      have h2 : (givenF h t c).2 = 0 ∧ (givenF (putF h c).1 t d).2 = 0 := by
        rw [p0] at hb
        by_cases q0 : (putF (putF h c).1 d).2 = 0
        · by_cases a0 : (givenF h t c).2 = 0
          · by_cases b0 : (givenF (putF h c).1 t d).2 = 0
            · exact ⟨a0, b0⟩
            · simp [q0, a0, b0] at hb
          · simp [q0, a0] at hb
        · simp [q0] at hb
      obtain ⟨_, d1, d2, v1⟩ := given_told h2.1
      obtain ⟨_, _, d3, v2⟩ := given_told h2.2
      have b1 := dueF_val h t
      have b2 := dueF_val (putF h c).1 t
      have b3 := dueF_val (putF (putF h c).1 d).1 t
      refine Fr.br_f hb (Fr.need_ f1 (Fr.need_ f2 (Fr.need_ fq (Fr.need_ f2 ⟨trivial, ?_⟩))))
      show (bif bif bif true then (dueF h t).2 == 0 else false then (dueF (putF (putF h c).1 d).1 t).2 == 0 else false then IntKind.i64.wrap ((givenF h t c).1 + (givenF (putF h c).1 t d).1) == IntKind.i64.wrap ((dueF h t).1 - (dueF (putF (putF h c).1 d).1 t).1) else false, ()) = (true, ())
      have e : (givenF h t c).1 + (givenF (putF h c).1 t d).1 = (dueF h t).1 - (dueF (putF (putF h c).1 d).1 t).1 := by
        rw [v1, v2]
        omega
      rw [d1, d3, e]
      simp
  · refine Fr.br_t (by show (bif bif bif (putF h c).2 != 0 then true else _ then true else _ then true else _) = true; simp [p0]) ⟨trivial, ?_⟩
    show (bif true then (bif (putF h c).2 == 0 then true else (givenF h t c).2 == (putF h c).2) else false, ()) = (true, ())
    have e : (givenF h t c).2 = (putF h c).2 := by
      unfold givenF
      rw [if_neg p0]
    rw [e]
    simp

theorem lawSums_ok : SoundCt Try.prog 9 (cLawR [.d histT, .d tarT, .d twoC]) :=
  convF sums_run _ _ (fun _ _ x vs hr _ => by
    obtain ⟨h, t, ⟨c, d, u⟩, _⟩ := x
    cases hc : (bif !(fewB h t) then true else decide (IntKind.i64.wrap ((List.length (α := coverT.den) c.2.2.2.2.1 : Int) + (List.length (α := coverT.den) d.2.2.2.2.1 : Int)) > 50)) with
    | true => exact Fr.br_t hc ⟨trivial, rfl⟩
    | false =>
      obtain ⟨hf, _⟩ := few_c2 hc
      obtain ⟨f1, f2⟩ := fewB_fewH hf
      have fp : fewH (putF h c).1 := put_few f1
      have fq : fewH (putF (putF h c).1 d).1 := put_few fp
      refine Fr.br_f hc (Fr.need_ f1 (Fr.need_ fp (Fr.need_ f1 (Fr.need_ f2 (Fr.need_ fp (Fr.need_ f2 ?_))))))
      exact su3_eq f1 f2 fq)

end Go.Proofs.Ytplkgghjldndkaa
