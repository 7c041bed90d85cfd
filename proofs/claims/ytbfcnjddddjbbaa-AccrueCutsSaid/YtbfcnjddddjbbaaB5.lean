/-
  Which steps may be.
-/
import Derived.Test.YtbfcnjddddjbbaaB4
namespace Go.Proofs.Ytbfcnjddddjbbaa
open Go Go.Ab Go.RowKit Go.Proofs

/-- Days rise, values change. -/
def rises : List Int → List Int → Int → Int → Bool
  | d :: l, v :: r, day, last => (decide (day < d) && (decide (d ≤ 292194) && (!(v == last) && money v))) && rises l r d v
  | _, _, _, _ => true

abbrev ptR : Pt := ⟨48, 0, ⟨[(18, .d i64), (17, .d i64), (16, .d ints), (3, .d i64), (4, .d i64)], [.x 1 45 stepT, .r 1 1 0]⟩, ⟨[], []⟩, ⟨[(2, .d .bool)], []⟩⟩

def frR (x : ptR.M.X) : Fr ptR.Out :=
  Fr.br (decide (x.1.1 < x.1.2.1))
    (Fr.need (0 ≤ x.1.1 ∧ x.1.1 < x.1.2.2.1.length)
      (Fr.need (0 ≤ x.1.1 ∧ x.1.1 < x.2.1.2.1.length)
        (Fr.br
          (bif bif bif decide (x.1.2.2.1.getD x.1.1.toNat i64.dflt ≤ x.1.2.2.2.1) then true else decide (x.1.2.2.1.getD x.1.1.toNat i64.dflt > 292194) then true
              else x.2.1.2.1.getD x.1.1.toNat i64.dflt == x.1.2.2.2.2.1 then true
            else !(cMoney.f (x.2.1.2.1.getD x.1.1.toNat i64.dflt, ())).1)
          (Fr.val (Rd.back ((false, ()), ())))
          (Fr.val (Rd.next ((IntKind.i64.wrap (x.1.1 + 1), x.1.2.1, x.1.2.2.1, x.1.2.2.1.getD x.1.1.toNat i64.dflt, x.2.1.2.1.getD x.1.1.toNat i64.dflt, ()), (x.2.1.1, x.2.1.2.1, ()), ()))))))
    (Fr.val (Rd.out ((), ())))

theorem semR : Does Try.prog (loopOf Try.f16 0) ptR.M ptR frR :=
  Does.of_run C3_ok (bs := 0) (Λ := noΛ) rfl rfl rfl (fun E => noΛ_ok _ 0) (fun x => by kernel_rfl)

theorem not_true_of {b : Bool} (h : (!b) = true) : b = false := by cases b <;> first | rfl | cases h
theorem not_false_of {b : Bool} (h : (!b) = false) : b = true := by cases b <;> first | rfl | cases h

structure InvR (i n : Int) (l at_ val : List Int) : Prop where
  same : l = at_
  len : n = l.length
  both : at_.length = val.length
  lo : 0 ≤ i
  hi : i ≤ n
  big : (l.length : Int) ≤ 9223372036854775807

def FR (x : ptR.M.X) : Fr ptR.Out :=
  Fr.need (InvR x.1.1 x.1.2.1 x.1.2.2.1 x.2.1.1 x.2.1.2.1)
    (Fr.br (rises (x.1.2.2.1.drop x.1.1.toNat) (x.2.1.2.1.drop x.1.1.toNat) x.1.2.2.2.1 x.1.2.2.2.2.1) (Fr.val (Rd.out ((), ()))) (Fr.val (Rd.back ((false, ()), ()))))

theorem lawR (i n : Int) (l : List Int) (d v : Int) (at_ val : List Int) (hinv : InvR i n l at_ val) (Q : ptR.Out → Prop)
    (hq : (Fr.br (rises (l.drop i.toNat) (val.drop i.toNat) d v) (Fr.val (Rd.out ((), ()))) (Fr.val (Rd.back ((false, ()), ()))) : Fr ptR.Out).satP Q) :
    (frR ((i, n, l, d, v, ()), (at_, val, ()), ())).satP fun
      | .next x' => InvR x'.1.1 x'.1.2.1 x'.1.2.2.1 x'.2.1.1 x'.2.1.2.1 ∧ (x'.1.2.1 - x'.1.1).toNat < (n - i).toNat ∧ (FR x').satP Q
      | .out y => Q (.out y)
      | .back z => Q (.back z)
      | .pan p => Q (.pan p) := by
  obtain ⟨rfl, rfl, h3, h4, h5, h6⟩ := hinv
  refine ⟨fun hi => ?_, fun hi => ?_⟩
  · have hi' : i < l.length := by simpa using hi
    have hl : i.toNat < l.length := by omega
    have hv : i.toNat < val.length := by omega
    have e1 : l.drop i.toNat = l[i.toNat] :: l.drop (i.toNat + 1) := List.drop_eq_getElem_cons hl
    have e2 : val.drop i.toNat = val[i.toNat] :: val.drop (i.toNat + 1) := List.drop_eq_getElem_cons hv
    have g1 : l.getD i.toNat i64.dflt = l[i.toNat] := by rw [List.getD_eq_getElem?_getD, List.getElem?_eq_getElem hl]; rfl
    have g2 : val.getD i.toNat i64.dflt = val[i.toNat] := by rw [List.getD_eq_getElem?_getD, List.getElem?_eq_getElem hv]; rfl
    rw [e1, e2] at hq
    generalize hx : l[i.toNat] = x at *
    generalize hy : val[i.toNat] = y at *
    have hw : IntKind.i64.wrap (i + 1) = i + 1 := IntWalk.i64_in _ (by omega)
    have hn : (i + 1).toNat = i.toNat + 1 := by omega
    refine ⟨⟨h4, hi'⟩, ⟨h4, by show i < (val.length : Int); omega⟩, ?_⟩
    show ((bif bif bif decide (l.getD i.toNat i64.dflt ≤ d) then true else decide (l.getD i.toNat i64.dflt > 292194) then true else val.getD i.toNat i64.dflt == v then true else !(money (val.getD i.toNat i64.dflt))) = true → Q (Rd.back ((false, ()), ()))) ∧
      ((bif bif bif decide (l.getD i.toNat i64.dflt ≤ d) then true else decide (l.getD i.toNat i64.dflt > 292194) then true else val.getD i.toNat i64.dflt == v then true else !(money (val.getD i.toNat i64.dflt))) = false →
        InvR (IntKind.i64.wrap (i + 1)) l.length l l val ∧ ((l.length : Int) - IntKind.i64.wrap (i + 1)).toNat < ((l.length : Int) - i).toNat ∧
          (FR ((IntKind.i64.wrap (i + 1), (l.length : Int), l, l.getD i.toNat i64.dflt, val.getD i.toNat i64.dflt, ()), (l, val, ()), ())).satP Q)
    rw [g1, g2, hw]
    have hcond : (bif bif bif decide (x ≤ d) then true else decide (x > 292194) then true else y == v then true else !(money y)) = !(decide (d < x) && (decide (x ≤ 292194) && (!(y == v) && money y))) := by
      have a1 : decide (x ≤ d) = !decide (d < x) := by by_cases h : x ≤ d <;> simp [h] <;> omega
      have a2 : decide (x > 292194) = !decide (x ≤ 292194) := by by_cases h : x ≤ 292194 <;> simp [h] <;> omega
      rw [a1, a2]
      cases decide (d < x) <;> cases decide (x ≤ 292194) <;> cases (y == v) <;> cases money y <;> rfl
    rw [hcond]
    have hri : rises (x :: l.drop (i.toNat + 1)) (y :: val.drop (i.toNat + 1)) d v = ((decide (d < x) && (decide (x ≤ 292194) && (!(y == v) && money y))) && rises (l.drop (i.toNat + 1)) (val.drop (i.toNat + 1)) x y) := rfl
    rw [hri] at hq
    refine ⟨fun hb => ?_, fun hb => ?_⟩
    · have hb' : (decide (d < x) && (decide (x ≤ 292194) && (!(y == v) && money y))) = false := not_true_of hb
      rw [hb'] at hq
      exact hq.2 rfl
    · have hb' : (decide (d < x) && (decide (x ≤ 292194) && (!(y == v) && money y))) = true := not_false_of hb
      rw [hb', Bool.true_and] at hq
      have hI : InvR (i + 1) l.length l l val := ⟨rfl, rfl, h3, by omega, by omega, h6⟩
      refine ⟨hI, by omega, hI, ?_⟩
      show (Fr.br (rises (l.drop (i + 1).toNat) (val.drop (i + 1).toNat) x y) (Fr.val (Rd.out ((), ()))) (Fr.val (Rd.back ((false, ()), ()))) : Fr ptR.Out).satP Q
      rw [hn]
      exact hq
  · have hi' : ¬ i < l.length := by simpa using hi
    have hl : l.drop i.toNat = [] := List.drop_eq_nil_of_le (by omega)
    rw [hl] at hq
    exact hq.1 rfl

theorem loopR : Does Try.prog (.loop (loopOf Try.f16 0)) ptR.M ptR FR := by
  refine Does.loop (n := 48) (id := 0) semR (inv := fun x => InvR x.1.1 x.1.2.1 x.1.2.2.1 x.2.1.1 x.2.1.2.1) (μ := fun x => (x.1.2.1 - x.1.1).toNat) ?_ (fun x Q h => h.1)
  rintro ⟨⟨i, n, l, d, v, _⟩, ⟨at_, val, _⟩, _⟩ hinv Q hq
  exact lawR i n l d v at_ val hinv Q hq.2

def ΛR : Nat → St → Option Tr := fun _ => ptR.han Γ3 ptR.M FR

def frRt (x : denP [.d stepT]) : Fr (denL [.bool]) :=
  Fr.br ((x.1.1.length : Int) != (x.1.2.1.length : Int)) (Fr.val (false, ()))
    (Fr.need (InvR 0 x.1.1.length x.1.1 x.1.1 x.1.2.1)
      (Fr.br (rises (x.1.1.drop (Int.toNat 0)) (x.1.2.1.drop (Int.toNat 0)) 0 0) (Fr.val (true, ())) (Fr.val (false, ()))))

theorem right_fr : SoundCt Try.prog 16 ⟨[.d stepT], [.bool], fun xs => (frRt xs).get, fun xs => [(frRt xs).ok]⟩ :=
  fn_sound C3_ok (Λ := ΛR) (fn := Try.f16) (([], [], ()), ()) (by kernel_rfl) (fun c E hc => lam_one hc (by kernel_rfl) (b := loopOf Try.f16 0) (by kernel_rfl) (Does.han C3_ok rfl loopR)) (fun xs => by kernel_rfl)

/-- Steps that may be. -/
def rightSt (f : stepT.den) : Bool := decide (f.1.length = f.2.1.length) && rises f.1 f.2.1 0 0

def cRight : Ct := ⟨[.d stepT], [.bool], fun x => (rightSt x.1, ()), fun _ => []⟩

theorem right_ok : SoundCt Try.prog 16 cRight :=
  conv right_fr _ _ fun w F xs vs hr _ => by
    obtain ⟨⟨at_, val, _⟩, _⟩ := xs
    obtain ⟨v, vs', rfl, hv, _⟩ := hr
    have hwf := RepT.wf hv.2.2
    have hlen : (at_.length : Int) ≤ 9223372036854775807 := by
      have := hwf.1.1
      simp only [maxLen] at this
      omega
    by_cases hl : at_.length = val.length
    · have hne : ((at_.length : Int) != (val.length : Int)) = false := by simp [hl]
      refine ⟨⟨fun hb => ?_, fun _ => ⟨⟨rfl, rfl, hl, Int.le_refl _, by omega, hlen⟩, ⟨fun _ => trivial, fun _ => trivial⟩⟩⟩, ?_⟩
      · trivial
      · show (if ((at_.length : Int) != (val.length : Int)) = true then (false, ()) else if rises at_ val 0 0 = true then (true, ()) else (false, ())) = (decide (at_.length = val.length) && rises at_ val 0 0, ())
        rw [hne, decide_eq_true hl]
        cases rises at_ val 0 0 <;> rfl
    · have hne : ((at_.length : Int) != (val.length : Int)) = true := by simp; omega
      refine ⟨⟨fun _ => trivial, fun hb => ?_⟩, ?_⟩
      · have hb' : ((at_.length : Int) != (val.length : Int)) = false := hb
        rw [hne] at hb'
        cases hb'
      · show (if ((at_.length : Int) != (val.length : Int)) = true then (false, ()) else _) = (decide (at_.length = val.length) && rises at_ val 0 0, ())
        rw [hne, decide_eq_false hl]
        rfl

end Go.Proofs.Ytbfcnjddddjbbaa
