/-
  num.Even: a times b by c, to the nearest one.
-/
import Derived.Test.YtbfcnjddddjbbaaC4
namespace Go.Proofs.Ytbfcnjddddjbbaa
open Go Go.Ab Go.RowKit Go.Proofs

noncomputable def XiN : FuncId → Option (Func × (Nat → St → Option Tr)) := envF [(34, (Try.f34, lam0))]
noncomputable def XiO : FuncId → Option (Func × (Nat → St → Option Tr)) := envF [(32, (Try.f32, lam0)), (31, (Try.f31, lam0))]
abbrev bitsL : List (FuncId × Ct) := [(35, cMul), (36, cDiv)]
theorem bitsL_ok : AllCt Try.prog bitsL := ⟨mul_ok, div_ok, trivial⟩
noncomputable def CN1 : Cx := cx bitsL []
noncomputable def CN2 : Cx := cxK bitsL [] (inlK Try.prog CN1 XiN)
noncomputable def CN3 : Cx := cxK bitsL [] (inlK Try.prog CN2 XiO)
theorem CN1_ok : CxOK Try.prog CN1 := cx_ok mixed bitsL_ok trivial
theorem XiN_ok : ∀ f fn Λ, XiN f = some (fn, Λ) → Try.prog.funcs[f]? = some fn ∧ ∀ c E', fn.body = some c → LamOK Try.prog E' Λ c 0 := fun f fn Λ h => by
  simp only [XiN, envF] at h
  split at h
  · rename_i hf
    subst hf
    cases h
    exact ⟨by kernel_rfl, fun c E' _ => lam0_ok c 0⟩
  · cases h
theorem CN2_ok : CxOK Try.prog CN2 := cxK_ok mixed bitsL_ok trivial (inlK_ok CN1_ok XiN_ok)
theorem XiO_ok : ∀ f fn Λ, XiO f = some (fn, Λ) → Try.prog.funcs[f]? = some fn ∧ ∀ c E', fn.body = some c → LamOK Try.prog E' Λ c 0 := fun f fn Λ h => by
  simp only [XiO, envF] at h
  split at h
  · rename_i hf
    subst hf
    cases h
    exact ⟨by kernel_rfl, fun c E' _ => lam0_ok c 0⟩
  · split at h
    · rename_i hf
      subst hf
      cases h
      exact ⟨by kernel_rfl, fun c E' _ => lam0_ok c 0⟩
    · cases h
theorem CN3_ok : CxOK Try.prog CN3 := cxK_ok mixed bitsL_ok trivial (inlK_ok CN2_ok XiO_ok)

def evFin (q : Int) : Fr (denL [i64, i64]) := Fr.br (decide (q > 4000000000000000000)) (Fr.val (0, 5, ())) (Fr.val (IntKind.i64.wrap q, 0, ()))
def evT (q r c : Int) : Fr (denL [i64, i64]) :=
  Fr.br (decide (q > 4000000000000000000)) (Fr.val (0, 5, ()))
    (Fr.need ((r == IntKind.u64.wrap (c - r)) = true → decide (r > IntKind.u64.wrap (c - r)) = false → (2 : Int) ≠ 0)
      (Fr.br (bif decide (r > IntKind.u64.wrap (c - r)) then true else bif r == IntKind.u64.wrap (c - r) then q.tmod 2 == 1 else false) (evFin (IntKind.u64.wrap (q + 1))) (evFin q)))
def evD (h l c : Int) : Fr (denL [i64, i64]) :=
  Fr.br (decide (h ≥ c)) (Fr.val (0, 5, ())) (Fr.need (h = 0) (Fr.need (0 < c) (evT (cDiv.f (h, l, c, ())).1 (cDiv.f (h, l, c, ())).2.1 c)))
def frEven (x : denP [.d i64, .d i64, .d i64]) : Fr (denL [i64, i64]) :=
  Fr.br (bif bif decide (x.1 < 0) then true else decide (x.2.1 < 0) then true else decide (x.2.2.1 < 0)) (Fr.val (0, 1, ()))
    (Fr.br (x.2.2.1 == 0) (Fr.val (0, 6, ()))
      (evD (cMul.f (IntKind.u64.wrap x.1, IntKind.u64.wrap x.2.1, ())).1 (cMul.f (IntKind.u64.wrap x.1, IntKind.u64.wrap x.2.1, ())).2.1 (IntKind.u64.wrap x.2.2.1)))

/-- To the nearest one, or the even one. -/
def evenQ (p c : Int) : Int := if p % c > c - p % c ∨ (p % c = c - p % c ∧ p / c % 2 = 1) then p / c + 1 else p / c
def evenF (a b c : Int) : Int × Int := if a < 0 ∨ b < 0 ∨ c < 0 then (0, 1) else if c = 0 then (0, 6) else if evenQ (a * b) c > 4000000000000000000 then (0, 5) else (evenQ (a * b) c, 0)

theorem bif3 (a b c : Bool) : (bif bif a then true else b then true else c) = (a || (b || c)) := by cases a <;> cases b <;> rfl

theorem evFin_eq {q : Int} (h : 0 ≤ q) : (evFin q).ok ∧ (evFin q).get = if q > 4000000000000000000 then (0, 5, ()) else (q, 0, ()) := by
  refine ⟨⟨fun _ => trivial, fun _ => trivial⟩, ?_⟩
  show (if decide (q > 4000000000000000000) = true then ((0 : Int), (5 : Int), ()) else (IntKind.i64.wrap q, (0 : Int), ())) = _
  by_cases hq : q > 4000000000000000000
  · rw [if_pos (by simpa using hq), if_pos hq]
  · have hw : IntKind.i64.wrap q = q := i64w (by omega)
    rw [if_neg (by simpa using hq), if_neg hq, hw]

theorem evT_eq {q r c : Int} (hr : 0 ≤ r ∧ r < c) (hc : c ≤ 9223372036854775807) (hq : 0 ≤ q) :
    (evT q r c).ok ∧ (evT q r c).get = if (if r > c - r ∨ (r = c - r ∧ q % 2 = 1) then q + 1 else q) > 4000000000000000000 then (0, 5, ()) else ((if r > c - r ∨ (r = c - r ∧ q % 2 = 1) then q + 1 else q), 0, ()) := by
  have hw : IntKind.u64.wrap (c - r) = c - r := u64w (by omega)
  have hm : q.tmod 2 = q % 2 := Int.tmod_eq_emod_of_nonneg hq
  unfold evT
  rw [hw, hm]
  by_cases h1 : q > 4000000000000000000
  · have hd : decide (q > 4000000000000000000) = true := by simpa using h1
    refine ⟨⟨fun _ => trivial, fun hb => by rw [hd] at hb; cases hb⟩, ?_⟩
    show (if decide (q > 4000000000000000000) = true then ((0 : Int), (5 : Int), ()) else _) = _
    rw [hd, if_pos rfl, if_pos]
    split <;> omega
  · have hd : decide (q > 4000000000000000000) = false := by simpa using h1
    have hcond : (bif decide (r > c - r) then true else bif r == c - r then q % 2 == 1 else false) = decide (r > c - r ∨ (r = c - r ∧ q % 2 = 1)) := by
      rw [bif_or, bif_and]
      generalize c - r = d
      rw [Bool.eq_iff_iff]
      simp
    rw [hcond]
    have hw2 : IntKind.u64.wrap (q + 1) = q + 1 := u64w (by omega)
    rw [hw2]
    have f1 := evFin_eq (q := q + 1) (by omega)
    have f2 := evFin_eq (q := q) hq
    refine ⟨⟨fun _ => trivial, fun _ => ⟨fun _ _ => by decide, fun _ => f1.1, fun _ => f2.1⟩⟩, ?_⟩
    show (if decide (q > 4000000000000000000) = true then ((0 : Int), (5 : Int), ()) else if decide (r > c - r ∨ (r = c - r ∧ q % 2 = 1)) = true then (evFin (q + 1)).get else (evFin q).get) = _
    rw [hd, if_neg (by decide), f1.2, f2.2]
    by_cases h2 : r > c - r ∨ (r = c - r ∧ q % 2 = 1)
    · simp only [h2, decide_true, if_true]
    · simp only [h2, decide_false, if_false, Bool.false_eq_true]

theorem even_plain {a b c : Int} (ha : -9223372036854775808 ≤ a ∧ a ≤ 9223372036854775807) (hb : -9223372036854775808 ≤ b ∧ b ≤ 9223372036854775807) (hc : -9223372036854775808 ≤ c ∧ c ≤ 9223372036854775807)
    (hp : 0 ≤ a → 0 ≤ b → a * b < 18446744073709551616) : (frEven (a, b, c, ())).ok ∧ (frEven (a, b, c, ())).get = ((evenF a b c).1, (evenF a b c).2, ()) := by
  unfold frEven
  simp only [bif3]
  by_cases hn : a < 0 ∨ b < 0 ∨ c < 0
  · have hd : (decide (a < 0) || (decide (b < 0) || decide (c < 0))) = true := by simpa using hn
    rw [hd]
    refine ⟨⟨fun _ => trivial, fun hx => by cases hx⟩, ?_⟩
    unfold evenF
    rw [if_pos hn]
    rfl
  · have hd : (decide (a < 0) || (decide (b < 0) || decide (c < 0))) = false := by simpa using hn
    rw [hd]
    have ha0 : 0 ≤ a := by omega
    have hb0 : 0 ≤ b := by omega
    have hc0 : 0 ≤ c := by omega
    have hab := hp ha0 hb0
    have hab0 : 0 ≤ a * b := Int.mul_nonneg ha0 hb0
    rw [show IntKind.u64.wrap a = a from u64w (by omega), show IntKind.u64.wrap b = b from u64w (by omega), show IntKind.u64.wrap c = c from u64w (by omega)]
    have e1 : (cMul.f (a, b, ())).1 = 0 := by
      show a * b / 18446744073709551616 = 0
      omega
    have e2 : (cMul.f (a, b, ())).2.1 = a * b := by
      show a * b % 18446744073709551616 = a * b
      omega
    rw [e1, e2]
    unfold evenF
    rw [if_neg hn]
    by_cases hz : c = 0
    · subst hz
      refine ⟨⟨fun hx => (by cases hx), fun _ => ⟨fun _ => trivial, fun hx => by cases hx⟩⟩, rfl⟩
    · have hz' : (c == 0) = false := by simpa using hz
      rw [if_neg hz, hz']
      have hcp : 0 < c := by omega
      have hge : decide ((0 : Int) ≥ c) = false := by simpa using hcp
      have key := evT_eq (q := a * b / c) (r := a * b % c) (c := c) ⟨Int.emod_nonneg _ (by omega), Int.emod_lt_of_pos _ hcp⟩ hc.2 (Int.ediv_nonneg hab0 hc0)
      unfold evD
      rw [hge]
      refine ⟨⟨fun hx => (by cases hx), fun _ => ⟨fun hx => (by cases hx), fun _ => ⟨fun hx => (by cases hx), fun _ => ⟨rfl, hcp, key.1⟩⟩⟩⟩, ?_⟩
      show (evT (a * b / c) (a * b % c) c).get = _
      rw [key.2]
      show _ = ((if evenQ (a * b) c > 4000000000000000000 then ((0 : Int), (5 : Int)) else (evenQ (a * b) c, 0)).1, (if evenQ (a * b) c > 4000000000000000000 then ((0 : Int), (5 : Int)) else (evenQ (a * b) c, 0)).2, ())
      unfold evenQ
      generalize (if a * b % c > c - a * b % c ∨ a * b % c = c - a * b % c ∧ a * b / c % 2 = 1 then a * b / c + 1 else a * b / c) = z
      split <;> rfl

def cEven : Ct := ⟨[.d i64, .d i64, .d i64], [i64, i64], fun x => ((evenF x.1 x.2.1 x.2.2.1).1, (evenF x.1 x.2.1 x.2.2.1).2, ()), fun x => [0 ≤ x.1 → 0 ≤ x.2.1 → x.1 * x.2.1 < 18446744073709551616]⟩

theorem even_ok : SoundCt Try.prog 26 cEven :=
  flat (ps := [.d i64, .d i64, .d i64]) (rs := [i64, i64]) CN3_ok (fn := Try.f26) (fr := frEven) (0, 0, 0, ()) (by kernel_rfl) (fun x => by kernel_rfl) _ _
    (fun w F x vs hr hok => by
      obtain ⟨a, b, c, u⟩ := x
      obtain ⟨v1, vs1, rfl, h1, v2, vs2, rfl, h2, v3, vs3, rfl, h3, _⟩ := hr
      exact even_plain (i64_of h1) (i64_of h2) (i64_of h3) hok)

end Go.Proofs.Ytbfcnjddddjbbaa
