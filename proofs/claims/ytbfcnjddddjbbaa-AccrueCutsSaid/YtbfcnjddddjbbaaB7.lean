/-
  Parts of a span.
-/
import Derived.Test.YtbfcnjddddjbbaaB6
namespace Go.Proofs.Ytbfcnjddddjbbaa
open Go Go.Ab Go.RowKit Go.Proofs

def Γ5 : FuncId → Option Ct := fun f => if f = 22 then some cMany else none
def C5 : Cx := ⟨Γ5, fun _ => none, fun _ _ _ _ => none⟩
theorem C5_ok : CxOK Try.prog C5 := onlyCt fun f ct h => by
  simp only [Γ5] at h
  split at h
  · rename_i hf; subst hf; cases h; exact many_ok
  · cases h

/-- The first cut behind a day, ahead of nx. -/
def nextCut (frm : Int) : List Int → Int → Int
  | [], nx => nx
  | a :: l, nx => nextCut frm l (if decide (a > frm) && decide (a < nx) then a else nx)

abbrev ptI : Pt := ⟨48, 2, ⟨[(1, .d ints), (6, .d i64), (7, .d i64)], [.o 5 31 spanT, .x 2 31 spanT, .r 2 2 0]⟩, ⟨[(1, .d ints), (6, .d i64)], [.o 5 31 spanT, .x 2 31 spanT, .r 2 2 0]⟩, ⟨[], []⟩⟩
noncomputable def innerI : Code := (bodyOf (loopOf Try.f12 0) 0).getD .skip

def frI (x : ptI.M.X) : Fr ptI.Out :=
  let l := x.1.1
  let nx := x.1.2.1
  let k := x.1.2.2.1
  let out := x.2.1
  let s := x.2.2.1
  Fr.br (decide (k < l.length))
    (Fr.need (0 ≤ k ∧ k < l.length)
      (Fr.need (decide (l.getD k.toNat i64.dflt > s.1) = true → 0 ≤ k ∧ k < l.length)
        (Fr.br (bif decide (l.getD k.toNat i64.dflt > s.1) then decide (l.getD k.toNat i64.dflt < nx) else false)
          (Fr.need (0 ≤ k ∧ k < l.length)
            (Fr.val (Rd.next ((l, l.getD k.toNat i64.dflt, IntKind.i64.wrap (k + 1), ()), out, (s.1, s.2.1, ()), ()))))
          (Fr.val (Rd.next ((l, nx, IntKind.i64.wrap (k + 1), ()), out, (s.1, s.2.1, ()), ()))))))
    (Fr.val (Rd.out ((l, nx, ()), out, (s.1, s.2.1, ()), ())))

theorem semI : Does Try.prog innerI ptI.M ptI frI :=
  Does.of_run C5_ok (bs := 0) (Λ := noΛ) rfl rfl rfl (fun E => noΛ_ok _ 0) (fun x => by kernel_rfl)

theorem two (a b : Bool) : (bif a then b else false) = (a && b) := by cases a <;> rfl

def InvI (l : List Int) (k : Int) : Prop := 0 ≤ k ∧ k ≤ l.length ∧ (l.length : Int) ≤ 9223372036854775807

def FI (x : ptI.M.X) : Fr ptI.Out :=
  Fr.need (InvI x.1.1 x.1.2.2.1) (Fr.val (Rd.out ((x.1.1, nextCut x.2.2.1.1 (x.1.1.drop x.1.2.2.1.toNat) x.1.2.1, ()), x.2.1, x.2.2.1, ())))

theorem lawI (l : List Int) (nx k : Int) (out : List spanT.den) (a b : Int) (hinv : InvI l k) (Q : ptI.Out → Prop)
    (hq : Q (Rd.out ((l, nextCut a (l.drop k.toNat) nx, ()), out, (a, b, ()), ()))) :
    (frI ((l, nx, k, ()), out, (a, b, ()), ())).satP fun
      | .next x' => InvI x'.1.1 x'.1.2.2.1 ∧ ((x'.1.1.length : Int) - x'.1.2.2.1).toNat < ((l.length : Int) - k).toNat ∧ (FI x').satP Q
      | .out y => Q (.out y)
      | .back z => Q (.back z)
      | .pan p => Q (.pan p) := by
  obtain ⟨h1, h2, h3⟩ := hinv
  refine ⟨fun hi => ?_, fun hi => ?_⟩
  · have hi' : k < l.length := by simpa using hi
    have hl : k.toNat < l.length := by omega
    have e1 : l.drop k.toNat = l[k.toNat] :: l.drop (k.toNat + 1) := List.drop_eq_getElem_cons hl
    have g1 : l.getD k.toNat i64.dflt = l[k.toNat] := by rw [List.getD_eq_getElem?_getD, List.getElem?_eq_getElem hl]; rfl
    rw [e1] at hq
    generalize hx : l[k.toNat] = x at *
    have hw : IntKind.i64.wrap (k + 1) = k + 1 := IntWalk.i64_in _ (by omega)
    have hn : (k + 1).toNat = k.toNat + 1 := by omega
    have hI : InvI l (k + 1) := ⟨by omega, by omega, h3⟩
    have hstep : nextCut a (x :: l.drop (k.toNat + 1)) nx = nextCut a (l.drop (k + 1).toNat) (if decide (x > a) && decide (x < nx) then x else nx) := by rw [hn]; rfl
    rw [hstep] at hq
    refine ⟨⟨h1, hi'⟩, fun _ => ⟨h1, hi'⟩, fun hb => ⟨⟨h1, hi'⟩, ?_⟩, fun hb => ?_⟩
    · have hb' : (bif decide (l.getD k.toNat i64.dflt > a) then decide (l.getD k.toNat i64.dflt < nx) else false) = true := hb
      rw [g1] at hb'
      have hc : (decide (x > a) && decide (x < nx)) = true := by rw [← two]; exact hb'
      rw [hc] at hq
      show InvI l (IntKind.i64.wrap (k + 1)) ∧ ((l.length : Int) - IntKind.i64.wrap (k + 1)).toNat < ((l.length : Int) - k).toNat ∧ (FI ((l, l.getD k.toNat i64.dflt, IntKind.i64.wrap (k + 1), ()), out, (a, b, ()), ())).satP Q
      rw [hw, g1]
      exact ⟨hI, by omega, hI, hq⟩
    · have hb' : (bif decide (l.getD k.toNat i64.dflt > a) then decide (l.getD k.toNat i64.dflt < nx) else false) = false := hb
      rw [g1] at hb'
      have hc : (decide (x > a) && decide (x < nx)) = false := by rw [← two]; exact hb'
      rw [hc] at hq
      show InvI l (IntKind.i64.wrap (k + 1)) ∧ ((l.length : Int) - IntKind.i64.wrap (k + 1)).toNat < ((l.length : Int) - k).toNat ∧ (FI ((l, nx, IntKind.i64.wrap (k + 1), ()), out, (a, b, ()), ())).satP Q
      rw [hw]
      exact ⟨hI, by omega, hI, hq⟩
  · have hi' : ¬ k < l.length := by simpa using hi
    have hl : l.drop k.toNat = [] := List.drop_eq_nil_of_le (by omega)
    rw [hl] at hq
    exact hq

theorem loopI : Does Try.prog (.loop innerI) ptI.M ptI FI := by
  refine Does.loop (n := 48) (id := 2) semI (inv := fun x => InvI x.1.1 x.1.2.2.1) (μ := fun x => ((x.1.1.length : Int) - x.1.2.2.1).toNat) ?_ (fun x Q h => h.1)
  rintro ⟨⟨l, nx, k, _⟩, out, ⟨a, b, _⟩, _⟩ hinv Q hq
  exact lawI l nx k out a b hinv Q hq.2

end Go.Proofs.Ytbfcnjddddjbbaa
