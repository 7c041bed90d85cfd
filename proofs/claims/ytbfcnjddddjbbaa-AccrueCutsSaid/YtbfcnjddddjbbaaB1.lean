/-
  Small functions of this seat: what each answers.
-/
import Derived.Test.YtbfcnjddddjbbaaAbD
import Derived.Test.YtbfcnjddddjbbaaProg
import Derived.WalkKit
namespace Go.Proofs.Ytbfcnjddddjbbaa
open Go Go.Ab Go.RowKit Go.Proofs

abbrev i64 : Ty := .int .i64
abbrev u64 : Ty := .int .u64
abbrev ints : Ty := .sl i64
abbrev spanT : Ty := .pair i64 (.pair i64 .unit)
abbrev stepT : Ty := .pair ints (.pair ints .unit)
abbrev riskT : Ty := .pair i64 (.pair i64 (.pair i64 (.pair i64 .unit)))
abbrev coverT : Ty := .pair i64 (.pair i64 (.pair i64 (.pair i64 (.pair i64 .unit))))
abbrev sliceT : Ty := .pair spanT (.pair .bool (.pair riskT (.pair (.sl coverT) (.pair i64 .unit))))

def noΛ : Nat → St → Option Tr := fun _ _ => none
def C0 : Cx := ⟨fun _ => none, fun _ => none, fun _ _ _ _ => none⟩

theorem mixed : Try.prog.follows .mixedOrders = true := by kernel_rfl

theorem C0_ok : CxOK Try.prog C0 := ⟨mixed, fun _ _ h => (nomatch h), fun _ _ h => (nomatch h), fun _ _ _ _ _ h => (nomatch h)⟩

theorem noΛ_ok {E : Env} : (c : Code) → (k : Nat) → LamOK Try.prog E noΛ c k
  | .seq a b, k => ⟨noΛ_ok a k, noΛ_ok b _⟩
  | .cond _ a b, k => ⟨noΛ_ok a k, noΛ_ok b _⟩
  | .block _ c, k => noΛ_ok c k
  | .loop _, _ => fun _ _ h => nomatch h
  | .skip, _ => trivial
  | .ret, _ => trivial
  | .exit _, _ => trivial
  | .region _ _ _, _ => trivial
  | .label _, _ => trivial
  | .goto _, _ => trivial
  | .scope _, _ => trivial
  | .rangeFunc _ _ _ _, _ => trivial
  | .refuse _, _ => trivial

/-- A function without loops, by what its tree comes to. -/
theorem plain {C : Cx} (hC : CxOK Try.prog C) {f : FuncId} {fn : Func} {ps : List PT} {rs : List Ty} {fr : denP ps → Fr (denL rs)} (x0 : denP ps) (hf : Try.prog.funcs[f]? = some fn)
    (hrun : ∀ xs, runFn Try.prog C noΛ fn ps rs xs = some (fr xs)) (g : denP ps → denL rs) (ok : denP ps → List Prop)
    (hg : ∀ w F xs vs, RepPs Try.prog w F ps xs vs → conj (ok xs) → (fr xs).ok ∧ (fr xs).get = g xs) : SoundCt Try.prog f ⟨ps, rs, g, ok⟩ :=
  conv (fn_sound hC x0 hf (fun c E _ => noΛ_ok c 0) hrun) g ok hg

def money (v : Int) : Bool := decide (v ≥ -4000000000000000000) && decide (v ≤ 4000000000000000000)
def cMoney : Ct := ⟨[.d i64], [.bool], fun x => (money x.1, ()), fun _ => []⟩
theorem money_ok : SoundCt Try.prog 25 cMoney :=
  plain (ps := [.d i64]) (rs := [.bool]) C0_ok (fn := Try.f25) (fr := fun x => Fr.val (bif decide (x.1 ≥ -4000000000000000000) then decide (x.1 ≤ 4000000000000000000) else false, ())) (0, ()) (by kernel_rfl) (fun x => by kernel_rfl) _ _
    (fun _ _ x _ _ _ => ⟨trivial, by simp only [Fr.get, money]; cases decide (x.1 ≥ -4000000000000000000) <;> rfl⟩)

def fullS (s : spanT.den) : Bool := decide (s.1 ≥ 1) && (decide (s.1 < s.2.1) && decide (s.2.1 ≤ 292195))
def rightS (s : spanT.den) : Bool := decide (s.1 ≥ 1) && (decide (s.1 ≤ s.2.1) && decide (s.2.1 ≤ 292195))
def cFullS : Ct := ⟨[.d spanT], [.bool], fun x => (fullS x.1, ()), fun _ => []⟩
def cRightS : Ct := ⟨[.d spanT], [.bool], fun x => (rightS x.1, ()), fun _ => []⟩

theorem three (a b c : Bool) : (bif bif a then b else false then c else false) = (a && (b && c)) := by cases a <;> cases b <;> rfl

theorem fullS_ok : SoundCt Try.prog 23 cFullS :=
  plain (ps := [.d spanT]) (rs := [.bool]) C0_ok (fn := Try.f23) (fr := fun x => Fr.val (bif bif decide (x.1.1 ≥ 1) then decide (x.1.1 < x.1.2.1) else false then decide (x.1.2.1 ≤ 292195) else false, ())) ((0, 0, ()), ()) (by kernel_rfl) (fun x => by kernel_rfl) _ _
    (fun _ _ x _ _ _ => ⟨trivial, by simp only [Fr.get, fullS, three]⟩)
theorem full04_ok : SoundCt Try.prog 13 cFullS :=
  plain (ps := [.d spanT]) (rs := [.bool]) C0_ok (fn := Try.f13) (fr := fun x => Fr.val (bif bif decide (x.1.1 ≥ 1) then decide (x.1.1 < x.1.2.1) else false then decide (x.1.2.1 ≤ 292195) else false, ())) ((0, 0, ()), ()) (by kernel_rfl) (fun x => by kernel_rfl) _ _
    (fun _ _ x _ _ _ => ⟨trivial, by simp only [Fr.get, fullS, three]⟩)
theorem rightS_ok : SoundCt Try.prog 20 cRightS :=
  plain (ps := [.d spanT]) (rs := [.bool]) C0_ok (fn := Try.f20) (fr := fun x => Fr.val (bif bif decide (x.1.1 ≥ 1) then decide (x.1.1 ≤ x.1.2.1) else false then decide (x.1.2.1 ≤ 292195) else false, ())) ((0, 0, ()), ()) (by kernel_rfl) (fun x => by kernel_rfl) _ _
    (fun _ _ x _ _ _ => ⟨trivial, by simp only [Fr.get, rightS, three]⟩)
theorem right03_ok : SoundCt Try.prog 10 cRightS :=
  plain (ps := [.d spanT]) (rs := [.bool]) C0_ok (fn := Try.f10) (fr := fun x => Fr.val (bif bif decide (x.1.1 ≥ 1) then decide (x.1.1 ≤ x.1.2.1) else false then decide (x.1.2.1 ≤ 292195) else false, ())) ((0, 0, ()), ()) (by kernel_rfl) (fun x => by kernel_rfl) _ _
    (fun _ _ x _ _ _ => ⟨trivial, by simp only [Fr.get, rightS, three]⟩)

/-- accrue.full: a slice that may follow a day. -/
def fullSl (s : sliceT.den) (e : Int) : Bool := decide (s.1.1 ≥ e) && (decide (s.1.1 < s.1.2.1) && (decide (s.1.2.1 ≤ 292195) && (decide (s.2.2.2.2.1 ≥ 0) && decide (s.2.2.2.2.1 ≤ 4000000000000000000))))
def cFullSl : Ct := ⟨[.d sliceT, .d i64], [.bool], fun x => (fullSl x.1 x.2.1, ()), fun _ => []⟩

theorem five (a b c d e : Bool) : (bif bif bif bif a then b else false then c else false then d else false then e else false) = (a && (b && (c && (d && e)))) := by cases a <;> cases b <;> cases c <;> cases d <;> rfl

theorem fullSl_ok : SoundCt Try.prog 28 cFullSl :=
  plain (ps := [.d sliceT, .d i64]) (rs := [.bool]) C0_ok (fn := Try.f28) (fr := fun x => Fr.val (bif bif bif bif decide (x.1.1.1 ≥ x.2.1) then decide (x.1.1.1 < x.1.1.2.1) else false then decide (x.1.1.2.1 ≤ 292195) else false then decide (x.1.2.2.2.2.1 ≥ 0) else false then decide (x.1.2.2.2.2.1 ≤ 4000000000000000000) else false, ()))
    (sliceT.dflt, 0, ()) (by kernel_rfl) (fun x => by kernel_rfl) _ _ (fun _ _ x _ _ _ => ⟨trivial, by simp only [Fr.get, fullSl, five]⟩)

def cNaN : Ct := ⟨[.d i64], [.bool], fun _ => (false, ()), fun _ => []⟩
theorem nan1_ok : SoundCt Try.prog 38 cNaN :=
  plain (ps := [.d i64]) (rs := [.bool]) C0_ok (fn := Try.f38) (fr := fun x => Fr.val (x.1 != x.1, ())) (0, ()) (by kernel_rfl) (fun x => by kernel_rfl) _ _ (fun _ _ x _ _ _ => ⟨trivial, by simp [Fr.get]⟩)
theorem nan2_ok : SoundCt Try.prog 40 cNaN :=
  plain (ps := [.d i64]) (rs := [.bool]) C0_ok (fn := Try.f40) (fr := fun x => Fr.val (x.1 != x.1, ())) (0, ()) (by kernel_rfl) (fun x => by kernel_rfl) _ _ (fun _ _ x _ _ _ => ⟨trivial, by simp [Fr.get]⟩)

def Γ1 : FuncId → Option Ct := fun f => if f = 38 then some cNaN else if f = 40 then some cNaN else none
def C1 : Cx := ⟨Γ1, fun _ => none, fun _ _ _ _ => none⟩
theorem onlyCt {Γ : FuncId → Option Ct} (h : ∀ f ct, Γ f = some ct → SoundCt Try.prog f ct) : CxOK Try.prog ⟨Γ, fun _ => none, fun _ _ _ _ => none⟩ :=
  ⟨mixed, h, fun _ _ h => (nomatch h), fun _ _ _ _ _ h => (nomatch h)⟩

theorem C1_ok : CxOK Try.prog C1 := onlyCt fun f ct h => by
  simp only [Γ1] at h
  split at h
  · rename_i hf; subst hf; cases h; exact nan1_ok
  · split at h
    · rename_i hf; subst hf; cases h; exact nan2_ok
    · cases h

def cLess : Ct := ⟨[.d i64, .d i64], [.bool], fun x => (decide (x.1 < x.2.1), ()), fun _ => []⟩
theorem less_ok : SoundCt Try.prog 37 cLess :=
  plain (ps := [.d i64, .d i64]) (rs := [.bool]) C1_ok (fn := Try.f37) (fr := fun x => Fr.val (bif bif (cNaN.f (x.1, ())).1 then !(cNaN.f (x.2.1, ())).1 else false then true else decide (x.1 < x.2.1), ())) (0, 0, ()) (by kernel_rfl) (fun x => by kernel_rfl) _ _
    (fun _ _ x _ _ _ => ⟨trivial, rfl⟩)

end Go.Proofs.Ytbfcnjddddjbbaa
