/-
  Parts of the proof, one behind the other: B1, B2, B3, B4, B5, D1, D2, D3, D4, D5, C1, C4, C5, C2, C3, D6, D7, D8, E1, E2, H1, I1, I2, I3.
-/
import Derived.Test.YtbplccbjgfappaaAbF
import Derived.Test.YtbplccbjgfappaaProg
import Derived.WalkKit
import Derived.IntWalk
import Derived.RangeFuncNested
import Derived.RangeFuncBound
import Derived.RangeFuncCalls
import Derived.RangeFuncLeaves
import Derived.Shelf.Abstract
import Derived.Shelf.RegionOpen
import Derived.OwnWalkIn
import Derived.TacticsInMore
import Derived.LoopNIn
import Derived.LoopIn
import Derived.Lib.Hide
import Derived.Tactics2
import Derived.Laws.Pointers
/-
  Small functions of this seat: what each answers.
-/
namespace Go.Proofs.Ytbplccbjgfappaa
open Go Go.Ab Go.RowKit Go.Proofs

abbrev i64 : Ty := .int .i64
abbrev u64 : Ty := .int .u64
abbrev ints : Ty := .sl i64
abbrev spanT : Ty := .pair i64 (.pair i64 .unit)
abbrev stepT : Ty := .pair ints (.pair ints .unit)
abbrev riskT : Ty := .pair i64 (.pair i64 (.pair i64 (.pair i64 .unit)))
abbrev coverT : Ty := .pair i64 (.pair i64 (.pair i64 (.pair i64 (.pair i64 .unit))))
abbrev sliceT : Ty := .pair spanT (.pair .bool (.pair riskT (.pair (.sl coverT) (.pair i64 .unit))))

def noΛ : Nat → St → Option Tr := fun _ _ => none
def C0 : Cx := ⟨fun _ => none, fun _ => none, fun _ _ _ _ => none⟩

theorem mixed : Try.prog.follows .mixedOrders = true := by kernel_rfl

theorem C0_ok : CxOK Try.prog C0 := ⟨mixed, fun _ _ h => (nomatch h), fun _ _ h => (nomatch h), fun _ _ _ _ _ h => (nomatch h)⟩

theorem noΛ_ok {E : Env} : (c : Code) → (k : Nat) → LamOK Try.prog E noΛ c k
  | .seq a b, k => ⟨noΛ_ok a k, noΛ_ok b _⟩
  | .cond _ a b, k => ⟨noΛ_ok a k, noΛ_ok b _⟩
  | .block _ c, k => noΛ_ok c k
  | .loop _, _ => fun _ _ h => nomatch h
  | .skip, _ => trivial
  | .ret, _ => trivial
  | .exit _, _ => trivial
  | .region _ _ _, _ => trivial
  | .label _, _ => trivial
  | .goto _, _ => trivial
  | .scope c, k => noΛ_ok c k
  | .rangeFunc _ _ _ _, _ => trivial
  | .refuse _, _ => trivial

/-- A function without loops, by what its tree comes to. -/
theorem plain {C : Cx} (hC : CxOK Try.prog C) {f : FuncId} {fn : Func} {ps : List PT} {rs : List Ty} {fr : denP ps → Fr (denL rs)} (x0 : denP ps) (hf : Try.prog.funcs[f]? = some fn)
    (hrun : ∀ xs, runFn Try.prog C noΛ fn ps rs xs = some (fr xs)) (g : denP ps → denL rs) (ok : denP ps → List Prop)
    (hg : ∀ w F xs vs, RepPs Try.prog w F ps xs vs → conj (ok xs) → (fr xs).ok ∧ (fr xs).get = g xs) : SoundCt Try.prog f ⟨ps, rs, g, ok⟩ :=
  conv (fn_sound hC x0 hf (fun c _E _ => noΛ_ok c 0) hrun) g ok hg

def money (v : Int) : Bool := decide (v ≥ -4000000000000000000) && decide (v ≤ 4000000000000000000)
def cMoney : Ct := ⟨[.d i64], [.bool], fun x => (money x.1, ()), fun _ => []⟩
theorem money_ok : SoundCt Try.prog 152 cMoney :=
  plain (ps := [.d i64]) (rs := [.bool]) C0_ok (fn := Try.f152) (fr := fun x => Fr.val (bif decide (x.1 ≥ -4000000000000000000) then decide (x.1 ≤ 4000000000000000000) else false, ())) (0, ()) (by kernel_rfl) (fun x => by kernel_rfl) _ _
    (fun _ _ x _ _ _ => ⟨trivial, by simp only [Fr.get, money]; cases decide (x.1 ≥ -4000000000000000000) <;> rfl⟩)

def fullS (s : spanT.den) : Bool := decide (s.1 ≥ 1) && (decide (s.1 < s.2.1) && decide (s.2.1 ≤ 292195))
def rightS (s : spanT.den) : Bool := decide (s.1 ≥ 1) && (decide (s.1 ≤ s.2.1) && decide (s.2.1 ≤ 292195))
def cFullS : Ct := ⟨[.d spanT], [.bool], fun x => (fullS x.1, ()), fun _ => []⟩
def cRightS : Ct := ⟨[.d spanT], [.bool], fun x => (rightS x.1, ()), fun _ => []⟩

theorem three (a b c : Bool) : (bif bif a then b else false then c else false) = (a && (b && c)) := by cases a <;> cases b <;> rfl

theorem fullS_ok : SoundCt Try.prog 137 cFullS :=
  plain (ps := [.d spanT]) (rs := [.bool]) C0_ok (fn := Try.f137) (fr := fun x => Fr.val (bif bif decide (x.1.1 ≥ 1) then decide (x.1.1 < x.1.2.1) else false then decide (x.1.2.1 ≤ 292195) else false, ())) ((0, 0, ()), ()) (by kernel_rfl) (fun x => by kernel_rfl) _ _
    (fun _ _ x _ _ _ => ⟨trivial, by simp only [Fr.get, fullS, three]⟩)
theorem full04_ok : SoundCt Try.prog 126 cFullS :=
  plain (ps := [.d spanT]) (rs := [.bool]) C0_ok (fn := Try.f126) (fr := fun x => Fr.val (bif bif decide (x.1.1 ≥ 1) then decide (x.1.1 < x.1.2.1) else false then decide (x.1.2.1 ≤ 292195) else false, ())) ((0, 0, ()), ()) (by kernel_rfl) (fun x => by kernel_rfl) _ _
    (fun _ _ x _ _ _ => ⟨trivial, by simp only [Fr.get, fullS, three]⟩)
theorem rightS_ok : SoundCt Try.prog 68 cRightS :=
  plain (ps := [.d spanT]) (rs := [.bool]) C0_ok (fn := Try.f68) (fr := fun x => Fr.val (bif bif decide (x.1.1 ≥ 1) then decide (x.1.1 ≤ x.1.2.1) else false then decide (x.1.2.1 ≤ 292195) else false, ())) ((0, 0, ()), ()) (by kernel_rfl) (fun x => by kernel_rfl) _ _
    (fun _ _ x _ _ _ => ⟨trivial, by simp only [Fr.get, rightS, three]⟩)
theorem right03_ok : SoundCt Try.prog 49 cRightS :=
  plain (ps := [.d spanT]) (rs := [.bool]) C0_ok (fn := Try.f49) (fr := fun x => Fr.val (bif bif decide (x.1.1 ≥ 1) then decide (x.1.1 ≤ x.1.2.1) else false then decide (x.1.2.1 ≤ 292195) else false, ())) ((0, 0, ()), ()) (by kernel_rfl) (fun x => by kernel_rfl) _ _
    (fun _ _ x _ _ _ => ⟨trivial, by simp only [Fr.get, rightS, three]⟩)

/-- accrue.full: a slice that may follow a day. -/
def fullSl (s : sliceT.den) (e : Int) : Bool := decide (s.1.1 ≥ e) && (decide (s.1.1 < s.1.2.1) && (decide (s.1.2.1 ≤ 292195) && (decide (s.2.2.2.2.1 ≥ 0) && decide (s.2.2.2.2.1 ≤ 4000000000000000000))))
def cFullSl : Ct := ⟨[.d sliceT, .d i64], [.bool], fun x => (fullSl x.1 x.2.1, ()), fun _ => []⟩

theorem five (a b c d e : Bool) : (bif bif bif bif a then b else false then c else false then d else false then e else false) = (a && (b && (c && (d && e)))) := by cases a <;> cases b <;> cases c <;> cases d <;> rfl

theorem fullSl_ok : SoundCt Try.prog 103 cFullSl :=
  plain (ps := [.d sliceT, .d i64]) (rs := [.bool]) C0_ok (fn := Try.f103) (fr := fun x => Fr.val (bif bif bif bif decide (x.1.1.1 ≥ x.2.1) then decide (x.1.1.1 < x.1.1.2.1) else false then decide (x.1.1.2.1 ≤ 292195) else false then decide (x.1.2.2.2.2.1 ≥ 0) else false then decide (x.1.2.2.2.2.1 ≤ 4000000000000000000) else false, ()))
    (sliceT.dflt, 0, ()) (by kernel_rfl) (fun x => by kernel_rfl) _ _ (fun _ _ x _ _ _ => ⟨trivial, by simp only [Fr.get, fullSl, five]⟩)

def cNaN : Ct := ⟨[.d i64], [.bool], fun _ => (false, ()), fun _ => []⟩
theorem nan1_ok : SoundCt Try.prog 168 cNaN :=
  plain (ps := [.d i64]) (rs := [.bool]) C0_ok (fn := Try.f168) (fr := fun x => Fr.val (x.1 != x.1, ())) (0, ()) (by kernel_rfl) (fun x => by kernel_rfl) _ _ (fun _ _ x _ _ _ => ⟨trivial, by simp [Fr.get]⟩)
theorem nan2_ok : SoundCt Try.prog 148 cNaN :=
  plain (ps := [.d i64]) (rs := [.bool]) C0_ok (fn := Try.f148) (fr := fun x => Fr.val (x.1 != x.1, ())) (0, ()) (by kernel_rfl) (fun x => by kernel_rfl) _ _ (fun _ _ x _ _ _ => ⟨trivial, by simp [Fr.get]⟩)

def Γ1 : FuncId → Option Ct := fun f => if f = 168 then some cNaN else if f = 148 then some cNaN else none
def C1 : Cx := ⟨Γ1, fun _ => none, fun _ _ _ _ => none⟩
theorem onlyCt {Γ : FuncId → Option Ct} (h : ∀ f ct, Γ f = some ct → SoundCt Try.prog f ct) : CxOK Try.prog ⟨Γ, fun _ => none, fun _ _ _ _ => none⟩ :=
  ⟨mixed, h, fun _ _ h => (nomatch h), fun _ _ _ _ _ h => (nomatch h)⟩

theorem C1_ok : CxOK Try.prog C1 := onlyCt fun f ct h => by
  simp only [Γ1] at h
  split at h
  · rename_i hf; subst hf; cases h; exact nan1_ok
  · split at h
    · rename_i hf; subst hf; cases h; exact nan2_ok
    · cases h

def cLess : Ct := ⟨[.d i64, .d i64], [.bool], fun x => (decide (x.1 < x.2.1), ()), fun _ => []⟩
theorem less_ok : SoundCt Try.prog 158 cLess :=
  plain (ps := [.d i64, .d i64]) (rs := [.bool]) C1_ok (fn := Try.f158) (fr := fun x => Fr.val (bif bif (cNaN.f (x.1, ())).1 then !(cNaN.f (x.2.1, ())).1 else false then true else decide (x.1 < x.2.1), ())) (0, 0, ()) (by kernel_rfl) (fun x => by kernel_rfl) _ _
    (fun _ _ x _ _ _ => ⟨trivial, rfl⟩)

end Go.Proofs.Ytbplccbjgfappaa

/-
  Search in a list of rising numbers.
-/
namespace Go.Proofs.Ytbplccbjgfappaa
open Go Go.Ab Go.RowKit Go.Proofs

/-- The body of a function's k-th loop. -/
def bodyOf : Code → Nat → Option Code
  | .loop c, 0 => some c
  | .seq a b, k => if k < loopsIn a then bodyOf a k else bodyOf b (k - loopsIn a)
  | .cond _ a b, k => if k < loopsIn a then bodyOf a k else bodyOf b (k - loopsIn a)
  | .block _ c, k => bodyOf c k
  | .scope c, k => bodyOf c k
  | _, _ => none
def loopOf (f : Func) (k : Nat) : Code := (f.body.bind (bodyOf · k)).getD .skip

def Γ2 : FuncId → Option Ct := fun f => if f = 168 then some cNaN else if f = 158 then some cLess else none
def C2 : Cx := ⟨Γ2, fun _ => none, fun _ _ _ _ => none⟩
theorem C2_ok : CxOK Try.prog C2 := onlyCt fun f ct h => by
  simp only [Γ2] at h
  split at h
  · rename_i hf; subst hf; cases h; exact nan1_ok
  · split at h
    · rename_i hf; subst hf; cases h; exact less_ok
    · cases h

/-- How many are below. -/
def cnt (l : List Int) (x : Int) : Nat := l.countP fun y => decide (y < x)

theorem cnt_at {l : List Int} {x : Int} {i : Nat} (h1 : ∀ k y, k < i → l[k]? = some y → y < x) (h2 : ∀ k y, i ≤ k → l[k]? = some y → ¬ y < x) (hi : i ≤ l.length) : cnt l x = i := by
  unfold cnt
  rw [← List.take_append_drop i l, List.countP_append]
  have e1 : (l.take i).countP (fun y => decide (y < x)) = (l.take i).length := by
    rw [List.countP_eq_length]
    intro y hy
    obtain ⟨k, hk⟩ := List.mem_iff_getElem?.1 hy
    rw [List.getElem?_take] at hk
    split at hk
    · rename_i hlt
      simpa using h1 k y hlt hk
    · cases hk
  have e2 : (l.drop i).countP (fun y => decide (y < x)) = 0 := by
    rw [List.countP_eq_zero]
    intro y hy
    obtain ⟨k, hk⟩ := List.mem_iff_getElem?.1 hy
    rw [List.getElem?_drop] at hk
    simpa using h2 (i + k) y (by omega) hk
  rw [e1, e2, List.length_take]
  omega

abbrev ptB : Pt := ⟨54, 0, ⟨[(0, .d ints), (1, .d i64), (6, .d i64), (7, .d i64), (8, .d i64)], []⟩, ⟨[(0, .d ints), (1, .d i64), (6, .d i64), (7, .d i64)], []⟩, ⟨[], []⟩⟩

def mid (i j : Int) : Int := IntKind.i64.wrap ((IntKind.u64.wrap (IntKind.i64.wrap (i + j))).fdiv (2 ^ min (Int.toNat 1) IntKind.u64.bits))

def frB (x : ptB.M.X) : Fr ptB.Out :=
  Fr.br (decide (x.1.2.2.2.1 < x.1.2.2.2.2.1))
    (Fr.need (¬ (1 : Int) < 0)
      (Fr.need (0 ≤ mid x.1.2.2.2.1 x.1.2.2.2.2.1 ∧ mid x.1.2.2.2.1 x.1.2.2.2.2.1 < x.1.1.length)
        (Fr.br (cLess.f (x.1.1.getD (mid x.1.2.2.2.1 x.1.2.2.2.2.1).toNat i64.dflt, x.1.2.1, ())).1
          (Fr.val (Rd.next ((x.1.1, x.1.2.1, x.1.2.2.1, IntKind.i64.wrap (mid x.1.2.2.2.1 x.1.2.2.2.2.1 + 1), x.1.2.2.2.2.1, ()), ())))
          (Fr.val (Rd.next ((x.1.1, x.1.2.1, x.1.2.2.1, x.1.2.2.2.1, mid x.1.2.2.2.1 x.1.2.2.2.2.1, ()), ()))))))
    (Fr.val (Rd.out ((x.1.1, x.1.2.1, x.1.2.2.1, x.1.2.2.2.1, ()), ())))

theorem semB : Does Try.prog (loopOf Try.f165 0) ptB.M ptB frB :=
  Does.of_run C2_ok (bs := 0) (Λ := noΛ) rfl rfl rfl (fun E => noΛ_ok _ 0) (fun x => by kernel_rfl)

theorem mid_eq {i j : Int} (hi : 0 ≤ i) (hij : i ≤ j) (hj : j ≤ 9223372036854775807) : mid i j = (i + j) / 2 := by
  unfold mid
  have h1 : IntKind.u64.wrap (IntKind.i64.wrap (i + j)) = i + j := by
    rw [IntKind.wrap_i64, IntKind.wrap_u64]
    omega
  have h2 : (2 : Int) ^ min (Int.toNat 1) IntKind.u64.bits = 2 := by decide
  rw [h1, h2, Int.fdiv_eq_ediv_of_nonneg _ (by decide), IntWalk.i64_in _ (by omega)]

/-- What holds at the loop's head. -/
structure InvB (l : List Int) (x i j : Int) : Prop where
  lo : 0 ≤ i
  le : i ≤ j
  hi : j ≤ l.length
  big : (l.length : Int) ≤ 9223372036854775807
  up : l.Pairwise (· < ·)
  below : ∀ (k : Nat) (y : Int), (k : Int) < i → l[k]? = some y → y < x
  above : ∀ (k : Nat) (y : Int), j ≤ k → l[k]? = some y → ¬ y < x

def FB (x : ptB.M.X) : Fr ptB.Out :=
  Fr.need (InvB x.1.1 x.1.2.1 x.1.2.2.2.1 x.1.2.2.2.2.1) (Fr.val (Rd.out ((x.1.1, x.1.2.1, x.1.2.2.1, (cnt x.1.1 x.1.2.1 : Int), ()), ())))

theorem up_get {l : List Int} (h : l.Pairwise (· < ·)) {a b : Nat} {y z : Int} (hab : a < b) (ha : l[a]? = some y) (hb : l[b]? = some z) : y < z := by
  obtain ⟨h1, rfl⟩ := List.getElem?_eq_some_iff.1 ha
  obtain ⟨h2, rfl⟩ := List.getElem?_eq_some_iff.1 hb
  exact (List.pairwise_iff_getElem.1 h) a b h1 h2 hab

theorem lawB (l : List Int) (x n i j : Int) (hinv : InvB l x i j) (Q : ptB.Out → Prop) (hQ : Q (Rd.out ((l, x, n, (cnt l x : Int), ()), ()))) :
    (frB ((l, x, n, i, j, ()), ())).satP fun
      | .next x' => InvB x'.1.1 x'.1.2.1 x'.1.2.2.2.1 x'.1.2.2.2.2.1 ∧ (x'.1.2.2.2.2.1 - x'.1.2.2.2.1).toNat < (j - i).toNat ∧ (FB x').satP Q
      | .out y => Q (.out y)
      | .back z => Q (.back z)
      | .pan p => Q (.pan p) := by
  obtain ⟨h1, h2, h3, h4, h5, h6, h7⟩ := hinv
  simp only [frB, Fr.satP, decide_eq_true_eq, decide_eq_false_iff_not]
  refine ⟨fun hij => ?_, fun hij => ?_⟩
  · have hij : i < j := hij
    have hm := mid_eq h1 h2 (by omega)
    have hmid : 0 ≤ (i + j) / 2 ∧ (i + j) / 2 < l.length := by omega
    rw [hm]
    refine ⟨by omega, hmid, ?_⟩
    obtain ⟨y, hy⟩ : ∃ y, l[((i + j) / 2).toNat]? = some y := by
      have : ((i + j) / 2).toNat < l.length := by omega
      exact ⟨_, List.getElem?_eq_getElem this⟩
    have hget : l.getD ((i + j) / 2).toNat i64.dflt = y := by
      rw [List.getD_eq_getElem?_getD, hy]
      rfl
    rw [hget]
    show (decide (y < x) = true → _) ∧ (decide (y < x) = false → _)
    simp only [decide_eq_true_eq, decide_eq_false_iff_not]
    refine ⟨fun hyx => ?_, fun hyx => ?_⟩
    · have hyx : y < x := hyx
      have hw : IntKind.i64.wrap ((i + j) / 2 + 1) = (i + j) / 2 + 1 := IntWalk.i64_in _ (by omega)
      rw [hw]
      have hn : InvB l x ((i + j) / 2 + 1) j := ⟨by omega, by omega, h3, h4, h5, fun k z hk hz => by
        by_cases hk2 : k < ((i + j) / 2).toNat
        · exact Int.lt_trans (up_get h5 hk2 hz hy) hyx
        · have : k = ((i + j) / 2).toNat := by omega
          subst this
          rw [hy] at hz
          cases hz
          exact hyx, h7⟩
      exact ⟨hn, by show (j - ((i + j) / 2 + 1)).toNat < (j - i).toNat; omega, hn, hQ⟩
    · have hyx : ¬ y < x := hyx
      have hn : InvB l x i ((i + j) / 2) := ⟨h1, by omega, by omega, h4, h5, h6, fun k z hk hz => by
        by_cases hk2 : ((i + j) / 2).toNat < k
        · have := up_get h5 hk2 hy hz
          omega
        · have : k = ((i + j) / 2).toNat := by omega
          subst this
          rw [hy] at hz
          cases hz
          exact hyx⟩
      exact ⟨hn, by show ((i + j) / 2 - i).toNat < (j - i).toNat; omega, hn, hQ⟩
  · have hij : ¬ i < j := hij
    have hij' : i = j := by omega
    subst hij'
    have hc : cnt l x = i.toNat := cnt_at (fun k y hk hy => h6 k y (by omega) hy) (fun k y hk hy => h7 k y (by omega) hy) (by omega)
    rw [hc] at hQ
    have : ((i.toNat : Nat) : Int) = i := by omega
    rw [this] at hQ
    exact hQ

theorem loopB : Does Try.prog (.loop (loopOf Try.f165 0)) ptB.M ptB FB := by
  refine Does.loop (n := 54) (id := 0) semB (inv := fun x => InvB x.1.1 x.1.2.1 x.1.2.2.2.1 x.1.2.2.2.2.1) (μ := fun x => (x.1.2.2.2.2.1 - x.1.2.2.2.1).toNat) ?_ (fun x Q h => h.1)
  rintro ⟨⟨l, x, n, i, j, _⟩, _⟩ hinv Q hq
  exact lawB l x n i j hinv Q hq.2

theorem bodyOf_lt : {c : Code} → {k : Nat} → {b : Code} → bodyOf c k = some b → k < loopsIn c
  | .loop _, 0, _, _ => Nat.zero_lt_one
  | .loop _, _ + 1, _, h => by simp [bodyOf] at h
  | .seq x y, k, b, h => by
    simp only [bodyOf] at h
    simp only [loopsIn]
    split at h
    · omega
    · have := bodyOf_lt h
      omega
  | .cond _ x y, k, b, h => by
    simp only [bodyOf] at h
    simp only [loopsIn]
    split at h
    · omega
    · have := bodyOf_lt h
      omega
  | .block _ c, k, b, h => bodyOf_lt (c := c) h
  | .scope c, k, b, h => bodyOf_lt (c := c) h
  | .skip, _, _, h => by simp [bodyOf] at h
  | .region _ _ _, _, _, h => by simp [bodyOf] at h
  | .ret, _, _, h => by simp [bodyOf] at h
  | .exit _, _, _, h => by simp [bodyOf] at h
  | .label _, _, _, h => by simp [bodyOf] at h
  | .goto _, _, _, h => by simp [bodyOf] at h
  | .rangeFunc _ _ _ _, _, _, h => by simp [bodyOf] at h
  | .refuse _, _, _, h => by simp [bodyOf] at h

theorem lam_of {E : Env} {Λ : Nat → St → Option Tr} : (c : Code) → (k : Nat) → (∀ i b, bodyOf c i = some b → LoopOK Try.prog E b (Λ (k + i))) → LamOK Try.prog E Λ c k
  | .loop b, k, h => h 0 b rfl
  | .seq x y, k, h => ⟨lam_of x k fun i b hb => h i b (by simp only [bodyOf]; rw [if_pos (bodyOf_lt hb)]; exact hb), lam_of y _ fun i b hb => by
      have := h (loopsIn x + i) b (by simp only [bodyOf]; rw [if_neg (by omega), Nat.add_sub_cancel_left]; exact hb)
      rwa [← Nat.add_assoc] at this⟩
  | .cond _ x y, k, h => ⟨lam_of x k fun i b hb => h i b (by simp only [bodyOf]; rw [if_pos (bodyOf_lt hb)]; exact hb), lam_of y _ fun i b hb => by
      have := h (loopsIn x + i) b (by simp only [bodyOf]; rw [if_neg (by omega), Nat.add_sub_cancel_left]; exact hb)
      rwa [← Nat.add_assoc] at this⟩
  | .block _ c, k, h => lam_of c k h
  | .skip, _, _ => trivial
  | .ret, _, _ => trivial
  | .exit _, _, _ => trivial
  | .region _ _ _, _, _ => trivial
  | .label _, _, _ => trivial
  | .goto _, _, _ => trivial
  | .scope c, k, h => lam_of c k h
  | .rangeFunc _ _ _ _, _, _ => trivial
  | .refuse _, _, _ => trivial

/-- A function with one loop. -/
theorem lam_one {E : Env} {Λ : Nat → St → Option Tr} {fn : Func} {c b : Code} (hc : fn.body = some c) (hn : (fn.body.map loopsIn) = some 1) (hb : fn.body.bind (bodyOf · 0) = some b) (h : LoopOK Try.prog E b (Λ 0)) : LamOK Try.prog E Λ c 0 := by
  refine lam_of c 0 fun i b' hb' => ?_
  have h1 := bodyOf_lt hb'
  rw [hc] at hn hb
  simp only [Option.map_some, Option.some.injEq] at hn
  have hi : i = 0 := by omega
  subst hi
  simp only [Option.bind_some] at hb
  rw [hb] at hb'
  cases hb'
  exact h

def ΛB : Nat → St → Option Tr := fun _ => ptB.han Γ2 ptB.M FB

def frS (x : denP [.d ints, .d i64]) : Fr (denL [i64, .bool]) :=
  Fr.need (InvB x.1 x.2.1 0 x.1.length)
    (Fr.need (decide ((cnt x.1 x.2.1 : Int) < x.1.length) = true → 0 ≤ (cnt x.1 x.2.1 : Int) ∧ (cnt x.1 x.2.1 : Int) < x.1.length)
    (Fr.need ((x.1.getD (Int.toNat (cnt x.1 x.2.1 : Int)) i64.dflt == x.2.1) = false → decide ((cnt x.1 x.2.1 : Int) < x.1.length) = true → 0 ≤ (cnt x.1 x.2.1 : Int) ∧ (cnt x.1 x.2.1 : Int) < x.1.length)
      (Fr.val
        ((cnt x.1 x.2.1 : Int),
          bif decide ((cnt x.1 x.2.1 : Int) < x.1.length) then
            bif x.1.getD (Int.toNat (cnt x.1 x.2.1 : Int)) i64.dflt == x.2.1 then true
            else
              bif (cNaN.f (x.1.getD (Int.toNat (cnt x.1 x.2.1 : Int)) i64.dflt, ())).1 then (cNaN.f (x.2.1, ())).1 else false
          else false,
          ()))))

theorem search_fr : SoundCt Try.prog 165 ⟨[.d ints, .d i64], [i64, .bool], fun xs => (frS xs).get, fun xs => [(frS xs).ok]⟩ :=
  fn_sound C2_ok (Λ := ΛB) (fn := Try.f165) ([], 0, ()) (by kernel_rfl) (fun c E hc => lam_one hc (by kernel_rfl) (b := loopOf Try.f165 0) (by kernel_rfl) (Does.han C2_ok rfl loopB)) (fun xs => by kernel_rfl)

end Go.Proofs.Ytbplccbjgfappaa

/-
  Search in a list of rising numbers: what it answers, plainly.
-/
namespace Go.Proofs.Ytbplccbjgfappaa
open Go Go.Ab Go.RowKit Go.Proofs

theorem cnt_spec {x : Int} : {l : List Int} → l.Pairwise (· < ·) → (∀ k y, k < cnt l x → l[k]? = some y → y < x) ∧ ∀ k y, cnt l x ≤ k → l[k]? = some y → ¬ y < x
  | [], _ => ⟨fun k y _ h => by simp at h, fun k y _ h => by simp at h⟩
  | a :: r, h => by
    obtain ⟨h1, h2⟩ := List.pairwise_cons.1 h
    obtain ⟨i1, i2⟩ := cnt_spec (x := x) h2
    by_cases ha : a < x
    · have hc : cnt (a :: r) x = cnt r x + 1 := by simp [cnt, ha]
      rw [hc]
      refine ⟨fun k y hk hy => ?_, fun k y hk hy => ?_⟩
      · cases k with
        | zero => simp at hy; omega
        | succ k => exact i1 k y (by omega) (by simpa using hy)
      · cases k with
        | zero => omega
        | succ k => exact i2 k y (by omega) (by simpa using hy)
    · have hz : cnt (a :: r) x = 0 := by
        unfold cnt
        rw [List.countP_eq_zero]
        intro y hy
        rcases List.mem_cons.1 hy with rfl | hy
        · simpa using ha
        · have := h1 y hy
          simp
          omega
      rw [hz]
      refine ⟨fun k y hk _ => by omega, fun k y _ hy => ?_⟩
      cases k with
      | zero => simp at hy; omega
      | succ k =>
        have hm : y ∈ r := List.mem_of_getElem? (by simpa using hy)
        have := h1 y hm
        omega

theorem cnt_mem {l : List Int} {x : Int} (h : l.Pairwise (· < ·)) : x ∈ l ↔ l[cnt l x]? = some x := by
  obtain ⟨h1, h2⟩ := cnt_spec (x := x) h
  constructor
  · intro hm
    obtain ⟨k, hk⟩ := List.mem_iff_getElem?.1 hm
    by_cases hlt : k < cnt l x
    · have := h1 k x hlt hk
      omega
    · by_cases he : k = cnt l x
      · rw [← he]; exact hk
      · have hkl := (List.getElem?_eq_some_iff.1 hk).1
        have hy : l[cnt l x]? = some (l[cnt l x]'(by omega)) := List.getElem?_eq_getElem (by omega)
        have a1 := up_get h (by omega) hy hk
        have a2 := h2 _ _ (Nat.le_refl _) hy
        omega
  · exact fun hk => List.mem_of_getElem? hk

theorem cnt_le (l : List Int) (x : Int) : cnt l x ≤ l.length := List.countP_le_length

theorem invB_start {l : List Int} {x : Int} (h : l.Pairwise (· < ·)) (hl : (l.length : Int) ≤ 9223372036854775807) : InvB l x 0 l.length :=
  ⟨Int.le_refl _, by omega, Int.le_refl _, hl, h, fun k y hk _ => by omega, fun k y hk hy => by
    have := (List.getElem?_eq_some_iff.1 hy).1
    omega⟩

theorem frS_val {l : List Int} {x : Int} (h : l.Pairwise (· < ·)) (hl : (l.length : Int) ≤ 9223372036854775807) : (frS (l, x, ())).ok ∧ (frS (l, x, ())).get = ((cnt l x : Int), l.contains x, ()) := by
  have hle := cnt_le l x
  refine ⟨⟨invB_start h hl, fun hd => ?_, fun _ hd => ?_, trivial⟩, ?_⟩
  · have hd' : (cnt l x : Int) < l.length := by simpa using hd
    exact ⟨by omega, hd'⟩
  · have hd' : (cnt l x : Int) < l.length := by simpa using hd
    exact ⟨by omega, hd'⟩
  · show ((cnt l x : Int), (bif decide ((cnt l x : Int) < l.length) then bif l.getD (cnt l x) i64.dflt == x then true else (bif false then false else false) else false), ()) = _
    have hb : (bif decide ((cnt l x : Int) < l.length) then bif l.getD (cnt l x) i64.dflt == x then true else (bif false then false else false) else false) = l.contains x := by
      have hm := cnt_mem (x := x) h
      by_cases hlt : cnt l x < l.length
      · have h1 : decide ((cnt l x : Int) < l.length) = true := by simpa using hlt
        have hg : l[cnt l x]? = some (l[cnt l x]'hlt) := List.getElem?_eq_getElem hlt
        have hd : l.getD (cnt l x) i64.dflt = l[cnt l x]'hlt := by rw [List.getD_eq_getElem?_getD, hg]; rfl
        rw [h1, hd]
        simp only [cond_true]
        by_cases he : l[cnt l x]'hlt = x
        · have : x ∈ l := hm.2 (by rw [hg, he])
          simp [he, this]
        · have : ¬ x ∈ l := fun hx => he (by have := hm.1 hx; rw [hg] at this; simpa using this)
          simp [he, this]
      · have h1 : decide ((cnt l x : Int) < l.length) = false := by simpa using hlt
        have : ¬ x ∈ l := fun hx => by
          have := hm.1 hx
          rw [List.getElem?_eq_none (by omega)] at this
          cases this
        rw [h1]
        simp [this]
    rw [hb]

def cSearch : Ct := ⟨[.d ints, .d i64], [i64, .bool], fun x => ((cnt x.1 x.2.1 : Int), x.1.contains x.2.1, ()), fun x => [x.1.Pairwise (· < ·)]⟩

theorem search_ok : SoundCt Try.prog 165 cSearch :=
  conv search_fr _ _ fun w F xs vs hr hok => by
    obtain ⟨l, x, _⟩ := xs
    obtain ⟨v, vs', rfl, hv, _⟩ := hr
    have hwf := RepT.wf hv.2.2
    have hlen : (l.length : Int) ≤ 9223372036854775807 := by
      have := hwf.1
      simp only [maxLen] at this
      omega
    exact frS_val hok hlen

end Go.Proofs.Ytbplccbjgfappaa

/-
  The value of steps on a day.
-/
namespace Go.Proofs.Ytbplccbjgfappaa
open Go Go.Ab Go.RowKit Go.Proofs

/-- How many are not above. -/
def cntLe (l : List Int) (x : Int) : Nat := l.countP fun y => decide (y ≤ x)

theorem cntLe_eq {x : Int} : {l : List Int} → l.Pairwise (· < ·) → cntLe l x = cnt l x + (if l.contains x then 1 else 0)
  | [], _ => rfl
  | a :: r, h => by
    obtain ⟨h1, h2⟩ := List.pairwise_cons.1 h
    have ih := cntLe_eq (x := x) h2
    have hnot : a = x → ¬ x ∈ r := fun he hm => by have := h1 x hm; omega
    unfold cntLe cnt at *
    rw [List.countP_cons, List.countP_cons, ih]
    rcases Int.lt_trichotomy a x with hlt | heq | hgt
    · have : ¬ x = a := by omega
      simp [hlt, Int.le_of_lt hlt, this]
      omega
    · subst heq
      have := hnot rfl
      simp [this]
    · have h3 : ¬ a ≤ x := by omega
      have h4 : ¬ a < x := by omega
      have h5 : ¬ x = a := by omega
      simp [h3, h4, h5]

/-- What the steps say of a day. -/
def valAt (f : stepT.den) (d : Int) : Int := match cntLe f.1 d with
  | 0 => 0
  | k + 1 => f.2.1.getD k 0

def Γ3 : FuncId → Option Ct := fun f => if f = 165 then some cSearch else if f = 152 then some cMoney else none
def C3 : Cx := ⟨Γ3, fun _ => none, fun _ _ _ _ => none⟩
theorem C3_ok : CxOK Try.prog C3 := onlyCt fun f ct h => by
  simp only [Γ3] at h
  split at h
  · rename_i hf; subst hf; cases h; exact search_ok
  · split at h
    · rename_i hf; subst hf; cases h; exact money_ok
    · cases h

def frV (x : denP [.d stepT, .d i64]) : Fr (denL [i64]) :=
  let r := cSearch.f (x.1.1, x.2.1, ())
  Fr.need (x.1.1.Pairwise (· < ·))
    (Fr.br (!r.2.1)
      (Fr.br (decide (IntKind.i64.wrap (r.1 - 1) < 0)) (Fr.val (0, ()))
        (Fr.need (0 ≤ IntKind.i64.wrap (r.1 - 1) ∧ IntKind.i64.wrap (r.1 - 1) < x.1.2.1.length) (Fr.val (x.1.2.1.getD (IntKind.i64.wrap (r.1 - 1)).toNat i64.dflt, ()))))
      (Fr.br (decide (r.1 < 0)) (Fr.val (0, ()))
        (Fr.need (0 ≤ r.1 ∧ r.1 < x.1.2.1.length) (Fr.val (x.1.2.1.getD r.1.toNat i64.dflt, ())))))

theorem value_fr : SoundCt Try.prog 154 ⟨[.d stepT, .d i64], [i64], fun xs => (frV xs).get, fun xs => [(frV xs).ok]⟩ :=
  fn_sound C3_ok (Λ := noΛ) (fn := Try.f154) (([], [], ()), 0, ()) (by kernel_rfl) (fun c E _ => noΛ_ok c 0) (fun xs => by kernel_rfl)

theorem frV_val {at_ val : List Int} {d : Int} (h : at_.Pairwise (· < ·)) (hl : (at_.length : Int) ≤ 9223372036854775807) (hlen : at_.length = val.length) :
    (frV ((at_, val, ()), d, ())).ok ∧ (frV ((at_, val, ()), d, ())).get = (valAt (at_, val, ()) d, ()) := by
  have hle := cnt_le at_ d
  have hcl := cntLe_eq (x := d) h
  have hmem := cnt_mem (x := d) h
  by_cases hc : d ∈ at_
  · have hcb : at_.contains d = true := by simpa using hc
    have hlt : cnt at_ d < at_.length := (List.getElem?_eq_some_iff.1 (hmem.1 hc)).1
    have hv : valAt (at_, val, ()) d = val.getD (cnt at_ d) 0 := by
      unfold valAt
      simp only [hcl, hcb, if_true]
    refine ⟨⟨h, fun hb => ?_, fun _ => ⟨fun hb => ?_, fun _ => ⟨⟨by show (0 : Int) ≤ (cnt at_ d : Int); omega, by show (cnt at_ d : Int) < val.length; omega⟩, trivial⟩⟩⟩, ?_⟩
    · have hb' : (!at_.contains d) = true := hb
      rw [hcb] at hb'
      cases hb'
    · trivial
    · show (if (!at_.contains d) = true then _ else if decide ((cnt at_ d : Int) < 0) = true then ((0 : Int), ()) else (val.getD (Int.toNat (cnt at_ d : Int)) i64.dflt, ())) = _
      have h0 : decide ((cnt at_ d : Int) < 0) = false := by simp
      rw [hcb, h0, hv]
      rfl
  · have hcb : at_.contains d = false := by simpa using hc
    have hw : IntKind.i64.wrap ((cnt at_ d : Int) - 1) = (cnt at_ d : Int) - 1 := IntWalk.i64_in _ (by omega)
    have hv : valAt (at_, val, ()) d = (match cnt at_ d with | 0 => 0 | k + 1 => val.getD k 0) := by
      unfold valAt
      simp only [hcl, hcb, Bool.false_eq_true, if_false, Nat.add_zero]
    refine ⟨⟨h, fun _ => ⟨fun _ => trivial, fun hb => ?_⟩, fun hb => ?_⟩, ?_⟩
    · have hb' : decide (IntKind.i64.wrap ((cnt at_ d : Int) - 1) < 0) = false := hb
      rw [hw] at hb'
      have hb2 : ¬ ((cnt at_ d : Int) - 1 < 0) := by simpa using hb'
      refine ⟨?_, trivial⟩
      show 0 ≤ IntKind.i64.wrap ((cnt at_ d : Int) - 1) ∧ IntKind.i64.wrap ((cnt at_ d : Int) - 1) < val.length
      rw [hw]
      omega
    · have hb' : (!at_.contains d) = false := hb
      rw [hcb] at hb'
      cases hb'
    · show (if (!at_.contains d) = true then (if decide (IntKind.i64.wrap ((cnt at_ d : Int) - 1) < 0) = true then ((0 : Int), ()) else (val.getD (IntKind.i64.wrap ((cnt at_ d : Int) - 1)).toNat i64.dflt, ())) else _) = _
      rw [hcb, hw, hv]
      cases hk : cnt at_ d with
      | zero => rfl
      | succ k =>
        have h0 : decide (((k + 1 : Nat) : Int) - 1 < 0) = false := by simp
        have h1 : (((k + 1 : Nat) : Int) - 1).toNat = k := by omega
        rw [h0, h1]
        rfl

def cValue : Ct := ⟨[.d stepT, .d i64], [i64], fun x => (valAt x.1 x.2.1, ()), fun x => [x.1.1.Pairwise (· < ·), x.1.1.length = x.1.2.1.length]⟩

theorem value_ok : SoundCt Try.prog 154 cValue :=
  conv value_fr _ _ fun w F xs vs hr hok => by
    obtain ⟨⟨at_, val, _⟩, d, _⟩ := xs
    obtain ⟨v, vs', rfl, hv, _⟩ := hr
    have hwf := RepT.wf hv.2.2
    have hlen : (at_.length : Int) ≤ 9223372036854775807 := by
      have := hwf.1.1
      simp only [maxLen] at this
      omega
    exact frV_val hok.1 hlen hok.2

end Go.Proofs.Ytbplccbjgfappaa

/-
  Which steps may be.
-/
namespace Go.Proofs.Ytbplccbjgfappaa
open Go Go.Ab Go.RowKit Go.Proofs

/-- Days rise, values change. -/
def rises : List Int → List Int → Int → Int → Bool
  | d :: l, v :: r, day, last => (decide (day < d) && (decide (d ≤ 292194) && (!(v == last) && money v))) && rises l r d v
  | _, _, _, _ => true

abbrev ptR : Pt := ⟨48, 0, ⟨[(18, .d i64), (17, .d i64), (16, .d ints), (3, .d i64), (4, .d i64)], [.x 1 114 stepT, .r 1 1 0]⟩, ⟨[], []⟩, ⟨[(2, .d .bool)], []⟩⟩

def frR (x : ptR.M.X) : Fr ptR.Out :=
  Fr.br (decide (x.1.1 < x.1.2.1))
    (Fr.need (0 ≤ x.1.1 ∧ x.1.1 < x.1.2.2.1.length)
      (Fr.need (0 ≤ x.1.1 ∧ x.1.1 < x.2.1.2.1.length)
        (Fr.br
          (bif bif bif decide (x.1.2.2.1.getD x.1.1.toNat i64.dflt ≤ x.1.2.2.2.1) then true else decide (x.1.2.2.1.getD x.1.1.toNat i64.dflt > 292194) then true
              else x.2.1.2.1.getD x.1.1.toNat i64.dflt == x.1.2.2.2.2.1 then true
            else !(cMoney.f (x.2.1.2.1.getD x.1.1.toNat i64.dflt, ())).1)
          (Fr.val (Rd.back ((false, ()), ())))
          (Fr.val (Rd.next ((IntKind.i64.wrap (x.1.1 + 1), x.1.2.1, x.1.2.2.1, x.1.2.2.1.getD x.1.1.toNat i64.dflt, x.2.1.2.1.getD x.1.1.toNat i64.dflt, ()), (x.2.1.1, x.2.1.2.1, ()), ()))))))
    (Fr.val (Rd.out ((), ())))

theorem semR : Does Try.prog (loopOf Try.f136 0) ptR.M ptR frR :=
  Does.of_run C3_ok (bs := 0) (Λ := noΛ) rfl rfl rfl (fun E => noΛ_ok _ 0) (fun x => by kernel_rfl)

theorem not_true_of {b : Bool} (h : (!b) = true) : b = false := by cases b <;> first | rfl | cases h
theorem not_false_of {b : Bool} (h : (!b) = false) : b = true := by cases b <;> first | rfl | cases h

structure InvR (i n : Int) (l at_ val : List Int) : Prop where
  same : l = at_
  len : n = l.length
  both : at_.length = val.length
  lo : 0 ≤ i
  hi : i ≤ n
  big : (l.length : Int) ≤ 9223372036854775807

def FR (x : ptR.M.X) : Fr ptR.Out :=
  Fr.need (InvR x.1.1 x.1.2.1 x.1.2.2.1 x.2.1.1 x.2.1.2.1)
    (Fr.br (rises (x.1.2.2.1.drop x.1.1.toNat) (x.2.1.2.1.drop x.1.1.toNat) x.1.2.2.2.1 x.1.2.2.2.2.1) (Fr.val (Rd.out ((), ()))) (Fr.val (Rd.back ((false, ()), ()))))

theorem lawR (i n : Int) (l : List Int) (d v : Int) (at_ val : List Int) (hinv : InvR i n l at_ val) (Q : ptR.Out → Prop)
    (hq : (Fr.br (rises (l.drop i.toNat) (val.drop i.toNat) d v) (Fr.val (Rd.out ((), ()))) (Fr.val (Rd.back ((false, ()), ()))) : Fr ptR.Out).satP Q) :
    (frR ((i, n, l, d, v, ()), (at_, val, ()), ())).satP fun
      | .next x' => InvR x'.1.1 x'.1.2.1 x'.1.2.2.1 x'.2.1.1 x'.2.1.2.1 ∧ (x'.1.2.1 - x'.1.1).toNat < (n - i).toNat ∧ (FR x').satP Q
      | .out y => Q (.out y)
      | .back z => Q (.back z)
      | .pan p => Q (.pan p) := by
  obtain ⟨rfl, rfl, h3, h4, h5, h6⟩ := hinv
  refine ⟨fun hi => ?_, fun hi => ?_⟩
  · have hi' : i < l.length := by simpa using hi
    have hl : i.toNat < l.length := by omega
    have hv : i.toNat < val.length := by omega
    have e1 : l.drop i.toNat = l[i.toNat] :: l.drop (i.toNat + 1) := List.drop_eq_getElem_cons hl
    have e2 : val.drop i.toNat = val[i.toNat] :: val.drop (i.toNat + 1) := List.drop_eq_getElem_cons hv
    have g1 : l.getD i.toNat i64.dflt = l[i.toNat] := by rw [List.getD_eq_getElem?_getD, List.getElem?_eq_getElem hl]; rfl
    have g2 : val.getD i.toNat i64.dflt = val[i.toNat] := by rw [List.getD_eq_getElem?_getD, List.getElem?_eq_getElem hv]; rfl
    rw [e1, e2] at hq
    generalize hx : l[i.toNat] = x at *
    generalize hy : val[i.toNat] = y at *
    have hw : IntKind.i64.wrap (i + 1) = i + 1 := IntWalk.i64_in _ (by omega)
    have hn : (i + 1).toNat = i.toNat + 1 := by omega
    refine ⟨⟨h4, hi'⟩, ⟨h4, by show i < (val.length : Int); omega⟩, ?_⟩
    show ((bif bif bif decide (l.getD i.toNat i64.dflt ≤ d) then true else decide (l.getD i.toNat i64.dflt > 292194) then true else val.getD i.toNat i64.dflt == v then true else !(money (val.getD i.toNat i64.dflt))) = true → Q (Rd.back ((false, ()), ()))) ∧
      ((bif bif bif decide (l.getD i.toNat i64.dflt ≤ d) then true else decide (l.getD i.toNat i64.dflt > 292194) then true else val.getD i.toNat i64.dflt == v then true else !(money (val.getD i.toNat i64.dflt))) = false →
        InvR (IntKind.i64.wrap (i + 1)) l.length l l val ∧ ((l.length : Int) - IntKind.i64.wrap (i + 1)).toNat < ((l.length : Int) - i).toNat ∧
          (FR ((IntKind.i64.wrap (i + 1), (l.length : Int), l, l.getD i.toNat i64.dflt, val.getD i.toNat i64.dflt, ()), (l, val, ()), ())).satP Q)
    rw [g1, g2, hw]
    have hcond : (bif bif bif decide (x ≤ d) then true else decide (x > 292194) then true else y == v then true else !(money y)) = !(decide (d < x) && (decide (x ≤ 292194) && (!(y == v) && money y))) := by
      have a1 : decide (x ≤ d) = !decide (d < x) := by by_cases h : x ≤ d <;> simp [h] <;> omega
      have a2 : decide (x > 292194) = !decide (x ≤ 292194) := by by_cases h : x ≤ 292194 <;> simp [h] <;> omega
      rw [a1, a2]
      cases decide (d < x) <;> cases decide (x ≤ 292194) <;> cases (y == v) <;> cases money y <;> rfl
    rw [hcond]
    have hri : rises (x :: l.drop (i.toNat + 1)) (y :: val.drop (i.toNat + 1)) d v = ((decide (d < x) && (decide (x ≤ 292194) && (!(y == v) && money y))) && rises (l.drop (i.toNat + 1)) (val.drop (i.toNat + 1)) x y) := rfl
    rw [hri] at hq
    refine ⟨fun hb => ?_, fun hb => ?_⟩
    · have hb' : (decide (d < x) && (decide (x ≤ 292194) && (!(y == v) && money y))) = false := not_true_of hb
      rw [hb'] at hq
      exact hq.2 rfl
    · have hb' : (decide (d < x) && (decide (x ≤ 292194) && (!(y == v) && money y))) = true := not_false_of hb
      rw [hb', Bool.true_and] at hq
      have hI : InvR (i + 1) l.length l l val := ⟨rfl, rfl, h3, by omega, by omega, h6⟩
      refine ⟨hI, by omega, hI, ?_⟩
      show (Fr.br (rises (l.drop (i + 1).toNat) (val.drop (i + 1).toNat) x y) (Fr.val (Rd.out ((), ()))) (Fr.val (Rd.back ((false, ()), ()))) : Fr ptR.Out).satP Q
      rw [hn]
      exact hq
  · have hi' : ¬ i < l.length := by simpa using hi
    have hl : l.drop i.toNat = [] := List.drop_eq_nil_of_le (by omega)
    rw [hl] at hq
    exact hq.1 rfl

theorem loopR : Does Try.prog (.loop (loopOf Try.f136 0)) ptR.M ptR FR := by
  refine Does.loop (n := 48) (id := 0) semR (inv := fun x => InvR x.1.1 x.1.2.1 x.1.2.2.1 x.2.1.1 x.2.1.2.1) (μ := fun x => (x.1.2.1 - x.1.1).toNat) ?_ (fun x Q h => h.1)
  rintro ⟨⟨i, n, l, d, v, _⟩, ⟨at_, val, _⟩, _⟩ hinv Q hq
  exact lawR i n l d v at_ val hinv Q hq.2

def ΛR : Nat → St → Option Tr := fun _ => ptR.han Γ3 ptR.M FR

def frRt (x : denP [.d stepT]) : Fr (denL [.bool]) :=
  Fr.br ((x.1.1.length : Int) != (x.1.2.1.length : Int)) (Fr.val (false, ()))
    (Fr.need (InvR 0 x.1.1.length x.1.1 x.1.1 x.1.2.1)
      (Fr.br (rises (x.1.1.drop (Int.toNat 0)) (x.1.2.1.drop (Int.toNat 0)) 0 0) (Fr.val (true, ())) (Fr.val (false, ()))))

theorem right_fr : SoundCt Try.prog 136 ⟨[.d stepT], [.bool], fun xs => (frRt xs).get, fun xs => [(frRt xs).ok]⟩ :=
  fn_sound C3_ok (Λ := ΛR) (fn := Try.f136) (([], [], ()), ()) (by kernel_rfl) (fun c E hc => lam_one hc (by kernel_rfl) (b := loopOf Try.f136 0) (by kernel_rfl) (Does.han C3_ok rfl loopR)) (fun xs => by kernel_rfl)

/-- Steps that may be. -/
def rightSt (f : stepT.den) : Bool := decide (f.1.length = f.2.1.length) && rises f.1 f.2.1 0 0

def cRight : Ct := ⟨[.d stepT], [.bool], fun x => (rightSt x.1, ()), fun _ => []⟩

theorem right_ok : SoundCt Try.prog 136 cRight :=
  conv right_fr _ _ fun w F xs vs hr _ => by
    obtain ⟨⟨at_, val, _⟩, _⟩ := xs
    obtain ⟨v, vs', rfl, hv, _⟩ := hr
    have hwf := RepT.wf hv.2.2
    have hlen : (at_.length : Int) ≤ 9223372036854775807 := by
      have := hwf.1.1
      simp only [maxLen] at this
      omega
    by_cases hl : at_.length = val.length
    · have hne : ((at_.length : Int) != (val.length : Int)) = false := by simp [hl]
      refine ⟨⟨fun hb => ?_, fun _ => ⟨⟨rfl, rfl, hl, Int.le_refl _, by omega, hlen⟩, ⟨fun _ => trivial, fun _ => trivial⟩⟩⟩, ?_⟩
      · trivial
      · show (if ((at_.length : Int) != (val.length : Int)) = true then (false, ()) else if rises at_ val 0 0 = true then (true, ()) else (false, ())) = (decide (at_.length = val.length) && rises at_ val 0 0, ())
        rw [hne, decide_eq_true hl]
        cases rises at_ val 0 0 <;> rfl
    · have hne : ((at_.length : Int) != (val.length : Int)) = true := by simp; omega
      refine ⟨⟨fun _ => trivial, fun hb => ?_⟩, ?_⟩
      · have hb' : ((at_.length : Int) != (val.length : Int)) = false := hb
        rw [hne] at hb'
        cases hb'
      · show (if ((at_.length : Int) != (val.length : Int)) = true then (false, ()) else _) = (decide (at_.length = val.length) && rises at_ val 0 0, ())
        rw [hne, decide_eq_false hl]
        rfl

end Go.Proofs.Ytbplccbjgfappaa

/-
  step.pieces: what goes through the days of a span, by what holds on them.
-/
namespace Go.Proofs.Ytbplccbjgfappaa
open Go Go.Ab Go.RowKit Go.Proofs Go.Shelf

attribute [local go_sem] Oper.semAt_some

/-- A slice of numbers, by its cells. -/
theorem sl_cells {w : World} {F : Nat → Prop} {l : List Int} {v : Value} (h : RepT w F ints l (fun _ u => u = v)) :
    ∃ A c, v = .slice A l.length c ∧ l.length ≤ c ∧ c ≤ maxLen ∧ (0 < l.length → ∃ b off, A = some ⟨b, off, none⟩ ∧ F b ∧ ∀ (i : Nat) (x : Int), l[i]? = some x → w.cell? ⟨b, off + i, none⟩ = some (.int .i64 x) ∧ -9223372036854775808 ≤ x ∧ x ≤ 9223372036854775807) := by
  obtain ⟨A, c, rfl, h1, h2, h3⟩ := h
  refine ⟨A, c, rfl, h1, h2, fun hp => ?_⟩
  obtain ⟨ad, rfl, hF, hc, _⟩ := h3 0 l[0] (List.getElem?_eq_getElem hp)
  have hs : ad.spot = none := by
    have hc' : w.cell? (ad.add (0 * i64.size + 0)) = some (.int .i64 l[0]) := hc
    have he : ad.add (0 * i64.size + 0) = ad := by simp [Addr.add]
    rw [he] at hc'
    unfold World.cell? at hc'
    split at hc'
    · split at hc'
      · cases hc'
      · rename_i hsp
        cases hsp2 : ad.spot with
        | none => rfl
        | some _ => rw [hsp2] at hsp; exact absurd rfl hsp
    · cases hc'
  obtain ⟨b, off, sp⟩ := ad
  simp only at hs
  subst hs
  refine ⟨b, off, rfl, hF, fun i x hx => ?_⟩
  obtain ⟨ad, hA, _, hcx, hr⟩ := h3 i x hx
  simp only [Option.some.injEq] at hA
  subst hA
  have hcx' : w.cell? ((⟨b, off, none⟩ : Addr).add (i * 1 + 0)) = some (.int .i64 x) := hcx
  have he : (⟨b, off, none⟩ : Addr).add (i * 1 + 0) = ⟨b, off + i, none⟩ := by
    unfold Addr.add
    split
    · have : i = 0 := by omega
      subst this
      rfl
    · simp
  rw [he] at hcx'
  exact ⟨hcx', hr⟩

/-- The spans of one value each: from one day on, to another. -/
def piecesGo (f : stepT.den) (e : Int) : List Int → Int → List (Int × Int × Int)
  | [], a => [(a, e, valAt f a)]
  | d :: l, a => if d ≤ a ∨ e ≤ d then piecesGo f e l a else (a, d, valAt f a) :: piecesGo f e l d

theorem piecesGo_pos (f : stepT.den) (e : Int) : (l : List Int) → (a : Int) → 0 < (piecesGo f e l a).length
  | [], _ => by simp [piecesGo]
  | d :: l, a => by
    unfold piecesGo
    split
    · exact piecesGo_pos f e l a
    · simp

def KpS (n₀ B1 B2 : Nat) (W W' : World) : Prop := Below n₀ W W' ∧ W'.heap[B1]? = W.heap[B1]? ∧ W'.heap[B2]? = W.heap[B2]?
theorem KpS.refl (n₀ B1 B2 : Nat) (W : World) : KpS n₀ B1 B2 W W := ⟨Below.refl _ _, rfl, rfl⟩
theorem KpS.trans {n₀ B1 B2 : Nat} {A B C : World} (h : KpS n₀ B1 B2 A B) (k : KpS n₀ B1 B2 B C) : KpS n₀ B1 B2 A C := ⟨h.1.trans k.1, k.2.1.trans h.2.1, k.2.2.trans h.2.2⟩
theorem KpS.below {n₀ B1 B2 : Nat} {W W' : World} (h : Below W.heap.size W W') (h0 : n₀ ≤ W.heap.size) (h1 : B1 < W.heap.size) (h2 : B2 < W.heap.size) : KpS n₀ B1 B2 W W' := ⟨h.mono h0, h.block _ h1, h.block _ h2⟩

theorem abide_below {β : Type} {B : Nat} {J : β → World → Prop} (hJ : AbidesFrom B J) {s : β} {W W' : World} (h : J s W) (hb : Below W.heap.size W W') : J s W' :=
  hJ s W W' none h ⟨hb.os, hb.tape, hb.output, hb.size, fun k hk _ => hb.block k hk⟩ (fun _r e => nomatch e)

abbrev pieceV (x : Int × Int × Int) : Array Value := #[.agg #[.int .i64 x.1, .int .i64 x.2.1], .int .i64 x.2.2]

/-- Calls of value: what the days say. -/
def ValCalls (f : stepT.den) (va : Value) (W : World) : Prop := ∀ d : Int, -9223372036854775808 ≤ d → d ≤ 9223372036854775807 → Calls Try.prog 154 #[va, .int .i64 d] W fun e W' => e = .returned (.int .i64 (valAt f d)) ∧ Below W.heap.size W W'

theorem valCalls_of {f : stepT.den} {va : Value} {W : World} {F : Nat → Prop} (hb : ∀ b, F b → b < W.heap.size) (hr : RepV W F stepT f va) (h1 : f.1.Pairwise (· < ·)) (h2 : f.1.length = f.2.1.length) : ValCalls f va W := fun d hd1 hd2 => by
  have hi : RepV W F i64 d (.int .i64 d) := ⟨rfl, ⟨fun h => (by cases h), fun ⟨cs, h⟩ => (by cases h)⟩, rfl, hd1, hd2⟩
  refine (value_ok.2 W F (f, d, ()) [va, .int .i64 d] hb ⟨va, _, rfl, hr, _, [], rfl, hi, rfl⟩ ⟨h1, h2⟩).mono ?_
  rintro e W' ⟨v, F', rfl, hbel, _, _, hv⟩
  have hv' : RepA Try.prog W' F' (fun _ _ => True) (encV i64 (valAt f d)) v := encV_rep hv
  have hv2 : v = .int .i64 (valAt f d) := hv'.2.1
  exact ⟨by rw [hv2], hbel⟩

end Go.Proofs.Ytbplccbjgfappaa

/-
  step.pieces: its walk.
-/
namespace Go.Proofs.Ytbplccbjgfappaa
open Go Go.Ab Go.RowKit Go.Proofs Go.Shelf

attribute [local go_sem] Oper.semAt_some

theorem cell_of_block {W : World} {b : Nat} {cs : Array Value} {t : TypeId} {x : Nat × Nat} (h : W.heap[b]? = some (.cells cs t x)) (i : Nat) : W.cell? ⟨b, i, none⟩ = cs[i]? := by
  simp [World.cell?, h]

/-- What the walk of a round knows. -/
structure RoundAt (n₀ B1 B2 : Nat) (A : Option Addr) (at_ : List Int) (va vb : Value) (e0 e1 : Int) (f : stepT.den) (W : World) : Prop where
  b1 : W.heap[B1]? = some (.cells #[va, vb] 114 (0, 0))
  b2 : W.heap[B2]? = some (.cells #[.int .i64 e0, .int .i64 e1] 23 (0, 0))
  cells : 0 < at_.length → ∃ b off, A = some ⟨b, off, none⟩ ∧ b < n₀ ∧ ∀ (i : Nat) (x : Int), at_[i]? = some x → W.cell? ⟨b, off + i, none⟩ = some (.int .i64 x) ∧ -9223372036854775808 ≤ x ∧ x ≤ 9223372036854775807
  vals : ValCalls f (.agg #[va, vb]) W

section
variable {α : Type} {g : α → Int × Int × Int}

theorem nextEl {β : Type} {g : α → β} {all pre : List α} {y : β} {rest : List β} (h : pre.map g ++ y :: rest = all.map g) (hp : pre <+: all) : ∃ x, g x = y ∧ pre ++ [x] <+: all := by
  obtain ⟨t, rfl⟩ := hp
  rw [List.map_append] at h
  have h' := List.append_cancel_left h
  cases t with
  | nil => cases h'
  | cons x t =>
    simp only [List.map_cons, List.cons.injEq] at h'
    exact ⟨x, h'.1.symm, t, by simp⟩

def PieceRel (g : α → Int × Int × Int) (f : stepT.den) (e1 : Int) (at_ : List Int) (all : List α) (k : Nat) (cur : Int) (pre : List α) : Prop := pre <+: all ∧ pre.map g ++ piecesGo f e1 (at_.drop k) cur = all.map g

theorem PieceRel.skip {f : stepT.den} {e1 : Int} {at_ : List Int} {all : List α} {k : Nat} {cur : Int} {pre : List α} (h : PieceRel g f e1 at_ all k cur pre) {d : Int} (hd : at_[k]? = some d) (hc : d ≤ cur ∨ e1 ≤ d) : PieceRel g f e1 at_ all (k + 1) cur pre := by
  obtain ⟨hk, rfl⟩ := List.getElem?_eq_some_iff.1 hd
  refine ⟨h.1, ?_⟩
  have h2 := h.2
  rw [List.drop_eq_getElem_cons hk] at h2
  rw [← h2]
  conv => rhs; unfold piecesGo
  rw [if_pos hc]

theorem PieceRel.step {f : stepT.den} {e1 : Int} {at_ : List Int} {all : List α} {k : Nat} {cur : Int} {pre : List α} (h : PieceRel g f e1 at_ all k cur pre) {d : Int} (hd : at_[k]? = some d) (hc : ¬ (d ≤ cur ∨ e1 ≤ d)) :
    ∃ x, g x = (cur, d, valAt f cur) ∧ PieceRel g f e1 at_ all (k + 1) d (pre ++ [x]) ∧ pre.length < all.length := by
  obtain ⟨hk, rfl⟩ := List.getElem?_eq_some_iff.1 hd
  have h2 := h.2
  rw [List.drop_eq_getElem_cons hk] at h2
  unfold piecesGo at h2
  rw [if_neg hc] at h2
  obtain ⟨x, hx, hp⟩ := nextEl h2 h.1
  refine ⟨x, hx, ⟨hp, ?_⟩, ?_⟩
  · rw [← h2]
    simp [hx]
  · have := hp.length_le
    simp at this
    omega

theorem PieceRel.last {f : stepT.den} {e1 : Int} {at_ : List Int} {all : List α} {k : Nat} {cur : Int} {pre : List α} (h : PieceRel g f e1 at_ all k cur pre) (hk : at_.length ≤ k) :
    ∃ x, g x = (cur, e1, valAt f cur) ∧ pre ++ [x] = all ∧ pre.length < all.length := by
  have h2 := h.2
  rw [List.drop_eq_nil_of_le hk] at h2
  obtain ⟨x, hx, hp⟩ := nextEl (y := (cur, e1, valAt f cur)) (rest := []) h2 h.1
  have hl := congrArg List.length h2
  simp [piecesGo] at hl
  refine ⟨x, hx, hp.eq_of_length (by simp; omega), by omega⟩
end

set_option maxRecDepth 100000 in
set_option maxHeartbeats 2000000 in
theorem pieces1_in {α : Type} (g : α → Int × Int × Int) (all : List α) (n : Nat) (hn : 1 ≤ n) (l B1 B2 n₀ : Nat) (A : Option Addr) (c : Nat) (at_ : List Int) (vb : Value) (hvb : ∃ A' n' c', vb = .slice A' n' c') (e0 e1 : Int) (f : stepT.den) (hlen : at_.length ≤ 9223372036854775807) (he0 : -9223372036854775808 ≤ e0 ∧ e0 ≤ 9223372036854775807)
    (hall : all.map g = piecesGo f e1 at_ e0) (J Jx : List α → World → Prop) (W : World) (hJ : AbidesFrom W.heap.size J) (hn0 : n₀ ≤ W.heap.size)
    (hY : ∀ pre x W1, J pre W1 → pre.length < all.length → YieldAt Fence.wide (n - 1) Try.prog l (pieceV (g x)) W1 fun e W' =>
      (e = .returned (.bool true) ∧ J (pre ++ [x]) W' ∧ KpS n₀ B1 B2 W1 W') ∨ (e = .returned (.bool false) ∧ Jx (pre ++ [x]) W'))
    (hat : ∀ W', KpS n₀ B1 B2 W W' → RoundAt n₀ B1 B2 A at_ (.slice A at_.length c) vb e0 e1 f W') (h0 : J [] W) :
    CallsIn Fence.wide n Try.prog 153 #[.func (.yield l) #[] #[], .pointer (some ⟨B2, 0, none⟩), .pointer (some ⟨B1, 0, none⟩)] W fun e W' => (∃ v, e = .returned v) ∧
      ((∃ xs, xs = all ∧ J xs W') ∨ (∃ pre, pre <+: all ∧ Jx pre W')) := by
  obtain ⟨A', n', c', rfl⟩ := hvb
  have hro : Fence.wide.round = none := rfl
  refine callsIn_of_wp Try.func153 rfl trivial ?_ hro
  simp only [Try.ntmps153, List.size_toArray, List.length_cons, List.length_nil, Nat.reduceAdd, Nat.reduceSub, Array.replicate_succ, Array.replicate_zero, List.push_toArray, List.append_toArray, List.nil_append, List.cons_append]
  have r0 := hat W (KpS.refl _ _ _ _)
  have c10 : W.cell? ⟨B1, 0, none⟩ = some (.slice A at_.length c) := cell_of_block r0.b1 0
  have c11 : W.cell? ⟨B1, 1, none⟩ = some (.slice A' n' c') := cell_of_block r0.b1 1
  have c20 : W.cell? ⟨B2, 0, none⟩ = some (.int .i64 e0) := cell_of_block r0.b2 0
  have c21 : W.cell? ⟨B2, 1, none⟩ = some (.int .i64 e1) := cell_of_block r0.b2 1
  have hlen' := hlen
  gi_wp2
  gi_loopw [4, 12] (fun u i wr => ∃ (k : Nat) (cur : Int) (pre : List α), k ≤ at_.length ∧ i = .int .i64 k ∧ u = .int .i64 cur ∧ (-9223372036854775808 ≤ cur ∧ cur ≤ 9223372036854775807) ∧ PieceRel g f e1 at_ all k cur pre ∧ J pre wr ∧ KpS n₀ B1 B2 W wr)
    (fun _ i _ => at_.length - (intOf i).toNat)
  case atStart => exact ⟨0, e0, [], Nat.zero_le _, rfl, rfl, he0, ⟨List.nil_prefix, hall.symm⟩, h0, KpS.refl _ _ _ _⟩
  case round =>
    obtain ⟨k, cur, pre, hk, rfl, rfl, hcur, hrel, hJs, hkp⟩ := hrel
    clear c10 c11 c20 c21 r0
    have rr := hat _ hkp
    have c10 : wr.cell? ⟨B1, 0, none⟩ = some (.slice A at_.length c) := cell_of_block rr.b1 0
    have c11 : wr.cell? ⟨B1, 1, none⟩ = some (.slice A' n' c') := cell_of_block rr.b1 1
    have c21 : wr.cell? ⟨B2, 1, none⟩ = some (.int .i64 e1) := cell_of_block rr.b2 1
    by_cases hlt : k < at_.length
    · obtain ⟨b, off, rfl, hb, hcx⟩ := rr.cells (by omega)
      obtain ⟨d, hd⟩ : ∃ d, at_[k]? = some d := ⟨_, List.getElem?_eq_getElem hlt⟩
      obtain ⟨hcd, hdr⟩ := hcx k d hd
      clear hcx
      have hb1 : B1 < wr.heap.size := (Array.getElem?_eq_some_iff.1 rr.b1).1
      have hb2 : B2 < wr.heap.size := (Array.getElem?_eq_some_iff.1 rr.b2).1
      have hn1 : n₀ ≤ wr.heap.size := Nat.le_trans hn0 hkp.1.size
      by_cases t1 : d ≤ cur
      · have ht1 : decide (d ≤ cur) = true := by simpa using t1
        have hn := hrel.skip hd (.inl t1)
        gi_wp2
        exact ⟨⟨k + 1, cur, pre, by omega, by simp, rfl, hcur, hn, hJs, hkp⟩, by simp [intOf]; omega⟩
      · have ht1 : decide (d ≤ cur) = false := by simpa using t1
        by_cases t2 : e1 ≤ d
        · have ht2 : decide (d ≥ e1) = true := by simpa using t2
          have hn := hrel.skip hd (.inr t2)
          gi_wp2
          exact ⟨⟨k + 1, cur, pre, by omega, by simp, rfl, hcur, hn, hJs, hkp⟩, by simp [intOf]; omega⟩
        · have ht2 : decide (d ≥ e1) = false := by simpa using t2
          obtain ⟨x, hgx, hst, hln⟩ := hrel.step hd (by omega)
          gi_wp2
          refine ⟨trivial, ?_⟩
          refine (callsIn_wide.2 (rr.vals cur hcur.1 hcur.2)).mono ?_
          rintro e w1 ⟨rfl, hbel⟩
          have hk1 := hkp.trans (KpS.below hbel hn1 hb1 hb2)
          obtain ⟨fn, tmps, assign, body, hy, hR⟩ := hY pre x w1 (abide_below hJ hJs hbel) hln
          rw [hgx] at hy
          gi_wp2
          refine hR.mono ?_
          rintro e W3 (⟨rfl, hJ3, hk3⟩ | ⟨rfl, hJx3⟩)
          · gi_wp2
            go_roundw
            case rel => exact ⟨k + 1, d, pre ++ [x], by omega, by simp, rfl, hdr, hst, hJ3, hk1.trans hk3⟩
            case measure => simp [intOf]; omega
          · gi_wp2
            refine bodyPost_ret (results_none rfl _ _ _) rfl ?_
            exact ⟨⟨_, rfl⟩, .inr ⟨_, hst.1, hJx3⟩⟩
    · obtain rfl : k = at_.length := by omega
      obtain ⟨x, hgx, hl, hln⟩ := hrel.last (Nat.le_refl _)
      have hb1 : B1 < wr.heap.size := (Array.getElem?_eq_some_iff.1 rr.b1).1
      have hb2 : B2 < wr.heap.size := (Array.getElem?_eq_some_iff.1 rr.b2).1
      have hn1 : n₀ ≤ wr.heap.size := Nat.le_trans hn0 hkp.1.size
      have hmx : Try.prog.follows .mixedOrders = true := by kernel_rfl
      have hkd : KpS n₀ B1 B2 W wr.drew := hkp.trans ⟨⟨rfl, rfl, rfl, Nat.le_refl _, fun _ _ => rfl⟩, rfl, rfl⟩
      have rd := hat _ hkd
      have hJd : J pre wr.drew := abide_below hJ hJs ⟨rfl, rfl, rfl, Nat.le_refl _, fun _ _ => rfl⟩
      gi_wp2
      gi_region_with_o (first
        | (refine ⟨trivial, ?_⟩; gi_at_call 154; refine (callsIn_wide.2 (rd.vals cur hcur.1 hcur.2)).mono ?_; rintro e w1 ⟨rfl, hbel⟩; have d21 : w1.cell? ⟨B2, 1, none⟩ = some (.int .i64 e1) := cell_of_block (hat _ (hkd.trans (KpS.below hbel hn1 hb1 hb2))).b2 1; obtain ⟨fn, tmps, assign, body, hy, hR⟩ := hY pre x w1 (abide_below hJ hJd hbel) hln; rw [hgx] at hy)
        | (refine (hR.mono (R' := fun e W' => ∃ bv, e = .returned (.bool bv) ∧ (if bv = true then J (pre ++ [x]) W' else Jx (pre ++ [x]) W')) (fun e W' h => h.elim (fun h => ⟨true, h.1, h.2.1⟩) (fun h => ⟨false, h.1, h.2⟩))).mono ?_; rintro e W3 ⟨bv, rfl, hJ3⟩))
      all_goals go_end0
      all_goals (refine ⟨⟨_, rfl⟩, ?_⟩; cases bv; exact .inr ⟨_, ⟨[], by rw [List.append_nil]; exact hl⟩, hJ3⟩; exact .inl ⟨_, hl, hJ3⟩)

end Go.Proofs.Ytbplccbjgfappaa

/-
  step.Sum: what it says, plainly; how its pieces come.
-/
namespace Go.Proofs.Ytbplccbjgfappaa
open Go Go.Ab Go.RowKit Go.Proofs Go.Shelf

attribute [local go_sem] Oper.semAt_some

theorem money_iff {v : Int} : money v = true ↔ -4000000000000000000 ≤ v ∧ v ≤ 4000000000000000000 := by simp [money]

/-- Steps that may be: their days rise, and are days; their values are amounts. -/
theorem rises_spec : {l r : List Int} → {d v : Int} → rises l r d v = true → l.length = r.length → l.Pairwise (· < ·) ∧ (∀ x ∈ l, d < x ∧ x ≤ 292194) ∧ ∀ y ∈ r, money y = true
  | [], [], _, _, _, _ => ⟨List.Pairwise.nil, by simp, by simp⟩
  | [], _ :: _, _, _, _, hl => by simp at hl
  | _ :: _, [], _, _, _, hl => by simp at hl
  | a :: l, b :: r, d, v, h, hl => by
    simp only [rises, Bool.and_eq_true, decide_eq_true_eq] at h
    obtain ⟨⟨h1, h2, h3, h4⟩, h5⟩ := h
    obtain ⟨i1, i2, i3⟩ := rises_spec h5 (by simpa using hl)
    refine ⟨List.pairwise_cons.2 ⟨fun x hx => (i2 x hx).1, i1⟩, fun x hx => ?_, fun y hy => ?_⟩
    · rcases List.mem_cons.1 hx with rfl | hx
      · exact ⟨h1, h2⟩
      · exact ⟨Int.lt_trans h1 (i2 x hx).1, (i2 x hx).2⟩
    · rcases List.mem_cons.1 hy with rfl | hy
      · exact h4
      · exact i3 y hy

theorem rightSt_spec {f : stepT.den} (h : rightSt f = true) : f.1.length = f.2.1.length ∧ f.1.Pairwise (· < ·) ∧ (∀ x ∈ f.1, 0 < x ∧ x ≤ 292194) ∧ ∀ y ∈ f.2.1, -4000000000000000000 ≤ y ∧ y ≤ 4000000000000000000 := by
  simp only [rightSt, Bool.and_eq_true, decide_eq_true_eq] at h
  obtain ⟨h1, h2, h3⟩ := rises_spec h.2 h.1
  exact ⟨h.1, h1, h2, fun y hy => money_iff.1 (h3 y hy)⟩

theorem valAt_bd {f : stepT.den} (h : ∀ y ∈ f.2.1, -4000000000000000000 ≤ y ∧ y ≤ 4000000000000000000) (d : Int) : -4000000000000000000 ≤ valAt f d ∧ valAt f d ≤ 4000000000000000000 := by
  unfold valAt
  split
  · omega
  · rename_i k _
    rw [List.getD_eq_getElem?_getD]
    cases hk : f.2.1[k]? with
    | none => simp
    | some y =>
      have := h y (List.mem_of_getElem? hk)
      simpa using this

/-- What each piece is. -/
def PieceOk (x : Int × Int × Int) : Prop := 1 ≤ x.1 ∧ x.1 < x.2.1 ∧ x.2.1 ≤ 292195 ∧ -4000000000000000000 ≤ x.2.2 ∧ x.2.2 ≤ 4000000000000000000

theorem piecesGo_ok {f : stepT.den} (h : ∀ y ∈ f.2.1, -4000000000000000000 ≤ y ∧ y ≤ 4000000000000000000) {e : Int} (he : e ≤ 292195) : (l : List Int) → (a : Int) → 1 ≤ a → a < e → ∀ x ∈ piecesGo f e l a, PieceOk x
  | [], a, h1, h2, x, hx => by
    simp only [piecesGo, List.mem_singleton] at hx
    subst hx
    exact ⟨h1, h2, he, valAt_bd h a⟩
  | d :: l, a, h1, h2, x, hx => by
    unfold piecesGo at hx
    split at hx
    · exact piecesGo_ok h he l a h1 h2 x hx
    · rename_i hc
      rcases List.mem_cons.1 hx with rfl | hx
      · exact ⟨h1, by show a < d; omega, by show d ≤ 292195; omega, valAt_bd h a⟩
      · exact piecesGo_ok h he l d (by omega) (by omega) x hx

abbrev PieceT : Type := { x : Int × Int × Int // PieceOk x }

def sumStep (q : Int × Int) (x : Int × Int × Int) : Option (Int × Int) :=
  if max x.2.2 (-x.2.2) > (4000000000000000000 - q.2) / (x.2.1 - x.1) then none else some (q.1 + (x.2.1 - x.1) * x.2.2, q.2 + (x.2.1 - x.1) * max x.2.2 (-x.2.2))
def sumGo : List (Int × Int × Int) → Int × Int → Option (Int × Int)
  | [], q => some q
  | x :: l, q => (sumStep q x).bind (sumGo l)

theorem sumGo_append (l m : List (Int × Int × Int)) (q : Int × Int) : sumGo (l ++ m) q = (sumGo l q).bind (sumGo m) := by
  induction l generalizing q with
  | nil => rfl
  | cons x l ih =>
    simp only [List.cons_append, sumGo]
    cases sumStep q x with
    | none => rfl
    | some q' => exact ih q'

def SumInv (q : Int × Int) : Prop := 0 ≤ q.2 ∧ q.2 ≤ 4000000000000000000 ∧ -q.2 ≤ q.1 ∧ q.1 ≤ q.2

theorem sumStep_inv {q q' : Int × Int} {x : Int × Int × Int} (hx : PieceOk x) (h : sumStep q x = some q') (hq : SumInv q) : SumInv q' ∧ (x.2.1 - x.1) * max x.2.2 (-x.2.2) ≤ 4000000000000000000 - q.2 ∧ 0 ≤ (x.2.1 - x.1) * max x.2.2 (-x.2.2) ∧ -((x.2.1 - x.1) * max x.2.2 (-x.2.2)) ≤ (x.2.1 - x.1) * x.2.2 ∧ (x.2.1 - x.1) * x.2.2 ≤ (x.2.1 - x.1) * max x.2.2 (-x.2.2) := by
  obtain ⟨h1, h2, h3, h4, h5⟩ := hx
  obtain ⟨a, b, v⟩ := x
  obtain ⟨s, t⟩ := q
  obtain ⟨g1, g2, g3, g4⟩ := hq
  simp only at *
  unfold sumStep at h
  split at h
  · cases h
  · rename_i hc
    simp only [Option.some.injEq] at h
    subst h
    simp only at *
    have hn : 0 < b - a := by omega
    have hle : max v (-v) ≤ (4000000000000000000 - t) / (b - a) := by omega
    have e1 : (b - a) * max v (-v) ≤ 4000000000000000000 - t := by
      have := (Int.le_ediv_iff_mul_le hn).1 hle
      rw [Int.mul_comm]
      exact this
    have e2 : 0 ≤ (b - a) * max v (-v) := Int.mul_nonneg (by omega) (by omega)
    have e3 : (b - a) * v ≤ (b - a) * max v (-v) := Int.mul_le_mul_of_nonneg_left (by omega) (by omega)
    have e4 : -((b - a) * max v (-v)) ≤ (b - a) * v := by
      rw [← Int.mul_neg]
      exact Int.mul_le_mul_of_nonneg_left (by omega) (by omega)
    generalize (b - a) * max v (-v) = m at *
    generalize (b - a) * v = k at *
    refine ⟨⟨?_, ?_, ?_, ?_⟩, e1, e2, e4, e3⟩ <;> simp only <;> omega

/-- What a step's values are together: and why not. -/
def sumSt (f : stepT.den) (s : spanT.den) : Int × Int :=
  if rightSt f = true ∧ fullS s = true then match sumGo (piecesGo f s.2.1 f.1 s.1) (0, 0) with
    | some q => (q.1, 0)
    | none => (0, 5)
  else (0, 1)

def cSum : Ct := ⟨[.d stepT, .d spanT], [i64, i64], fun x => ((sumSt x.1 x.2.1).1, (sumSt x.1 x.2.1).2, ()), fun _ => []⟩

set_option maxRecDepth 100000 in
set_option maxHeartbeats 1000000 in
theorem pieces_in (n : Nat) (A A' : Option Addr) (l1 c1 l2 c2 : Nat) (e0 e1 : Int) (w : World) :
    CallsIn Fence.wide n Try.prog 138 #[.agg #[.slice A l1 c1, .slice A' l2 c2], .agg #[.int .i64 e0, .int .i64 e1]] w fun e w' =>
      e = .returned (.func (.func 153) #[] #[.pointer (some ⟨w.heap.size + 1, 0, none⟩), .pointer (some ⟨w.heap.size, 0, none⟩)]) ∧
      w' = (w.alloc (.cells #[.slice A l1 c1, .slice A' l2 c2] 114)).alloc (.cells #[.int .i64 e0, .int .i64 e1] 23) := by
  refine callsIn_of_wp Try.func138 rfl trivial ?_ rfl
  simp only [Try.ntmps138, List.size_toArray, List.length_cons, List.length_nil, Nat.reduceAdd, Nat.reduceSub, Array.replicate_succ, Array.replicate_zero, List.push_toArray, List.append_toArray, List.nil_append, List.cons_append]
  gi_wp2
  go_ret
  exact ⟨rfl, rfl⟩

end Go.Proofs.Ytbplccbjgfappaa

/-
  step.Sum: its walk.
-/
namespace Go.Proofs.Ytbplccbjgfappaa
open Go Go.Ab Go.RowKit Go.Proofs Go.Shelf

attribute [local go_sem] Oper.semAt_some

theorem boolCall {f : FuncId} {ps : List PT} {g : denP ps → Bool} {ok : denP ps → List Prop} (h : SoundCt Try.prog f ⟨ps, [.bool], fun x => (g x, ()), ok⟩) {w : World} {F : Nat → Prop} {xs : denP ps} {vs : List Value} (hb : ∀ b, F b → b < w.heap.size) (hr : RepPs Try.prog w F ps xs vs) (hok : conj (ok xs)) :
    Calls Try.prog f vs.toArray w fun e w' => e = .returned (.bool (g xs)) ∧ Below w.heap.size w w' := by
  refine (h.2 w F xs vs hb hr hok).mono ?_
  rintro e w' ⟨v, F', rfl, hbel, _, _, hv⟩
  have hv' : RepA Try.prog w' F' (fun _ _ => True) (encV .bool (g xs)) v := encV_rep hv
  have hv2 : v = .bool (g xs) := hv'.2
  exact ⟨by rw [hv2], hbel⟩

/-- Sum's four variables. -/
structure Four (W : World) (z : Nat) (va vb x0 x1 x4 x5 : Value) : Prop where
  b0 : W.heap[z]? = some (.cells #[va, vb] 114 (0, 0))
  b1 : W.heap[z + 1]? = some (.cells #[x0, x1] 23 (0, 0))
  b2 : Boxed W (z + 1 + 1) 3 x4
  b3 : Boxed W (z + 1 + 1 + 1) 38 x5

theorem Four.below {W W' : World} {z m : Nat} {va vb x0 x1 x4 x5 : Value} (h : Four W z va vb x0 x1 x4 x5) (hb : Below m W W') (hm : z + 3 < m) : Four W' z va vb x0 x1 x4 x5 :=
  ⟨(hb.block _ (by omega)).trans h.b0, (hb.block _ (by omega)).trans h.b1, (hb.block _ (by omega)).trans h.b2, (hb.block _ (by omega)).trans h.b3⟩

theorem Four.start (w : World) (va vb x0 x1 x4 x5 : Value) :
    Four ((((w.alloc (.cells #[va, vb] 114)).alloc (.cells #[x0, x1] 23)).alloc (.cells #[x4] 3)).alloc (.cells #[x5] 38)) w.heap.size va vb x0 x1 x4 x5 := by
  have h0 := World.alloc_heap_new w (.cells #[va, vb] 114)
  have h1 := World.alloc_heap_new (w.alloc (.cells #[va, vb] 114)) (.cells #[x0, x1] 23)
  have h2 := World.alloc_heap_new ((w.alloc (.cells #[va, vb] 114)).alloc (.cells #[x0, x1] 23)) (.cells #[x4] 3)
  have h3 := World.alloc_heap_new (((w.alloc (.cells #[va, vb] 114)).alloc (.cells #[x0, x1] 23)).alloc (.cells #[x4] 3)) (.cells #[x5] 38)
  simp only [World.size_alloc] at h1 h2 h3
  exact ⟨(Below.heap_alloc _ _ _ (by simp only [World.size_alloc]; omega)).trans ((Below.heap_alloc _ _ _ (by simp only [World.size_alloc]; omega)).trans ((Below.heap_alloc _ _ _ (by simp only [World.size_alloc]; omega)).trans h0)),
    (Below.heap_alloc _ _ _ (by simp only [World.size_alloc]; omega)).trans ((Below.heap_alloc _ _ _ (by simp only [World.size_alloc]; omega)).trans h1),
    (Below.heap_alloc _ _ _ (by simp only [World.size_alloc]; omega)).trans h2, h3⟩

theorem Four.cells {W : World} {z : Nat} {va vb x0 x1 x4 x5 : Value} (h : Four W z va vb x0 x1 x4 x5) :
    W.cell? ⟨z, 0, none⟩ = some va ∧ W.cell? ⟨z, 1, none⟩ = some vb ∧ W.cell? ⟨z + 1, 0, none⟩ = some x0 ∧ W.cell? ⟨z + 1, 1, none⟩ = some x1 ∧
      W.cell? ⟨z + 1 + 1, 0, none⟩ = some x4 ∧ W.frozen? ⟨z + 1 + 1, 0, none⟩ = false ∧ W.cell? ⟨z + 1 + 1 + 1, 0, none⟩ = some x5 ∧ W.frozen? ⟨z + 1 + 1 + 1, 0, none⟩ = false :=
  ⟨cell_of_block h.b0 0, cell_of_block h.b0 1, cell_of_block h.b1 0, cell_of_block h.b1 1, h.b2.cell, h.b2.frozen, h.b3.cell, h.b3.frozen⟩

set_option maxRecDepth 100000 in
set_option maxHeartbeats 4000000 in
theorem sum_no (f : stepT.den) (A A' : Option Addr) (l1 c1 l2 c2 : Nat) (e0 e1 : Int) (w : World)
    (hR : ∀ W, Below w.heap.size w W → Calls Try.prog 136 #[.agg #[.slice A l1 c1, .slice A' l2 c2]] W fun e w' => e = .returned (.bool (rightSt f)) ∧ Below W.heap.size W w')
    (hF : ∀ W, Calls Try.prog 137 #[.agg #[.int .i64 e0, .int .i64 e1]] W fun e w' => e = .returned (.bool (fullS (e0, e1, ()))) ∧ Below W.heap.size W w')
    (hno : ¬ (rightSt f = true ∧ fullS (e0, e1, ()) = true)) :
    CallsIn Fence.wide 8 Try.prog 100 #[.agg #[.slice A l1 c1, .slice A' l2 c2], .agg #[.int .i64 e0, .int .i64 e1]] w fun e w' => e = .returned (.tuple #[.int .i64 0, .int .i64 1]) ∧ Below w.heap.size w w' := by
  refine callsIn_of_wp Try.func100 rfl trivial ?_ rfl
  simp only [Try.ntmps100, List.size_toArray, List.length_cons, List.length_nil, Nat.reduceAdd, Nat.reduceSub, Array.replicate_succ, Array.replicate_zero, List.push_toArray, List.append_toArray, List.nil_append, List.cons_append]
  generalize hb1 : rightSt f = b1 at *
  generalize hb2 : fullS (e0, e1, ()) = b2 at *
  have hB4 : Below w.heap.size w ((((w.alloc (.cells #[.slice A l1 c1, .slice A' l2 c2] 114)).alloc (.cells #[.int .i64 e0, .int .i64 e1] 23)).alloc (.cells #[.int .i64 0] 3)).alloc (.cells #[.int .i64 0] 38)) :=
    ((((Below.refl _ w).alloc (Nat.le_refl _) _).alloc (by simp) _).alloc (by simp; omega) _).alloc (by simp; omega) _
  have hS := Four.start w (.slice A l1 c1) (.slice A' l2 c2) (.int .i64 e0) (.int .i64 e1) (.int .i64 0) (.int .i64 0)
  have hz : w.heap.size + 3 < ((((w.alloc (.cells #[.slice A l1 c1, .slice A' l2 c2] 114)).alloc (.cells #[.int .i64 e0, .int .i64 e1] 23)).alloc (.cells #[.int .i64 0] 3)).alloc (.cells #[.int .i64 0] 38)).heap.size := by simp
  have HS := Lib.hid hS
  have HZ := Lib.hid hz
  clear hS hz
  cases b1
  · gi_wp2_with (refine ⟨trivial, ?_⟩; gi_at_call 136; refine (callsIn_wide.2 (hR _ hB4)).mono ?_; rintro e w1 ⟨rfl, hb⟩; obtain ⟨k0, k1, k2, k3, k4, k5, k6, k7⟩ := (HS.out.below hb HZ.out).cells)
    refine ⟨trivial, ?_⟩
    gi_wp2
    refine bodyPost_ret (v := .tuple #[.int .i64 0, .int .i64 1]) (by simp [results, Try.results100, go_sem, k4, k6]) rfl ⟨rfl, ?_⟩
    exact (((hB4.trans (hb.mono (by simp; omega))).setCell (p := ⟨w.heap.size + 1 + 1, 0, none⟩) (by simp; omega) _).setCell (p := ⟨w.heap.size + 1 + 1 + 1, 0, none⟩) (by simp; omega) _)
  · cases b2
    · gi_wp2_with (first | (refine ⟨trivial, ?_⟩; gi_at_call 136; refine (callsIn_wide.2 (hR _ hB4)).mono ?_; rintro e w1 ⟨rfl, hb⟩; obtain ⟨k0, k1, k2, k3, k4, k5, k6, k7⟩ := (HS.out.below hb HZ.out).cells) | (refine ⟨trivial, ?_⟩; gi_at_call 137; refine (callsIn_wide.2 (hF _)).mono ?_; rintro e w2 ⟨rfl, hb2⟩; obtain ⟨m0, m1, m2, m3, m4, m5, m6, m7⟩ := ((HS.out.below hb HZ.out).below hb2 (Nat.lt_of_lt_of_le HZ.out hb.size)).cells))
      refine bodyPost_ret (v := .tuple #[.int .i64 0, .int .i64 1]) (by simp [results, Try.results100, go_sem, m4, m6]) rfl ⟨rfl, ?_⟩
      exact ((((hB4.trans (hb.mono (by simp; omega))).trans (hb2.mono (Nat.le_trans (hB4.trans (hb.mono (by simp; omega))).size (Nat.le_refl _)))).setCell (p := ⟨w.heap.size + 1 + 1, 0, none⟩) (by simp; omega) _).setCell (p := ⟨w.heap.size + 1 + 1 + 1, 0, none⟩) (by simp; omega) _)
    · exact absurd ⟨rfl, rfl⟩ hno

/-- The pieces, as what is gone through. -/
theorem pieces_stops (m : Nat) (hm : 1 ≤ m) (f : stepT.den) (A A' : Option Addr) (c1 l2 c2 : Nat) (e0 e1 : Int) (all : List PieceT) (hall : all.map Subtype.val = piecesGo f e1 f.1 e0) (hlen : f.1.length ≤ 9223372036854775807) (he0 : -9223372036854775808 ≤ e0 ∧ e0 ≤ 9223372036854775807) (w : World) (B1 B2 : Nat) (W0 : World) (h0 : Below w.heap.size w W0)
    (hb1 : W0.heap[B1]? = some (.cells #[.slice A f.1.length c1, .slice A' l2 c2] 114 (0, 0))) (hb2 : W0.heap[B2]? = some (.cells #[.int .i64 e0, .int .i64 e1] 23 (0, 0)))
    (hcells : ∀ W, Below w.heap.size w W → 0 < f.1.length → ∃ b off, A = some ⟨b, off, none⟩ ∧ b < w.heap.size ∧ ∀ (i : Nat) (x : Int), f.1[i]? = some x → W.cell? ⟨b, off + i, none⟩ = some (.int .i64 x) ∧ -9223372036854775808 ≤ x ∧ x ≤ 9223372036854775807)
    (hvals : ∀ W, Below w.heap.size w W → ValCalls f (.agg #[.slice A f.1.length c1, .slice A' l2 c2]) W) :
    SeqStopsK Fence.wide m Try.prog 153 #[.pointer (some ⟨B2, 0, none⟩), .pointer (some ⟨B1, 0, none⟩)] (fun x : PieceT => pieceV x.1) (KpS w.heap.size B1 B2) (fun xs => xs = all) (fun pre => pre <+: all) all.length W0 := fun l J Jx W hW hJ hJx hY hJ0 => by
  have g1 : B1 < W0.heap.size := (Array.getElem?_eq_some_iff.1 hb1).1
  have g2 : B2 < W0.heap.size := (Array.getElem?_eq_some_iff.1 hb2).1
  have hB : Below w.heap.size w W := h0.trans (hW.mono h0.size)
  refine pieces1_in Subtype.val all m hm l B1 B2 w.heap.size A c1 f.1 (.slice A' l2 c2) ⟨_, _, _, rfl⟩ e0 e1 f hlen he0 hall J Jx W hJ hB.size hY (fun W' hk => ?_) hJ0
  have hB' := hB.trans hk.1
  exact ⟨hk.2.1.trans ((hW.block _ g1).trans hb1), hk.2.2.trans ((hW.block _ g2).trans hb2), hcells W' hB', hvals W' hB'⟩

/-- How it ends. -/
def SumEnd (o : Option (Int × Int)) (e : Ending) : Prop := match o with
  | some q => e = .returned (.tuple #[.int .i64 q.1, .int .i64 0])
  | none => e = .returned (.tuple #[.int .i64 0, .int .i64 5])

/-- Between two rounds. -/
structure SumI (w : World) (z0 b4 b5 b6 b7 : Nat) (pre : List PieceT) (W : World) (q : Int × Int) : Prop where
  sum : sumGo (pre.map Subtype.val) (0, 0) = some q
  inv : SumInv q
  x6 : Boxed W b6 3 (.int .i64 q.1)
  x7 : Boxed W b7 3 (.int .i64 q.2)
  x4 : Boxed W b4 3 (.int .i64 0)
  x5 : Boxed W b5 38 (.int .i64 0)
  bel : Below w.heap.size w W
  sz : z0 ≤ W.heap.size

structure SumX (w : World) (b4 b5 : Nat) (c : Code) (pre : List PieceT) (W : World) : Prop where
  ret : c = .ret
  sum : sumGo (pre.map Subtype.val) (0, 0) = none
  x4 : Boxed W b4 3 (.int .i64 0)
  x5 : Boxed W b5 38 (.int .i64 5)
  bel : Below w.heap.size w W

theorem box_abides {X Y : World} {row : Option Nat} {B b : Nat} {t : TypeId} {v : Value} (h : Boxed X b t v) (hg : X.grownBy Y row) (hr : ∀ r, row = some r → B ≤ r ∧ ∃ o : Obj, X.heap[r]? = some o ∧ o.isCells = false) : Boxed Y b t v :=
  boxed_own b t (fun (_ : Unit) => v) () X Y row h hg (fun r e => (hr r e).2)

theorem sumI_own {w : World} {z0 b4 b5 b6 b7 B : Nat} (hB : w.heap.size ≤ B) : OwnFrom B (fun pre W => ∃ q, SumI w z0 b4 b5 b6 b7 pre W q) := fun pre X Y row hs hg hr => by
  obtain ⟨q, h⟩ := hs
  exact ⟨q, h.sum, h.inv, box_abides h.x6 hg hr, box_abides h.x7 hg hr, box_abides h.x4 hg hr, box_abides h.x5 hg hr, h.bel.grown hg h.bel.size (fun k e => Nat.le_trans hB (hr k e).1), Nat.le_trans h.sz hg.size⟩

theorem sumX_own {w : World} {b4 b5 B : Nat} (hB : w.heap.size ≤ B) (c : Code) : OwnFrom B (fun pre W => SumX w b4 b5 c pre W) := fun _pre _X _Y _row h hg hr =>
  ⟨h.ret, h.sum, box_abides h.x4 hg hr, box_abides h.x5 hg hr, h.bel.grown hg h.bel.size (fun k e => Nat.le_trans hB (hr k e).1)⟩

/-- The loop's variables. -/
def SumA (w0 : Nat) (a : Int × Int × Int → Nat → Act) (x : PieceT) (a' : Act) (W : World) : Prop := ∃ Bx, w0 ≤ Bx ∧ W.heap[Bx]? = some (.cells #[.int .i64 x.1.1, .int .i64 x.1.2.1] 23 (0, 0)) ∧ a' = a x.1 Bx

theorem sumA_own {w0 B : Nat} {a : Int × Int × Int → Nat → Act} (x : PieceT) (a' : Act) : OwnFrom B (fun (_ : Unit) W => SumA w0 a x a' W) := fun _ X Y row hs hg hr => by
  obtain ⟨Bx, h1, h2, h3⟩ := hs
  refine ⟨Bx, h1, (hg.block Bx (Array.getElem?_eq_some_iff.1 h2).1 (fun e => ?_)).trans h2, h3⟩
  obtain ⟨_, o, ho, hc⟩ := hr Bx e.symm
  rw [h2] at ho
  cases ho
  cases hc

theorem max_if (v : Int) : max v (-v) = if v < -v then -v else v := by split <;> omega

theorem sum_snoc {pre : List PieceT} {q : Int × Int} (h : sumGo (pre.map Subtype.val) (0, 0) = some q) (x : PieceT) : sumGo ((pre ++ [x]).map Subtype.val) (0, 0) = sumStep q x.1 := by
  rw [List.map_append, sumGo_append, h]
  show (sumStep q x.1).bind (sumGo []) = _
  cases sumStep q x.1 <;> rfl

theorem setCell_block (W : World) {b k : Nat} (v : Value) (h : k ≠ b) : (W.setCell ⟨b, 0, none⟩ v).heap[k]? = W.heap[k]? := by
  by_cases hk : k < W.heap.size
  · exact (grownBy_setCell' W b v).block k hk (fun e => h (by cases e; rfl))
  · rw [Array.getElem?_eq_none (by rw [World.size_setCell]; omega), Array.getElem?_eq_none (by omega)]

theorem sumBody_stop {w W : World} {z0 b4 b5 b6 b7 : Nat} {pre : List PieceT} {s a x0 x1 v : Int} (hi : SumI w z0 b4 b5 b6 b7 pre W (s, a)) (hx : PieceOk (x0, x1, v)) (hc : (4000000000000000000 - a) / (x1 - x0) < if v < -v then -v else v)
    (h45 : b4 ≠ b5) (h4 : w.heap.size ≤ b4) (h5 : w.heap.size ≤ b5) :
    SumX w b4 b5 .ret (pre ++ [⟨(x0, x1, v), hx⟩]) ((W.setCell ⟨b4, 0, none⟩ (.int .i64 0)).setCell ⟨b5, 0, none⟩ (.int .i64 5)) := by
  refine ⟨rfl, ?_, (hi.x4.set _).other h45 _, (hi.x5.other (Ne.symm h45) _).set _, (hi.bel.setCell (p := ⟨b4, 0, none⟩) h4 _).setCell (p := ⟨b5, 0, none⟩) h5 _⟩
  rw [sum_snoc hi.sum]
  unfold sumStep
  rw [if_pos]
  show max v (-v) > (4000000000000000000 - a) / (x1 - x0)
  rw [max_if]
  exact hc

theorem sumBody_next {w W : World} {z0 b4 b5 b6 b7 : Nat} {pre : List PieceT} {s a x0 x1 v m : Int} (hi : SumI w z0 b4 b5 b6 b7 pre W (s, a)) (hx : PieceOk (x0, x1, v)) (hc : (if v < -v then -v else v) ≤ (4000000000000000000 - a) / (x1 - x0)) (hm : m = if v < -v then -v else v)
    (h46 : b4 ≠ b6) (h47 : b4 ≠ b7) (h56 : b5 ≠ b6) (h57 : b5 ≠ b7) (h67 : b6 ≠ b7) (h6 : w.heap.size ≤ b6) (h7 : w.heap.size ≤ b7) :
    SumI w z0 b4 b5 b6 b7 (pre ++ [⟨(x0, x1, v), hx⟩]) ((W.setCell ⟨b6, 0, none⟩ (.int .i64 (wrap64 (s + wrap64 ((x1 - x0) * v))))).setCell ⟨b7, 0, none⟩ (.int .i64 (wrap64 (a + wrap64 ((x1 - x0) * m))))) (s + (x1 - x0) * v, a + (x1 - x0) * max v (-v)) := by
  have hs : sumStep (s, a) (x0, x1, v) = some (s + (x1 - x0) * v, a + (x1 - x0) * max v (-v)) := by
    unfold sumStep
    rw [if_neg]
    show ¬ max v (-v) > (4000000000000000000 - a) / (x1 - x0)
    rw [max_if]
    omega
  have hmm : m = max v (-v) := by rw [max_if]; exact hm
  obtain ⟨hinv, k1, k2, k3, k4⟩ := sumStep_inv hx hs hi.inv
  obtain ⟨j1, j2, j3, j4⟩ := hi.inv
  simp only at k1 k2 k3 k4 j1 j2 j3 j4
  subst hmm
  have e1 : wrap64 (s + wrap64 ((x1 - x0) * v)) = s + (x1 - x0) * v := by
    rw [IntWalk.wrap64_in ((x1 - x0) * v) (by omega), IntWalk.wrap64_in _ (by omega)]
  have e2 : wrap64 (a + wrap64 ((x1 - x0) * max v (-v))) = a + (x1 - x0) * max v (-v) := by
    rw [IntWalk.wrap64_in ((x1 - x0) * max v (-v)) (by omega), IntWalk.wrap64_in _ (by omega)]
  rw [e1, e2]
  exact ⟨by rw [sum_snoc hi.sum]; exact hs, hinv, (hi.x6.set _).other h67 _, (hi.x7.other (Ne.symm h67) _).set _, (hi.x4.other h46 _).other h47 _, (hi.x5.other h56 _).other h57 _,
    (hi.bel.setCell (p := ⟨b6, 0, none⟩) h6 _).setCell (p := ⟨b7, 0, none⟩) h7 _, by rw [World.size_setCell, World.size_setCell]; exact hi.sz⟩

theorem kp_set2 {n₀ B1 B2 b c : Nat} (W : World) (u v : Value) (hb : n₀ ≤ b) (hc : n₀ ≤ c) (h1 : B1 ≠ b) (h2 : B1 ≠ c) (h3 : B2 ≠ b) (h4 : B2 ≠ c) : KpS n₀ B1 B2 W ((W.setCell ⟨b, 0, none⟩ u).setCell ⟨c, 0, none⟩ v) :=
  ⟨((Below.refl n₀ W).setCell (p := ⟨b, 0, none⟩) hb _).setCell (p := ⟨c, 0, none⟩) hc _, (setCell_block _ _ h2).trans (setCell_block _ _ h1), (setCell_block _ _ h4).trans (setCell_block _ _ h3)⟩

set_option maxRecDepth 100000 in
set_option maxHeartbeats 4000000 in
theorem sum_yes (f : stepT.den) (A A' : Option Addr) (c1 l2 c2 : Nat) (e0 e1 : Int) (w : World)
    (hR : ∀ W, Below w.heap.size w W → Calls Try.prog 136 #[.agg #[.slice A f.1.length c1, .slice A' l2 c2]] W fun e w' => e = .returned (.bool true) ∧ Below W.heap.size W w')
    (hF : ∀ W, Calls Try.prog 137 #[.agg #[.int .i64 e0, .int .i64 e1]] W fun e w' => e = .returned (.bool true) ∧ Below W.heap.size W w')
    (all : List PieceT) (hall : all.map Subtype.val = piecesGo f e1 f.1 e0) (hlen : f.1.length ≤ 9223372036854775807) (he0 : -9223372036854775808 ≤ e0 ∧ e0 ≤ 9223372036854775807)
    (hcells : ∀ W, Below w.heap.size w W → 0 < f.1.length → ∃ b off, A = some ⟨b, off, none⟩ ∧ b < w.heap.size ∧ ∀ (i : Nat) (x : Int), f.1[i]? = some x → W.cell? ⟨b, off + i, none⟩ = some (.int .i64 x) ∧ -9223372036854775808 ≤ x ∧ x ≤ 9223372036854775807)
    (hvals : ∀ W, Below w.heap.size w W → ValCalls f (.agg #[.slice A f.1.length c1, .slice A' l2 c2]) W) :
    CallsIn Fence.wide 8 Try.prog 100 #[.agg #[.slice A f.1.length c1, .slice A' l2 c2], .agg #[.int .i64 e0, .int .i64 e1]] w fun e w' => SumEnd (sumGo (all.map Subtype.val) (0, 0)) e ∧ Below w.heap.size w w' := by
  refine callsIn_of_wp_marks Try.func100 rfl trivial ?_ rfl
  simp only [Try.ntmps100, List.size_toArray, List.length_cons, List.length_nil, Nat.reduceAdd, Nat.reduceSub, Array.replicate_succ, Array.replicate_zero, List.push_toArray, List.append_toArray, List.nil_append, List.cons_append]
  have hB4 : Below w.heap.size w ((((w.alloc (.cells #[.slice A f.1.length c1, .slice A' l2 c2] 114)).alloc (.cells #[.int .i64 e0, .int .i64 e1] 23)).alloc (.cells #[.int .i64 0] 3)).alloc (.cells #[.int .i64 0] 38)) :=
    ((((Below.refl _ w).alloc (Nat.le_refl _) _).alloc (by simp) _).alloc (by simp; omega) _).alloc (by simp; omega) _
  have hS := Four.start w (.slice A f.1.length c1) (.slice A' l2 c2) (.int .i64 e0) (.int .i64 e1) (.int .i64 0) (.int .i64 0)
  have hz : w.heap.size + 3 < ((((w.alloc (.cells #[.slice A f.1.length c1, .slice A' l2 c2] 114)).alloc (.cells #[.int .i64 e0, .int .i64 e1] 23)).alloc (.cells #[.int .i64 0] 3)).alloc (.cells #[.int .i64 0] 38)).heap.size := by simp
  have HS := Lib.hid hS
  have HZ := Lib.hid hz
  clear hS hz
  gi_wp2_with (first | (refine ⟨trivial, ?_⟩; gi_at_call 136; refine (callsIn_wide.2 (hR _ hB4)).mono ?_; rintro e w1 ⟨rfl, hb⟩; obtain ⟨k0, k1, k2, k3, k4, k5, k6, k7⟩ := (HS.out.below hb HZ.out).cells) | (refine ⟨trivial, ?_⟩; gi_at_call 137; refine (callsIn_wide.2 (hF _)).mono ?_; rintro e w2 ⟨rfl, hb2⟩; have HW2 := Lib.hid ((HS.out.below hb HZ.out).below hb2 (Nat.lt_of_lt_of_le HZ.out hb.size)); have HZ2 := Lib.hid (Nat.lt_of_lt_of_le (Nat.lt_of_lt_of_le HZ.out hb.size) hb2.size); have HW3 := Lib.hid (HW2.out.below (((Below.refl w2.heap.size w2).alloc (Nat.le_refl _) (.cells #[.int .i64 0] 3)).alloc (by simp) (.cells #[.int .i64 0] 3)) HZ2.out); obtain ⟨m0, m1, m2, m3, m4, m5, m6, m7⟩ := HW2.out.cells; obtain ⟨n0, n1, n2, n3, n4, n5, n6, n7⟩ := HW3.out.cells) | (refine ⟨trivial, ?_⟩; gi_at_call 138; refine (pieces_in _ _ _ _ _ _ _ _ _ _).mono ?_; rintro e w3 ⟨rfl, rfl⟩))
  obtain ⟨z2, hz2⟩ : ∃ z2, w2.heap.size = z2 := ⟨_, rfl⟩
  have hbel2 : Below w.heap.size w w2 := (hB4.trans (hb.mono (by simp; omega))).trans (hb2.mono (Nat.le_trans (by simp; omega) hb.size))
  have q0 := World.alloc_heap_new w2 (.cells #[.int .i64 0] 3)
  have q1 := World.alloc_heap_new (w2.alloc (.cells #[.int .i64 0] 3)) (.cells #[.int .i64 0] 3)
  have q2 := World.alloc_heap_new ((w2.alloc (.cells #[.int .i64 0] 3)).alloc (.cells #[.int .i64 0] 3)) (.cells #[.slice A f.1.length c1, .slice A' l2 c2] 114)
  have q3 := World.alloc_heap_new (((w2.alloc (.cells #[.int .i64 0] 3)).alloc (.cells #[.int .i64 0] 3)).alloc (.cells #[.slice A f.1.length c1, .slice A' l2 c2] 114)) (.cells #[.int .i64 e0, .int .i64 e1] 23)
  simp only [World.size_alloc] at q1 q2 q3
  have r0 := (Below.heap_alloc (((w2.alloc (.cells #[.int .i64 0] 3)).alloc (.cells #[.int .i64 0] 3)).alloc (.cells #[.slice A f.1.length c1, .slice A' l2 c2] 114)) (.cells #[.int .i64 e0, .int .i64 e1] 23) w2.heap.size (by simp only [World.size_alloc]; omega)).trans ((Below.heap_alloc _ _ _ (by simp only [World.size_alloc]; omega)).trans ((Below.heap_alloc _ _ _ (by simp only [World.size_alloc]; omega)).trans q0))
  have r1 := (Below.heap_alloc (((w2.alloc (.cells #[.int .i64 0] 3)).alloc (.cells #[.int .i64 0] 3)).alloc (.cells #[.slice A f.1.length c1, .slice A' l2 c2] 114)) (.cells #[.int .i64 e0, .int .i64 e1] 23) (w2.heap.size + 1) (by simp only [World.size_alloc]; omega)).trans ((Below.heap_alloc _ _ _ (by simp only [World.size_alloc]; omega)).trans q1)
  have r2 := (Below.heap_alloc (((w2.alloc (.cells #[.int .i64 0] 3)).alloc (.cells #[.int .i64 0] 3)).alloc (.cells #[.slice A f.1.length c1, .slice A' l2 c2] 114)) (.cells #[.int .i64 e0, .int .i64 e1] 23) (w2.heap.size + 1 + 1) (by simp only [World.size_alloc]; omega)).trans q2
  have hbW : Below w2.heap.size w2 ((((w2.alloc (.cells #[.int .i64 0] 3)).alloc (.cells #[.int .i64 0] 3)).alloc (.cells #[.slice A f.1.length c1, .slice A' l2 c2] 114)).alloc (.cells #[.int .i64 e0, .int .i64 e1] 23)) :=
    ((((Below.refl _ w2).alloc (Nat.le_refl _) _).alloc (by simp) _).alloc (by simp; omega) _).alloc (by simp; omega) _
  have hsz : ((((w2.alloc (.cells #[.int .i64 0] 3)).alloc (.cells #[.int .i64 0] 3)).alloc (.cells #[.slice A f.1.length c1, .slice A' l2 c2] 114)).alloc (.cells #[.int .i64 e0, .int .i64 e1] 23)).heap.size = w2.heap.size + 4 := by simp
  have hW4 := HW2.out.below hbW HZ2.out
  have hzz := HZ2.out
  obtain ⟨W0, hW0⟩ : ∃ W0, (((w2.alloc (.cells #[.int .i64 0] 3)).alloc (.cells #[.int .i64 0] 3)).alloc (.cells #[.slice A f.1.length c1, .slice A' l2 c2] 114)).alloc (.cells #[.int .i64 e0, .int .i64 e1] 23) = W0 := ⟨_, rfl⟩
  rw [hW0] at r0 r1 r2 q3 hbW hsz hW4 ⊢
  clear hW0 HW3 HW2 HZ2 HS HZ hB4 m0 m1 m2 m3 m4 m5 m6 m7 n0 n1 n2 n3 n4 n5 n6 n7 k0 k1 k2 k3 k4 k5 k6 k7 q0 q1 q2
  have hbel0 : Below w.heap.size w W0 := hbel2.trans (hbW.mono hbel2.size)
  clear hbW hb hb2 hz2 hbel2 hR hF
  have hzw : w.heap.size + 3 < W0.heap.size := by omega
  have hsz' : w2.heap.size + 4 ≤ W0.heap.size := by omega
  clear hsz
  refine wpIn_rangeFunc_ownH rfl (by omega) (gf := 153) (lb := #[.pointer (some ⟨w2.heap.size + 1 + 1 + 1, 0, none⟩), .pointer (some ⟨w2.heap.size + 1 + 1, 0, none⟩)]) rfl trivial (enters_of Try.func153 (by kernel_rfl) rfl)
    (pieces_stops 7 (by omega) f A A' c1 l2 c2 e0 e1 all hall hlen he0 w (w2.heap.size + 1 + 1) (w2.heap.size + 1 + 1 + 1) W0 hbel0 r2 q3 hcells hvals)
    (fun h k => h.trans k) (fun W l o o' hl ho hoc how => ⟨belowK_b (w := w) (Nat.le_refl _) W l o o' (by omega) ho hoc how, World.putObj_heap_other (by omega), World.putObj_heap_other (by omega)⟩) (Below.refl _ _) (fun _ => rfl)
    (fun pre W => ∃ q, SumI w W0.heap.size (w.heap.size + 1 + 1) (w.heap.size + 1 + 1 + 1) w2.heap.size (w2.heap.size + 1) pre W q)
    (fun c pre W => SumX w (w.heap.size + 1 + 1) (w.heap.size + 1 + 1 + 1) c pre W)
    (sumI_own (by omega)) (sumX_own (by omega)) ⟨(0, 0), rfl, ⟨by decide, by decide, by decide, by decide⟩, r0, r1, hW4.b2, hW4.b3, hbel0, Nat.le_refl _⟩
    (SumA W0.heap.size (fun x Bx => { tmps := #[.agg #[.slice A f.1.length c1, .slice A' l2 c2], .agg #[.int .i64 e0, .int .i64 e1], .pointer (some ⟨w.heap.size, 0, none⟩), .pointer (some ⟨w.heap.size + 1, 0, none⟩), .pointer (some ⟨w.heap.size + 1 + 1, 0, none⟩), .pointer (some ⟨w.heap.size + 1 + 1 + 1, 0, none⟩), .pointer (some ⟨w2.heap.size, 0, none⟩), .pointer (some ⟨w2.heap.size + 1, 0, none⟩), .pointer (some ⟨Bx, 0, none⟩), .int .i64 x.2.2, undef, undef,
      .agg #[.slice A f.1.length c1, .slice A' l2 c2], .bool true, .bool false, .bool false, .agg #[.int .i64 e0, .int .i64 e1], .bool true, .bool false, .bool false, .agg #[.slice A f.1.length c1, .slice A' l2 c2], .agg #[.int .i64 e0, .int .i64 e1], .func (.func 153) #[] #[.pointer (some ⟨w2.heap.size + 1 + 1 + 1, 0, none⟩), .pointer (some ⟨w2.heap.size + 1 + 1, 0, none⟩)],
      .agg #[.int .i64 x.1, .int .i64 x.2.1], .int .i64 x.2.2, undef, undef, undef, undef, undef, undef, undef, undef, undef, undef, undef, undef, undef, undef, undef, undef, undef, undef, undef, undef, undef, undef, undef, undef, undef, undef], defers := [] }))
    sumA_own ?assign ?body ?done ?stop
  case assign =>
    rintro l pre x W K ⟨q, hi⟩ hK
    obtain ⟨⟨x0, x1, v⟩, hx⟩ := x
    gi_wp2
    have hsz1 := hi.sz
    exact hK _ _ ((KeepsOthers.alloc _ _).from _) (KpS.below ((Below.refl _ W).alloc (Nat.le_refl _) _) hi.bel.size (by omega) (by omega))
      ⟨q, hi.sum, hi.inv, hi.x6.alloc _, hi.x7.alloc _, hi.x4.alloc _, hi.x5.alloc _, hi.bel.alloc hi.bel.size _, by simp; omega⟩ ⟨W.heap.size, hsz1, World.alloc_heap_new W _, rfl⟩
  case body =>
    rintro l pre x a' W hl ⟨r, hr⟩ ⟨q, hi⟩ ⟨Bx, hBx, bX, rfl⟩ hlt
    obtain ⟨⟨x0, x1, v⟩, hx⟩ := x
    obtain ⟨s, a⟩ := q
    have hx' : 1 ≤ x0 ∧ x0 < x1 ∧ x1 ≤ 292195 ∧ -4000000000000000000 ≤ v ∧ v ≤ 4000000000000000000 := hx
    obtain ⟨y1, y2, y3, y4, y5⟩ := hx'
    have hinv : 0 ≤ a ∧ a ≤ 4000000000000000000 ∧ -a ≤ s ∧ s ≤ a := hi.inv
    obtain ⟨i1, i2, i3, i4⟩ := hinv
    have bX' : W.heap[Bx]? = some (.cells #[.int .i64 x0, .int .i64 x1] 23 (0, 0)) := bX
    have cX0 : W.cell? ⟨Bx, 0, none⟩ = some (.int .i64 x0) := cell_of_block bX' 0
    have cX1 : W.cell? ⟨Bx, 1, none⟩ = some (.int .i64 x1) := cell_of_block bX' 1
    have c6 : W.cell? ⟨w2.heap.size, 0, none⟩ = some (.int .i64 s) := hi.x6.cell
    have c7 : W.cell? ⟨w2.heap.size + 1, 0, none⟩ = some (.int .i64 a) := hi.x7.cell
    have f6 := hi.x6.frozen
    have f7 := hi.x7.frozen
    have c4 := hi.x4.cell
    have f4 := hi.x4.frozen
    have c5 := hi.x5.cell
    have f5 := hi.x5.frozen
    have HB := Lib.hid bX'
    clear bX bX' hr
    gi_wp2
    · have hc : (4000000000000000000 - a) / (x1 - x0) < if v < -v then -v else v := by assumption
      exact ⟨((KeepsOthers.setCell _ _ _).trans (KeepsOthers.setCell _ _ _)).from _, sumBody_stop hi hx hc (by omega) (by omega) (by omega)⟩
    · have hc : (4000000000000000000 - a) / (x1 - x0) < if v < -v then -v else v := by assumption
      exact ⟨((KeepsOthers.setCell _ _ _).trans (KeepsOthers.setCell _ _ _)).from _, sumBody_stop hi hx hc (by omega) (by omega) (by omega)⟩
    · have hc : (if v < -v then -v else v) ≤ (4000000000000000000 - a) / (x1 - x0) := by assumption
      have hv : v < -v := by assumption
      exact ⟨((KeepsOthers.setCell _ _ _).trans (KeepsOthers.setCell _ _ _)).from _, kp_set2 W _ _ (by omega) (by omega) (by omega) (by omega) (by omega) (by omega), _, _,
        sumBody_next hi hx hc (by rw [if_pos hv]) (by omega) (by omega) (by omega) (by omega) (by omega) (by omega) (by omega)⟩
    · have hc : (if v < -v then -v else v) ≤ (4000000000000000000 - a) / (x1 - x0) := by assumption
      have hv : ¬ v < -v := by omega
      exact ⟨((KeepsOthers.setCell _ _ _).trans (KeepsOthers.setCell _ _ _)).from _, kp_set2 W _ _ (by omega) (by omega) (by omega) (by omega) (by omega) (by omega), _, _,
        sumBody_next hi hx hc (by rw [if_neg hv]) (by omega) (by omega) (by omega) (by omega) (by omega) (by omega) (by omega)⟩
  case done =>
    rintro D zs W hD rfl ⟨q, hi⟩ hK
    have c6 := hi.x6.cell
    have c4 := hi.x4.cell
    have f4 := hi.x4.frozen
    have c5 := hi.x5.cell
    have f5 := hi.x5.frozen
    gi_wp2
    have hK' := ((KeepsOthers.setCell W ⟨w.heap.size + 1 + 1, 0, none⟩ (.int .i64 q.1)).trans (KeepsOthers.setCell _ ⟨w.heap.size + 1 + 1 + 1, 0, none⟩ (.int .i64 0))).same D _ hK rfl
    have x4' := (hi.x4.set (.int .i64 q.1)).other (B' := w.heap.size + 1 + 1 + 1) (by omega) (.int .i64 0)
    have x5' := (hi.x5.other (B' := w.heap.size + 1 + 1) (by omega) (.int .i64 q.1)).set (.int .i64 0)
    have d4 := cell_kept x4'.cell (grownBy_putObj' _ D (.deferred none)) (fun r e => by cases e; exact ⟨_, hK', rfl⟩)
    have d5 := cell_kept x5'.cell (grownBy_putObj' _ D (.deferred none)) (fun r e => by cases e; exact ⟨_, hK', rfl⟩)
    have hbb := (hi.bel.setCell (p := ⟨w.heap.size + 1 + 1, 0, none⟩) (by show w.heap.size ≤ w.heap.size + 1 + 1; omega) (.int .i64 q.1)).setCell (p := ⟨w.heap.size + 1 + 1 + 1, 0, none⟩) (by show w.heap.size ≤ w.heap.size + 1 + 1 + 1; omega) (.int .i64 0)
    refine ⟨by simp, .inl ⟨_, _, rfl, run_takeDeferred hK', ?_⟩⟩
    refine ⟨.tuple #[.int .i64 q.1, .int .i64 0], ?_, ?_, hbb.trans (belowK_b (w := w) (Nat.le_refl _) _ D _ _ (by omega) hK' rfl rfl)⟩
    · simp [results, Try.results100, go_sem, d4, d5]
    · rw [hi.sum]
      rfl
  case stop =>
    rintro D c pre W hD ⟨r, rfl⟩ h hK
    obtain rfl := h.ret
    have c4 := h.x4.cell
    have f4 := h.x4.frozen
    have c5 := h.x5.cell
    have f5 := h.x5.frozen
    gi_wp2
    have d4 := cell_kept h.x4.cell (grownBy_putObj' _ D (.deferred none)) (fun r e => by cases e; exact ⟨_, hK, rfl⟩)
    have d5 := cell_kept h.x5.cell (grownBy_putObj' _ D (.deferred none)) (fun r e => by cases e; exact ⟨_, hK, rfl⟩)
    refine ⟨by simp, .inl ⟨_, _, rfl, run_takeDeferred hK, ?_⟩⟩
    refine ⟨.tuple #[.int .i64 0, .int .i64 5], ?_, ?_, h.bel.trans (belowK_b (w := w) (Nat.le_refl _) _ D _ _ (by omega) hK rfl rfl)⟩
    · simp [results, Try.results100, go_sem, d4, d5]
    · rw [List.map_append, sumGo_append, h.sum]
      rfl

end Go.Proofs.Ytbplccbjgfappaa

/-
  step.Sum: its contract.
-/
namespace Go.Proofs.Ytbplccbjgfappaa
open Go Go.Ab Go.RowKit Go.Proofs Go.Shelf

theorem arr2 {cs : Array Value} {a b : Value} (hs : cs.size = 2) (h0 : cs[0]? = some a) (h1 : cs[1]? = some b) : cs = #[a, b] := by
  apply Array.ext
  · simp [hs]
  · intro i hi hj
    have h2 : i < 2 := by omega
    match i, h2 with
    | 0, _ =>
      have := Array.getElem?_eq_some_iff.1 h0
      simpa using this.2
    | 1, _ =>
      have := Array.getElem?_eq_some_iff.1 h1
      simpa using this.2

theorem step_val {w : World} {F : Nat → Prop} {f : stepT.den} {v : Value} (h : RepV w F stepT f v) : ∃ a b, v = .agg #[a, b] ∧ RepT w F ints f.1 (fun _ u => u = a) ∧ RepT w F ints f.2.1 (fun _ u => u = b) := by
  obtain ⟨cs, rfl⟩ := h.2.1.1 rfl
  have hs : cs.size = 2 := h.1
  refine ⟨cs[0]'(by omega), cs[1]'(by omega), ?_, ?_, ?_⟩
  · congr 1
    exact arr2 hs (Array.getElem?_eq_getElem (by omega)) (Array.getElem?_eq_getElem (by omega))
  · refine RepT.mono (fun _ h => h) (fun _ _ => rfl) ?_ h.2.2.1
    intro j u hj hu
    have : j = 0 := by have : j < 1 := hj; omega
    subst this
    have hu' : cs[0]? = some u := hu
    rw [Array.getElem?_eq_getElem (by omega)] at hu'
    simpa using hu'.symm
  · refine RepT.mono (fun _ h => h) (fun _ _ => rfl) ?_ h.2.2.2.1
    intro j u hj hu
    have : j = 0 := by have : j < 1 := hj; omega
    subst this
    have hu' : cs[1]? = some u := hu
    rw [Array.getElem?_eq_getElem (by omega)] at hu'
    simpa using hu'.symm

theorem span_val {w : World} {F : Nat → Prop} {s : spanT.den} {v : Value} (h : RepV w F spanT s v) : v = .agg #[.int .i64 s.1, .int .i64 s.2.1] ∧ (-9223372036854775808 ≤ s.1 ∧ s.1 ≤ 9223372036854775807) ∧ -9223372036854775808 ≤ s.2.1 ∧ s.2.1 ≤ 9223372036854775807 := by
  obtain ⟨cs, rfl⟩ := h.2.1.1 rfl
  have hs : cs.size = 2 := h.1
  have h0 : cs[0]? = some (.int .i64 s.1) := h.2.2.1.1
  have h1 : cs[1]? = some (.int .i64 s.2.1) := h.2.2.2.1.1
  exact ⟨by rw [arr2 hs h0 h1], h.2.2.1.2, h.2.2.2.1.2⟩

theorem sumGo_inv : {l : List (Int × Int × Int)} → (∀ x ∈ l, PieceOk x) → {q q' : Int × Int} → SumInv q → sumGo l q = some q' → SumInv q'
  | [], _, q, q', hq, h => by
    simp only [sumGo, Option.some.injEq] at h
    subst h
    exact hq
  | x :: l, hl, q, q', hq, h => by
    simp only [sumGo] at h
    cases hs : sumStep q x with
    | none => rw [hs] at h; cases h
    | some q1 =>
      rw [hs] at h
      exact sumGo_inv (fun y hy => hl y (by simp [hy])) (sumStep_inv (hl x (by simp)) hs hq).1 h

theorem fullS_iff {a b : Int} {u : Unit} : fullS (a, b, u) = true ↔ 1 ≤ a ∧ a < b ∧ b ≤ 292195 := by
  simp [fullS]

theorem tuple2 {w : World} {F : Nat → Prop} {a b : Int} (ha : -9223372036854775808 ≤ a ∧ a ≤ 9223372036854775807) (hb : -9223372036854775808 ≤ b ∧ b ≤ 9223372036854775807) : RepR w F [i64, i64] (a, b, ()) (.tuple #[.int .i64 a, .int .i64 b]) :=
  ⟨_, rfl, _, _, rfl, ⟨rfl, ⟨fun h => (by cases h), fun ⟨cs, h⟩ => (by cases h)⟩, rfl, ha⟩, _, _, rfl, ⟨rfl, ⟨fun h => (by cases h), fun ⟨cs, h⟩ => (by cases h)⟩, rfl, hb⟩, rfl⟩

theorem asPieces : {l : List (Int × Int × Int)} → (∀ x ∈ l, PieceOk x) → ∃ all : List PieceT, all.map Subtype.val = l
  | [], _ => ⟨[], rfl⟩
  | x :: l, h => by
    obtain ⟨all, ha⟩ := asPieces (l := l) (fun y hy => h y (by simp [hy]))
    exact ⟨⟨x, h x (by simp)⟩ :: all, by simp [ha]⟩

theorem sum_ok : SoundCt Try.prog 100 cSum := by
  refine ⟨enters (fn := Try.f100) (by kernel_rfl) rfl rfl, fun w F xs vs hbd hr _ => ?_⟩
  obtain ⟨f, ⟨e0, e1, u⟩, _⟩ := xs
  obtain ⟨va, vs', rfl, hva, vb, vs'', rfl, hvb, hn⟩ := hr
  cases hn
  have hva' : RepV w F stepT f va := hva
  have hvb' : RepV w F spanT (e0, e1, u) vb := hvb
  obtain ⟨rfl, he0, he1⟩ := span_val hvb'
  obtain ⟨sa, sb, rfl, ha, hb⟩ := step_val hva'
  obtain ⟨A, c1, rfl, hl1, hl2, hcells⟩ := sl_cells ha
  obtain ⟨A', c2, rfl, hl3, hl4, _⟩ := sl_cells hb
  have hmono : ∀ W, Below w.heap.size w W → RepV W F stepT f (.agg #[.slice A f.1.length c1, .slice A' f.2.1.length c2]) := fun W hW => hva'.mono (fun _ h => h) (fun b hb => hW.block b (hbd b hb))
  have hspan : ∀ (W : World) (F : Nat → Prop), RepV W F spanT (e0, e1, u) (.agg #[.int .i64 e0, .int .i64 e1]) := fun W F => ⟨rfl, ⟨fun _ => ⟨_, rfl⟩, fun _ => rfl⟩, ⟨rfl, he0⟩, ⟨rfl, he1⟩, trivial⟩
  have hR : ∀ W, Below w.heap.size w W → Calls Try.prog 136 #[.agg #[.slice A f.1.length c1, .slice A' f.2.1.length c2]] W fun e w' => e = .returned (.bool (rightSt f)) ∧ Below W.heap.size W w' := fun W hW =>
    boolCall (ps := [.d stepT]) (g := fun x => rightSt x.1) right_ok (F := F) (xs := (f, ())) (vs := [_]) (fun b hb => Nat.lt_of_lt_of_le (hbd b hb) hW.size) ⟨_, [], rfl, hmono W hW, rfl⟩ trivial
  have hF : ∀ W, Calls Try.prog 137 #[.agg #[.int .i64 e0, .int .i64 e1]] W fun e w' => e = .returned (.bool (fullS (e0, e1, ()))) ∧ Below W.heap.size W w' := fun W =>
    boolCall (ps := [.d spanT]) (g := fun x => fullS x.1) fullS_ok (F := fun _ => False) (xs := ((e0, e1, ()), ())) (vs := [_]) (fun b hb => hb.elim) ⟨_, [], rfl, hspan W _, rfl⟩ trivial
  by_cases hyes : rightSt f = true ∧ fullS (e0, e1, ()) = true
  · obtain ⟨hr1, hr2⟩ := hyes
    obtain ⟨hlen, hup, _, hval⟩ := rightSt_spec hr1
    have hok := piecesGo_ok (f := f) hval (e := e1) (fullS_iff.1 hr2).2.2 f.1 e0 (fullS_iff.1 hr2).1 (fullS_iff.1 hr2).2.1
    obtain ⟨all, hall⟩ := asPieces hok
    rw [hr1] at hR
    rw [hr2] at hF
    have hl0 : f.1.length ≤ 9223372036854775807 := by
      have := Nat.le_trans hl1 hl2
      unfold maxLen at this
      omega
    have key := sum_yes f A A' c1 f.2.1.length c2 e0 e1 w hR hF all hall hl0 he0 (fun W hW hp => by
      obtain ⟨b, off, h1, h2, h3⟩ := hcells hp
      exact ⟨b, off, h1, hbd b h2, fun i x hx => ⟨(hW.cell (p := ⟨b, off + i, none⟩) (hbd b h2)).trans (h3 i x hx).1, (h3 i x hx).2⟩⟩)
      (fun W hW => valCalls_of (fun b hb => Nat.lt_of_lt_of_le (hbd b hb) hW.size) (hmono W hW) hup hlen)
    refine (callsIn_wide.1 key).mono ?_
    rintro e w' ⟨he, hbel⟩
    rw [hall] at he
    have hS : sumSt f (e0, e1, u) = match sumGo (piecesGo f e1 f.1 e0) (0, 0) with
        | some q => (q.1, 0)
        | none => (0, 5) := by
      unfold sumSt
      rw [if_pos ⟨hr1, hr2⟩]
      try rfl
    cases hq : sumGo (piecesGo f e1 f.1 e0) (0, 0) with
    | none =>
      rw [hq] at he hS
      have he' : e = .returned (.tuple #[.int .i64 0, .int .i64 5]) := he
      refine ⟨_, F, he', hbel, fun _ h => h, fun b hb => ⟨.inl hb, Nat.lt_of_lt_of_le (hbd b hb) hbel.size⟩, ?_⟩
      show RepR w' F [i64, i64] ((sumSt f (e0, e1, u)).1, (sumSt f (e0, e1, u)).2, ()) _
      rw [hS]
      exact tuple2 (by decide) (by decide)
    | some q =>
      rw [hq] at he hS
      have he' : e = .returned (.tuple #[.int .i64 q.1, .int .i64 0]) := he
      refine ⟨_, F, he', hbel, fun _ h => h, fun b hb => ⟨.inl hb, Nat.lt_of_lt_of_le (hbd b hb) hbel.size⟩, ?_⟩
      show RepR w' F [i64, i64] ((sumSt f (e0, e1, u)).1, (sumSt f (e0, e1, u)).2, ()) _
      rw [hS]
      obtain ⟨j1, j2, j3, j4⟩ := sumGo_inv hok (q := (0, 0)) ⟨by decide, by decide, by decide, by decide⟩ hq
      exact tuple2 ⟨by show _ ≤ q.1; omega, by show q.1 ≤ _; omega⟩ (b := 0) (by decide)
  · have key := sum_no f A A' f.1.length c1 f.2.1.length c2 e0 e1 w hR hF hyes
    refine (callsIn_wide.1 key).mono ?_
    rintro e w' ⟨rfl, hbel⟩
    refine ⟨_, F, rfl, hbel, fun _ h => h, fun b hb => ⟨.inl hb, Nat.lt_of_lt_of_le (hbd b hb) hbel.size⟩, ?_⟩
    show RepR w' F [i64, i64] ((sumSt f (e0, e1, u)).1, (sumSt f (e0, e1, u)).2, ()) _
    have hS : sumSt f (e0, e1, u) = (0, 1) := if_neg hyes
    rw [hS]
    exact tuple2 (by decide) (by decide)

end Go.Proofs.Ytbplccbjgfappaa

/-
  accrue: what a year costs on each day, out of slices: one change of it.
-/
namespace Go.Proofs.Ytbplccbjgfappaa
open Go Go.Ab Go.RowKit Go.Proofs

abbrev slsT : Ty := .sl sliceT

theorem bif_and (a b : Bool) : (bif a then b else false) = (a && b) := by cases a <;> rfl
theorem bif_or (a b : Bool) : (bif a then true else b) = (a || b) := by cases a <;> rfl

theorem i64w {n : Int} (h : -9223372036854775808 ≤ n ∧ n ≤ 9223372036854775807) : IntKind.i64.wrap n = n := IntWalk.i64_in _ h

/-- must: panics where there is an error. -/
def cMust : Pc := ⟨[.d i64], [], fun _ => (), fun x => !(x.1 == 0), fun x => ⟨38, .i64, x.1⟩, fun _ => []⟩
theorem must_ok : SoundPc Try.prog 69 cMust := by
  refine ⟨enters (fn := Try.f69) (by kernel_rfl) rfl rfl, fun w F xs vs hb hr _ => ?_⟩
  obtain ⟨v, vs', rfl, hv, hn⟩ := hr
  cases hn
  obtain ⟨n, _⟩ := xs
  have hv' : v = .int .i64 n := by
    have h : RepA Try.prog w F (fun _ _ => True) (encV i64 n) v := encV_rep hv
    exact h.2.1
  subst hv'
  by_cases h0 : n = 0
  · subst h0
    go_enter Try.func69, Try.ntmps69
    go_wp2
    go_end0
    refine .inl ⟨rfl, .tuple #[], F, rfl, Below.refl _ _, fun _ h => h, fun b h => ⟨.inl h, hb b h⟩, #[], rfl, rfl⟩
  · have hne : (n == 0) = false := by simpa using h0
    have hne2 : (n != 0) = true := by simpa using h0
    have hbad : cMust.bad (n, ()) = true := by show (!(n == 0)) = true; rw [hne]; rfl
    go_enter Try.func69, Try.ntmps69
    go_wp2
    exact ⟨rfl, .inr ⟨hbad, rfl, Below.refl _ _⟩⟩

end Go.Proofs.Ytbplccbjgfappaa

/-
  math/bits: products of 128 bits; quotients, where the high half is 0.
-/
namespace Go.Proofs.Ytbplccbjgfappaa
open Go Go.Ab Go.RowKit Go.Proofs

def m32 (a : Int) : Int := IntKind.u64.wrap ((BitVec.ofInt IntKind.u64.bits a &&& BitVec.ofInt IntKind.u64.bits 4294967295).toNat : Int)
def h32 (a : Int) : Int := a.fdiv (2 ^ min (Int.toNat 32) IntKind.u64.bits)

theorem u64w {n : Int} (h : 0 ≤ n ∧ n ≤ 18446744073709551615) : IntKind.u64.wrap n = n := IntWalk.u64_in _ h

theorem m32_eq {a : Int} (h : 0 ≤ a ∧ a ≤ 18446744073709551615) : m32 a = a % 4294967296 := by
  obtain ⟨n, rfl⟩ : ∃ n : Nat, a = n := ⟨a.toNat, by omega⟩
  unfold m32
  have e1 : (BitVec.ofInt IntKind.u64.bits (n : Int) &&& BitVec.ofInt IntKind.u64.bits 4294967295).toNat = n % 4294967296 := by
    have h1 : (BitVec.ofInt IntKind.u64.bits (n : Int)).toNat = n := by
      rw [BitVec.toNat_ofInt]
      show ((n : Int) % ((2 ^ 64 : Nat) : Int)).toNat = n
      omega
    have h2 : (BitVec.ofInt IntKind.u64.bits (4294967295 : Int)).toNat = 2 ^ 32 - 1 := by decide
    rw [BitVec.toNat_and, h1, h2, Nat.and_two_pow_sub_one_eq_mod]
  rw [e1, u64w (by omega)]
  omega

theorem h32_eq {a : Int} : h32 a = a / 4294967296 := by
  unfold h32
  have : (2 : Int) ^ min (Int.toNat 32) IntKind.u64.bits = 4294967296 := by decide
  rw [this, Int.fdiv_eq_ediv_of_nonneg _ (by decide)]

def mulT (x y : Int) : Int := IntKind.u64.wrap (IntKind.u64.wrap (h32 x * m32 y) + h32 (IntKind.u64.wrap (m32 x * m32 y)))

def frMul (x : denP [.d u64, .d u64]) : Fr (denL [u64, u64]) :=
  Fr.need (¬ (32 : Int) < 0) (Fr.need (¬ (32 : Int) < 0) (Fr.need (¬ (32 : Int) < 0) (Fr.need (¬ (32 : Int) < 0) (Fr.need (¬ (32 : Int) < 0)
    (Fr.val (IntKind.u64.wrap (IntKind.u64.wrap (IntKind.u64.wrap (h32 x.1 * h32 x.2.1) + h32 (mulT x.1 x.2.1)) + h32 (IntKind.u64.wrap (m32 (mulT x.1 x.2.1) + IntKind.u64.wrap (m32 x.1 * h32 x.2.1)))),
      IntKind.u64.wrap (x.1 * x.2.1), ()))))))

def cMul : Ct := ⟨[.d u64, .d u64], [u64, u64], fun x => (x.1 * x.2.1 / 18446744073709551616, x.1 * x.2.1 % 18446744073709551616, ()), fun _ => []⟩

theorem prod_bd {a b n : Int} (ha : 0 ≤ a ∧ a ≤ n) (hb : 0 ≤ b ∧ b ≤ n) : 0 ≤ a * b ∧ a * b ≤ n * n :=
  ⟨Int.mul_nonneg ha.1 hb.1, Int.mul_le_mul ha.2 hb.2 hb.1 (by omega)⟩

theorem mul_split (a1 a0 b1 b0 : Int) : (a1 * 4294967296 + a0) * (b1 * 4294967296 + b0) = a1 * b1 * 18446744073709551616 + (a1 * b0 + a0 * b1) * 4294967296 + a0 * b0 := by grind

theorem mul_plain {x y : Int} (hx : 0 ≤ x ∧ x ≤ 18446744073709551615) (hy : 0 ≤ y ∧ y ≤ 18446744073709551615) :
    IntKind.u64.wrap (IntKind.u64.wrap (IntKind.u64.wrap (h32 x * h32 y) + h32 (mulT x y)) + h32 (IntKind.u64.wrap (m32 (mulT x y) + IntKind.u64.wrap (m32 x * h32 y)))) = x * y / 18446744073709551616 := by
  have ex : x = x / 4294967296 * 4294967296 + x % 4294967296 := by omega
  have ey : y = y / 4294967296 * 4294967296 + y % 4294967296 := by omega
  have hs := mul_split (x / 4294967296) (x % 4294967296) (y / 4294967296) (y % 4294967296)
  rw [← ex, ← ey] at hs
  rw [hs]
  unfold mulT
  rw [m32_eq hx, m32_eq hy]
  simp only [h32_eq]
  have b1 : 0 ≤ x / 4294967296 ∧ x / 4294967296 ≤ 4294967295 := by omega
  have b2 : 0 ≤ x % 4294967296 ∧ x % 4294967296 ≤ 4294967295 := by omega
  have b3 : 0 ≤ y / 4294967296 ∧ y / 4294967296 ≤ 4294967295 := by omega
  have b4 : 0 ≤ y % 4294967296 ∧ y % 4294967296 ≤ 4294967295 := by omega
  have p11 := prod_bd b1 b3
  have p10 := prod_bd b1 b4
  have p01 := prod_bd b2 b3
  have p00 := prod_bd b2 b4
  clear hs ex ey b1 b2 b3 b4
  generalize x / 4294967296 * (y / 4294967296) = q11 at *
  generalize x / 4294967296 * (y % 4294967296) = q10 at *
  generalize x % 4294967296 * (y / 4294967296) = q01 at *
  generalize x % 4294967296 * (y % 4294967296) = q00 at *
  rw [u64w (n := q11) (by omega), u64w (n := q10) (by omega), u64w (n := q01) (by omega), u64w (n := q00) (by omega), u64w (n := q10 + q00 / 4294967296) (by omega), m32_eq (a := q10 + q00 / 4294967296) (by omega),
    u64w (n := (q10 + q00 / 4294967296) % 4294967296 + q01) (by omega)]
  rw [u64w (n := q11 + (q10 + q00 / 4294967296) / 4294967296) (by omega), u64w (by omega)]
  omega

theorem u64_of {w : World} {F : Nat → Prop} {n : Int} {v : Value} (h : RepV w F u64 n v) : 0 ≤ n ∧ n ≤ 18446744073709551615 := h.2.2.2
theorem i64_of {w : World} {F : Nat → Prop} {n : Int} {v : Value} (h : RepV w F i64 n v) : -9223372036854775808 ≤ n ∧ n ≤ 9223372036854775807 := h.2.2.2

theorem mul_ok : SoundCt Try.prog 156 cMul :=
  flat (ps := [.d u64, .d u64]) (rs := [u64, u64]) (cx_ok (cs := []) (ps := []) mixed trivial trivial) (fn := Try.f156) (fr := frMul) (0, 0, ()) (by kernel_rfl) (fun x => by kernel_rfl) _ _
    (fun w F x vs hr _ => by
      obtain ⟨a, b, u⟩ := x
      obtain ⟨v1, vs1, rfl, h1, v2, vs2, rfl, h2, _⟩ := hr
      have g1 := u64_of h1
      have g2 := u64_of h2
      refine ⟨⟨by decide, by decide, by decide, by decide, by decide, trivial⟩, ?_⟩
      show (IntKind.u64.wrap (IntKind.u64.wrap (IntKind.u64.wrap (h32 a * h32 b) + h32 (mulT a b)) + h32 (IntKind.u64.wrap (m32 (mulT a b) + IntKind.u64.wrap (m32 a * h32 b)))), IntKind.u64.wrap (a * b), ()) = (a * b / 18446744073709551616, a * b % 18446744073709551616, ())
      have hw : IntKind.u64.wrap (a * b) = a * b % 18446744073709551616 := by
        rw [IntKind.wrap_u64]
      rw [mul_plain g1 g2, hw])

def frDiv (x : denP [.d u64, .d u64, .d u64]) : Fr (denL [u64, u64]) :=
  Fr.br (x.2.2.1 == 0) (Fr.need False (Fr.val (0, 0, ())))
    (Fr.br (decide (x.2.2.1 ≤ x.1)) (Fr.need False (Fr.val (0, 0, ())))
      (Fr.br (x.1 == 0) (Fr.need (x.2.2.1 ≠ 0) (Fr.need (x.2.2.1 ≠ 0) (Fr.val (IntKind.u64.wrap (x.2.1.tdiv x.2.2.1), x.2.1.tmod x.2.2.1, ()))))
        (Fr.need False (Fr.val (0, 0, ())))))

/-- A quotient, where the high half is 0. -/
def cDiv : Ct := ⟨[.d u64, .d u64, .d u64], [u64, u64], fun x => (x.2.1 / x.2.2.1, x.2.1 % x.2.2.1, ()), fun x => [x.1 = 0, 0 < x.2.2.1]⟩
theorem div_plain {lo y : Int} (g2 : 0 ≤ lo ∧ lo ≤ 18446744073709551615) (hy : 0 < y) : (frDiv (0, lo, y, ())).ok ∧ (frDiv (0, lo, y, ())).get = (lo / y, lo % y, ()) := by
  have e1 : (y == 0) = false := by simp; omega
  have e2 : decide (y ≤ (0 : Int)) = false := by simp; omega
  have e3 : y ≠ 0 := by omega
  refine ⟨⟨fun hc => ?_, fun _ => ⟨fun hc => ?_, fun _ => ⟨fun _ => ⟨e3, e3, trivial⟩, fun hc => by cases hc⟩⟩⟩, ?_⟩
  · have hc' : (y == 0) = true := hc
    rw [e1] at hc'
    cases hc'
  · have hc' : decide (y ≤ (0 : Int)) = true := hc
    rw [e2] at hc'
    cases hc'
  · show (if (y == 0) = true then ((0 : Int), (0 : Int), ()) else if decide (y ≤ (0 : Int)) = true then ((0 : Int), (0 : Int), ()) else (IntKind.u64.wrap (lo.tdiv y), lo.tmod y, ())) = (lo / y, lo % y, ())
    rw [e1, e2]
    simp only [Bool.false_eq_true, if_false]
    rw [IntWalk.u64_quo lo y ⟨g2.1, g2.2, by omega⟩, IntWalk.rem_in lo y g2.1]

theorem div_ok : SoundCt Try.prog 157 cDiv :=
  flat (ps := [.d u64, .d u64, .d u64]) (rs := [u64, u64]) (cx_ok (cs := []) (ps := []) mixed trivial trivial) (fn := Try.f157) (fr := frDiv) (0, 0, 0, ()) (by kernel_rfl) (fun x => by kernel_rfl) _ _
    (fun w F x vs hr hok => by
      obtain ⟨hi, lo, y, u⟩ := x
      obtain ⟨v1, vs1, rfl, h1, v2, vs2, rfl, h2, v3, vs3, rfl, h3, _⟩ := hr
      obtain ⟨he, hy⟩ := hok
      have he' : hi = 0 := he
      subst he'
      exact div_plain (u64_of h2) hy)

end Go.Proofs.Ytbplccbjgfappaa

/-
  num.Even: a times b by c, to the nearest one.
-/
namespace Go.Proofs.Ytbplccbjgfappaa
open Go Go.Ab Go.RowKit Go.Proofs

noncomputable def XiN : FuncId → Option (Func × (Nat → St → Option Tr)) := envF [(155, (Try.f155, lam0))]
noncomputable def XiO : FuncId → Option (Func × (Nat → St → Option Tr)) := envF [(140, (Try.f140, lam0)), (139, (Try.f139, lam0))]
abbrev bitsL : List (FuncId × Ct) := [(156, cMul), (157, cDiv)]
theorem bitsL_ok : AllCt Try.prog bitsL := ⟨mul_ok, div_ok, trivial⟩
noncomputable def CN1 : Cx := cx bitsL []
noncomputable def CN2 : Cx := cxK bitsL [] (inlK Try.prog CN1 XiN)
noncomputable def CN3 : Cx := cxK bitsL [] (inlK Try.prog CN2 XiO)
theorem CN1_ok : CxOK Try.prog CN1 := cx_ok mixed bitsL_ok trivial
theorem XiN_ok : ∀ f fn Λ, XiN f = some (fn, Λ) → Try.prog.funcs[f]? = some fn ∧ ∀ c E', fn.body = some c → LamOK Try.prog E' Λ c 0 := fun f fn Λ h => by
  simp only [XiN, envF] at h
  split at h
  · rename_i hf
    subst hf
    cases h
    exact ⟨by kernel_rfl, fun c E' _ => lam0_ok c 0⟩
  · cases h
theorem CN2_ok : CxOK Try.prog CN2 := cxK_ok mixed bitsL_ok trivial (inlK_ok CN1_ok XiN_ok)
theorem XiO_ok : ∀ f fn Λ, XiO f = some (fn, Λ) → Try.prog.funcs[f]? = some fn ∧ ∀ c E', fn.body = some c → LamOK Try.prog E' Λ c 0 := fun f fn Λ h => by
  simp only [XiO, envF] at h
  split at h
  · rename_i hf
    subst hf
    cases h
    exact ⟨by kernel_rfl, fun c E' _ => lam0_ok c 0⟩
  · split at h
    · rename_i hf
      subst hf
      cases h
      exact ⟨by kernel_rfl, fun c E' _ => lam0_ok c 0⟩
    · cases h
theorem CN3_ok : CxOK Try.prog CN3 := cxK_ok mixed bitsL_ok trivial (inlK_ok CN2_ok XiO_ok)

def evFin (q : Int) : Fr (denL [i64, i64]) := Fr.br (decide (q > 4000000000000000000)) (Fr.val (0, 5, ())) (Fr.val (IntKind.i64.wrap q, 0, ()))
def evT (q r c : Int) : Fr (denL [i64, i64]) :=
  Fr.br (decide (q > 4000000000000000000)) (Fr.val (0, 5, ()))
    (Fr.need ((r == IntKind.u64.wrap (c - r)) = true → decide (r > IntKind.u64.wrap (c - r)) = false → (2 : Int) ≠ 0)
      (Fr.br (bif decide (r > IntKind.u64.wrap (c - r)) then true else bif r == IntKind.u64.wrap (c - r) then q.tmod 2 == 1 else false) (evFin (IntKind.u64.wrap (q + 1))) (evFin q)))
def evD (h l c : Int) : Fr (denL [i64, i64]) :=
  Fr.br (decide (h ≥ c)) (Fr.val (0, 5, ())) (Fr.need (h = 0) (Fr.need (0 < c) (evT (cDiv.f (h, l, c, ())).1 (cDiv.f (h, l, c, ())).2.1 c)))
def frEven (x : denP [.d i64, .d i64, .d i64]) : Fr (denL [i64, i64]) :=
  Fr.br (bif bif decide (x.1 < 0) then true else decide (x.2.1 < 0) then true else decide (x.2.2.1 < 0)) (Fr.val (0, 1, ()))
    (Fr.br (x.2.2.1 == 0) (Fr.val (0, 6, ()))
      (evD (cMul.f (IntKind.u64.wrap x.1, IntKind.u64.wrap x.2.1, ())).1 (cMul.f (IntKind.u64.wrap x.1, IntKind.u64.wrap x.2.1, ())).2.1 (IntKind.u64.wrap x.2.2.1)))

/-- To the nearest one, or the even one. -/
def evenQ (p c : Int) : Int := if p % c > c - p % c ∨ (p % c = c - p % c ∧ p / c % 2 = 1) then p / c + 1 else p / c
def evenF (a b c : Int) : Int × Int := if a < 0 ∨ b < 0 ∨ c < 0 then (0, 1) else if c = 0 then (0, 6) else if evenQ (a * b) c > 4000000000000000000 then (0, 5) else (evenQ (a * b) c, 0)

theorem bif3 (a b c : Bool) : (bif bif a then true else b then true else c) = (a || (b || c)) := by cases a <;> cases b <;> rfl

theorem evFin_eq {q : Int} (h : 0 ≤ q) : (evFin q).ok ∧ (evFin q).get = if q > 4000000000000000000 then (0, 5, ()) else (q, 0, ()) := by
  refine ⟨⟨fun _ => trivial, fun _ => trivial⟩, ?_⟩
  show (if decide (q > 4000000000000000000) = true then ((0 : Int), (5 : Int), ()) else (IntKind.i64.wrap q, (0 : Int), ())) = _
  by_cases hq : q > 4000000000000000000
  · rw [if_pos (by simpa using hq), if_pos hq]
  · have hw : IntKind.i64.wrap q = q := i64w (by omega)
    rw [if_neg (by simpa using hq), if_neg hq, hw]

theorem evT_eq {q r c : Int} (hr : 0 ≤ r ∧ r < c) (hc : c ≤ 9223372036854775807) (hq : 0 ≤ q) :
    (evT q r c).ok ∧ (evT q r c).get = if (if r > c - r ∨ (r = c - r ∧ q % 2 = 1) then q + 1 else q) > 4000000000000000000 then (0, 5, ()) else ((if r > c - r ∨ (r = c - r ∧ q % 2 = 1) then q + 1 else q), 0, ()) := by
  have hw : IntKind.u64.wrap (c - r) = c - r := u64w (by omega)
  have hm : q.tmod 2 = q % 2 := Int.tmod_eq_emod_of_nonneg hq
  unfold evT
  rw [hw, hm]
  by_cases h1 : q > 4000000000000000000
  · have hd : decide (q > 4000000000000000000) = true := by simpa using h1
    refine ⟨⟨fun _ => trivial, fun hb => by rw [hd] at hb; cases hb⟩, ?_⟩
    show (if decide (q > 4000000000000000000) = true then ((0 : Int), (5 : Int), ()) else _) = _
    rw [hd, if_pos rfl, if_pos]
    split <;> omega
  · have hd : decide (q > 4000000000000000000) = false := by simpa using h1
    have hcond : (bif decide (r > c - r) then true else bif r == c - r then q % 2 == 1 else false) = decide (r > c - r ∨ (r = c - r ∧ q % 2 = 1)) := by
      rw [bif_or, bif_and]
      generalize c - r = d
      rw [Bool.eq_iff_iff]
      simp
    rw [hcond]
    have hw2 : IntKind.u64.wrap (q + 1) = q + 1 := u64w (by omega)
    rw [hw2]
    have f1 := evFin_eq (q := q + 1) (by omega)
    have f2 := evFin_eq (q := q) hq
    refine ⟨⟨fun _ => trivial, fun _ => ⟨fun _ _ => by decide, fun _ => f1.1, fun _ => f2.1⟩⟩, ?_⟩
    show (if decide (q > 4000000000000000000) = true then ((0 : Int), (5 : Int), ()) else if decide (r > c - r ∨ (r = c - r ∧ q % 2 = 1)) = true then (evFin (q + 1)).get else (evFin q).get) = _
    rw [hd, if_neg (by decide), f1.2, f2.2]
    by_cases h2 : r > c - r ∨ (r = c - r ∧ q % 2 = 1)
    · simp only [h2, decide_true, if_true]
    · simp only [h2, decide_false, if_false, Bool.false_eq_true]

theorem even_plain {a b c : Int} (ha : -9223372036854775808 ≤ a ∧ a ≤ 9223372036854775807) (hb : -9223372036854775808 ≤ b ∧ b ≤ 9223372036854775807) (hc : -9223372036854775808 ≤ c ∧ c ≤ 9223372036854775807)
    (hp : 0 ≤ a → 0 ≤ b → a * b < 18446744073709551616) : (frEven (a, b, c, ())).ok ∧ (frEven (a, b, c, ())).get = ((evenF a b c).1, (evenF a b c).2, ()) := by
  unfold frEven
  simp only [bif3]
  by_cases hn : a < 0 ∨ b < 0 ∨ c < 0
  · have hd : (decide (a < 0) || (decide (b < 0) || decide (c < 0))) = true := by simpa using hn
    rw [hd]
    refine ⟨⟨fun _ => trivial, fun hx => by cases hx⟩, ?_⟩
    unfold evenF
    rw [if_pos hn]
    rfl
  · have hd : (decide (a < 0) || (decide (b < 0) || decide (c < 0))) = false := by simpa using hn
    rw [hd]
    have ha0 : 0 ≤ a := by omega
    have hb0 : 0 ≤ b := by omega
    have hc0 : 0 ≤ c := by omega
    have hab := hp ha0 hb0
    have hab0 : 0 ≤ a * b := Int.mul_nonneg ha0 hb0
    rw [show IntKind.u64.wrap a = a from u64w (by omega), show IntKind.u64.wrap b = b from u64w (by omega), show IntKind.u64.wrap c = c from u64w (by omega)]
    have e1 : (cMul.f (a, b, ())).1 = 0 := by
      show a * b / 18446744073709551616 = 0
      omega
    have e2 : (cMul.f (a, b, ())).2.1 = a * b := by
      show a * b % 18446744073709551616 = a * b
      omega
    rw [e1, e2]
    unfold evenF
    rw [if_neg hn]
    by_cases hz : c = 0
    · subst hz
      refine ⟨⟨fun hx => (by cases hx), fun _ => ⟨fun _ => trivial, fun hx => by cases hx⟩⟩, rfl⟩
    · have hz' : (c == 0) = false := by simpa using hz
      rw [if_neg hz, hz']
      have hcp : 0 < c := by omega
      have hge : decide ((0 : Int) ≥ c) = false := by simpa using hcp
      have key := evT_eq (q := a * b / c) (r := a * b % c) (c := c) ⟨Int.emod_nonneg _ (by omega), Int.emod_lt_of_pos _ hcp⟩ hc.2 (Int.ediv_nonneg hab0 hc0)
      unfold evD
      rw [hge]
      refine ⟨⟨fun hx => (by cases hx), fun _ => ⟨fun hx => (by cases hx), fun _ => ⟨fun hx => (by cases hx), fun _ => ⟨rfl, hcp, key.1⟩⟩⟩⟩, ?_⟩
      show (evT (a * b / c) (a * b % c) c).get = _
      rw [key.2]
      show _ = ((if evenQ (a * b) c > 4000000000000000000 then ((0 : Int), (5 : Int)) else (evenQ (a * b) c, 0)).1, (if evenQ (a * b) c > 4000000000000000000 then ((0 : Int), (5 : Int)) else (evenQ (a * b) c, 0)).2, ())
      unfold evenQ
      generalize (if a * b % c > c - a * b % c ∨ a * b % c = c - a * b % c ∧ a * b / c % 2 = 1 then a * b / c + 1 else a * b / c) = z
      split <;> rfl

def cEven : Ct := ⟨[.d i64, .d i64, .d i64], [i64, i64], fun x => ((evenF x.1 x.2.1 x.2.2.1).1, (evenF x.1 x.2.1 x.2.2.1).2, ()), fun x => [0 ≤ x.1 → 0 ≤ x.2.1 → x.1 * x.2.1 < 18446744073709551616]⟩

theorem even_ok : SoundCt Try.prog 101 cEven :=
  flat (ps := [.d i64, .d i64, .d i64]) (rs := [i64, i64]) CN3_ok (fn := Try.f101) (fr := frEven) (0, 0, 0, ()) (by kernel_rfl) (fun x => by kernel_rfl) _ _
    (fun w F x vs hr hok => by
      obtain ⟨a, b, c, u⟩ := x
      obtain ⟨v1, vs1, rfl, h1, v2, vs2, rfl, h2, v3, vs3, rfl, h3, _⟩ := hr
      exact even_plain (i64_of h1) (i64_of h2) (i64_of h3) hok)

end Go.Proofs.Ytbplccbjgfappaa

/-
  accrue.curve: the function that it adds by.
-/
namespace Go.Proofs.Ytbplccbjgfappaa
open Go Go.Ab Go.RowKit Go.Proofs

/-- One change more: on a day, a value. -/
def addAV (p : List Int × List Int) (day v : Int) : List Int × List Int :=
  let q := if p.1.getLast? = some day then (p.1.dropLast, p.2.dropLast) else p
  if v ≠ q.2.getLast?.getD 0 ∧ day ≤ 292194 then (q.1 ++ [day], q.2 ++ [v]) else q

section
variable {α : Type}
/-- The piece's tree, with what comes behind left open. -/
def addT2 (at_ val : List Int) (day v : Int) (K : List Int → List Int → Fr α) : Fr α :=
  Fr.br (decide ((val.length : Int) > 0))
    (Fr.need (0 ≤ IntKind.i64.wrap (val.length - 1) ∧ IntKind.i64.wrap (val.length - 1) < val.length)
      (Fr.need ((IntKind.i64.wrap (val.length - 1)).toNat < val.length)
        (Fr.br (bif v != val.getD (IntKind.i64.wrap (val.length - 1)).toNat i64.dflt then decide (day ≤ 292194) else false)
          (Fr.need (at_.length + [day].length ≤ maxLen ∧ (at_.length + [day].length) * 8 ≤ 140737488355328)
            (Fr.need (val.length + [v].length ≤ maxLen ∧ (val.length + [v].length) * 8 ≤ 140737488355328)
              (K (at_ ++ [day]) (val ++ [v]))))
          (K at_ val))))
    (Fr.br (bif v != 0 then decide (day ≤ 292194) else false)
      (Fr.need (at_.length + [day].length ≤ maxLen ∧ (at_.length + [day].length) * 8 ≤ 140737488355328)
        (Fr.need (val.length + [v].length ≤ maxLen ∧ (val.length + [v].length) * 8 ≤ 140737488355328)
          (K (at_ ++ [day]) (val ++ [v]))))
      (K at_ val))

def addT (at_ val : List Int) (day v : Int) (K : List Int → List Int → Fr α) : Fr α :=
  Fr.need (decide ((at_.length : Int) > 0) = true → 0 ≤ IntKind.i64.wrap (at_.length - 1) ∧ IntKind.i64.wrap (at_.length - 1) < at_.length)
    (Fr.need (decide ((at_.length : Int) > 0) = true → (IntKind.i64.wrap (at_.length - 1)).toNat < at_.length)
      (Fr.br (bif decide ((at_.length : Int) > 0) then at_.getD (IntKind.i64.wrap (at_.length - 1)).toNat i64.dflt == day else false)
        (Fr.need (0 ≤ IntKind.i64.wrap (at_.length - 1) ∧ IntKind.i64.wrap (at_.length - 1) ≤ at_.length)
          (Fr.need (0 ≤ IntKind.i64.wrap (at_.length - 1) ∧ IntKind.i64.wrap (at_.length - 1) ≤ val.length)
            (addT2 (at_.take (IntKind.i64.wrap (at_.length - 1)).toNat) (val.take (IntKind.i64.wrap (at_.length - 1)).toNat) day v K)))
        (addT2 at_ val day v K)))

theorem last_getD {l : List Int} (h : 0 < l.length) (hb : l.length < 1000000) : l.getD (IntKind.i64.wrap ((l.length : Int) - 1)).toNat i64.dflt = l.getLast?.getD 0 := by
  rw [i64w (by omega), List.getLast?_eq_getElem?, List.getD_eq_getElem?_getD]
  have : ((l.length : Int) - 1).toNat = l.length - 1 := by omega
  rw [this]
  rfl

theorem addT2_sat {at_ val : List Int} {day v : Int} {K : List Int → List Int → Fr α} {Q : α → Prop} (h1 : at_.length < 1000000) (h2 : val.length < 1000000)
    (h : (if v ≠ val.getLast?.getD 0 ∧ day ≤ 292194 then K (at_ ++ [day]) (val ++ [v]) else K at_ val).satP Q) : (addT2 at_ val day v K).satP Q := by
  have hroom : ∀ (l : List Int) (x : Int), l.length < 1000000 → l.length + [x].length ≤ maxLen ∧ (l.length + [x].length) * 8 ≤ 140737488355328 := fun l x hl => by
    simp only [maxLen, List.length_singleton]
    omega
  by_cases hv : 0 < val.length
  · refine ⟨fun _ => ⟨?_, ?_, ?_, ?_⟩, fun hn => ?_⟩
    · rw [i64w (by omega)]
      omega
    · rw [i64w (by omega)]
      omega
    · intro hb
      rw [last_getD hv h2, bif_and] at hb
      have hb' : v ≠ val.getLast?.getD 0 ∧ day ≤ 292194 := by simpa using hb
      rw [if_pos hb'] at h
      exact ⟨hroom _ _ h1, hroom _ _ h2, h⟩
    · intro hb
      rw [last_getD hv h2, bif_and] at hb
      have hb' : ¬ (v ≠ val.getLast?.getD 0 ∧ day ≤ 292194) := by
        intro hc
        simp [hc.1, hc.2] at hb
      rw [if_neg hb'] at h
      exact h
    · exact absurd (of_decide_eq_false hn) (by omega)
  · have hnil : val = [] := by
      cases val with
      | nil => rfl
      | cons _ _ => simp at hv
    subst hnil
    refine ⟨fun hn => by simp at hn, fun _ => ⟨fun hb => ?_, fun hb => ?_⟩⟩
    · rw [bif_and] at hb
      have hb' : v ≠ ([] : List Int).getLast?.getD 0 ∧ day ≤ 292194 := by simpa using hb
      rw [if_pos hb'] at h
      exact ⟨hroom _ _ h1, hroom _ _ h2, h⟩
    · rw [bif_and] at hb
      have hb' : ¬ (v ≠ ([] : List Int).getLast?.getD 0 ∧ day ≤ 292194) := by
        intro hc
        have h3 : v ≠ 0 := hc.1
        simp [h3, hc.2] at hb
      rw [if_neg hb'] at h
      exact h

theorem addT_sat {at_ val : List Int} {day v : Int} {K : List Int → List Int → Fr α} {Q : α → Prop} (h1 : at_.length < 1000000) (h2 : at_.length = val.length)
    (h : (K (addAV (at_, val) day v).1 (addAV (at_, val) day v).2).satP Q) : (addT at_ val day v K).satP Q := by
  have key : ∀ a b : List Int, a.length < 1000000 → b.length < 1000000 → addAV (at_, val) day v = (if v ≠ b.getLast?.getD 0 ∧ day ≤ 292194 then (a ++ [day], b ++ [v]) else (a, b)) → (addT2 a b day v K).satP Q := fun a b ha hb he => by
    refine addT2_sat ha hb ?_
    rw [he] at h
    by_cases hc : v ≠ b.getLast?.getD 0 ∧ day ≤ 292194
    · rw [if_pos hc] at h ⊢
      exact h
    · rw [if_neg hc] at h ⊢
      exact h
  refine ⟨fun hp => ?_, fun hp => ?_, fun hb => ⟨?_, ?_, ?_⟩, fun hb => ?_⟩
  · have : (at_.length : Int) > 0 := by simpa using hp
    rw [i64w (by omega)]
    omega
  · have : (at_.length : Int) > 0 := by simpa using hp
    rw [i64w (by omega)]
    omega
  · have : (at_.length : Int) > 0 := by
      rw [bif_and] at hb
      simp at hb
      simpa using hb.1
    rw [i64w (by omega)]
    omega
  · have : (at_.length : Int) > 0 := by
      rw [bif_and] at hb
      simp at hb
      simpa using hb.1
    rw [i64w (by omega)]
    omega
  · rw [bif_and] at hb
    obtain ⟨hp, hb⟩ := Bool.and_eq_true_iff.1 hb
    have hp' : 0 < at_.length := by simpa using hp
    rw [last_getD hp' h1] at hb
    have hl : at_.getLast? = some day := by
      have : at_.getLast?.getD 0 = day := by simpa using hb
      rw [List.getLast?_eq_getElem?] at this ⊢
      rw [List.getElem?_eq_getElem (by omega)] at this ⊢
      simpa using this
    have e1 : (IntKind.i64.wrap ((at_.length : Int) - 1)).toNat = at_.length - 1 := by
      rw [i64w (by omega)]
      omega
    rw [e1]
    refine key _ _ (by simp; omega) (by simp; omega) ?_
    unfold addAV
    simp only [hl, if_true, List.dropLast_eq_take, ← h2]
  · rw [bif_and] at hb
    refine key _ _ h1 (by omega) ?_
    have hl : at_.getLast? ≠ some day := by
      intro hl
      have hp' : 0 < at_.length := by
        cases at_ with
        | nil => simp at hl
        | cons _ _ => simp
      have hp : decide ((at_.length : Int) > 0) = true := by simpa using hp'
      rw [hp, last_getD hp' h1, hl] at hb
      simp at hb
    unfold addAV
    simp only [hl, if_false]

end

theorem addAV_len {p : List Int × List Int} (day v : Int) (h : p.1.length = p.2.length) : (addAV p day v).1.length = (addAV p day v).2.length ∧ (addAV p day v).1.length ≤ p.1.length + 1 := by
  unfold addAV
  by_cases hc : p.1.getLast? = some day
  · simp only [hc, if_true]
    split <;> simp <;> omega
  · simp only [hc, if_false]
    split <;> simp <;> omega

/-- What stands while a slice is added. -/
abbrev keepV : List (Tmp × PT) := [(10015, .d i64), (10014, .d i64), (10013, .d slsT), (10005, .d i64)]
abbrev keepM : List MI := [.y 3 114 [(some 3, i64), (some 3, i64)], .r 10003 3 0, .g 10004 102 [3], .x 7 46 sliceT, .r 10007 7 0, .x 2 114 stepT, .r 10002 2 0]
abbrev ptA : Pt := ⟨65, 0, ⟨keepV, keepM⟩, ⟨[], []⟩, ⟨[], []⟩⟩
abbrev LA : LS := ⟨(0, .d i64) :: (1, .d i64) :: keepV, .r 2 3 0 :: keepM⟩
noncomputable def bodyA : Code := Try.f102.body.getD .skip

def frA (x : LA.X) : Fr ptA.Out :=
  addT x.2.1.1 x.2.1.2.1 x.1.1 x.1.2.1 fun a b => Fr.val (Rd.next (x.1.2.2, (a, b, ()), x.2.2))

theorem cx0_ok : CxOK Try.prog (cx [] []) := cx_ok mixed trivial trivial

theorem semA : Does Try.prog bodyA LA ptA frA :=
  Does.of_run cx0_ok (bs := 80000) (Λ := lam0) rfl rfl rfl (fun E => lam0_ok _ 0) (fun x => by kernel_rfl)

def FA (x : LA.X) : Fr ptA.Out :=
  Fr.need (x.2.1.1.length < 1000000 ∧ x.2.1.1.length = x.2.1.2.1.length)
    (Fr.val (Rd.next (x.1.2.2, ((addAV (x.2.1.1, x.2.1.2.1) x.1.1 x.1.2.1).1, (addAV (x.2.1.1, x.2.1.2.1) x.1.1 x.1.2.1).2, ()), x.2.2)))

theorem doesA : Does Try.prog bodyA LA ptA FA :=
  semA.conv fun _x _Q h => addT_sat h.1.1 h.1.2 h.2

noncomputable def kA : Nat → FuncId → List AV → St → Option Tr := hanK Try.prog (envF []) 102 Try.f102 LA ptA FA
theorem kA_ok : InlOK Try.prog kA := hanK_ok cx0_ok (c := bodyA) (by kernel_rfl) (by kernel_rfl) rfl rfl doesA

end Go.Proofs.Ytbplccbjgfappaa

/-
  accrue.curve: what a year costs on each day.
-/
namespace Go.Proofs.Ytbplccbjgfappaa
open Go Go.Ab Go.RowKit Go.Proofs

noncomputable def CC : Cx := cxK [(103, cFullSl)] [(69, cMust)] kA
theorem CC_ok : CxOK Try.prog CC := cxK_ok mixed ⟨fullSl_ok, trivial⟩ ⟨must_ok, trivial⟩ kA_ok

abbrev ptC : Pt := ⟨41, 0, ⟨[(15, .d i64), (14, .d i64), (13, .d slsT), (5, .d i64)], [.y 3 114 [(some 3, i64), (some 3, i64)], .r 3 3 0, .g 4 102 [3], .x 2 114 stepT, .r 2 2 0]⟩, ⟨[], [.y 3 114 [(some 3, i64), (some 3, i64)], .r 3 3 0, .x 2 114 stepT, .r 2 2 0]⟩, ⟨[], []⟩⟩

/-- One slice. -/
def addS (p : List Int × List Int) (s : sliceT.den) : List Int × List Int := addAV (addAV p s.1.1 s.2.2.2.2.1) s.1.2.1 0

def frC2 (x : ptC.M.X) (s : sliceT.den) : Fr ptC.Out :=
  Fr.need (x.2.1.1.length < 1000000 ∧ x.2.1.1.length = x.2.1.2.1.length)
    (Fr.need ((addAV (x.2.1.1, x.2.1.2.1) s.1.1 s.2.2.2.2.1).1.length < 1000000 ∧ (addAV (x.2.1.1, x.2.1.2.1) s.1.1 s.2.2.2.2.1).1.length = (addAV (x.2.1.1, x.2.1.2.1) s.1.1 s.2.2.2.2.1).2.length)
      (Fr.val (Rd.next ((IntKind.i64.wrap (x.1.1 + 1), x.1.2.1, x.1.2.2.1, s.1.2.1, ()), ((addS (x.2.1.1, x.2.1.2.1) s).1, (addS (x.2.1.1, x.2.1.2.1) s).2, ()), x.2.2.1, ()))))

def frC (x : ptC.M.X) : Fr ptC.Out :=
  Fr.br (decide (x.1.1 < x.1.2.1))
    (Fr.need (0 ≤ x.1.1 ∧ x.1.1 < x.1.2.2.1.length)
      (Fr.br (!(cFullSl.f (x.1.2.2.1.getD x.1.1.toNat sliceT.dflt, x.1.2.2.2.1, ())).1)
        (Fr.br (cMust.bad (1, ())) (Fr.val (Rd.pan (cMust.pv (1, ()))))
          (frC2 x (x.1.2.2.1.getD x.1.1.toNat sliceT.dflt)))
        (frC2 x (x.1.2.2.1.getD x.1.1.toNat sliceT.dflt))))
    (Fr.val (Rd.out ((), (x.2.1.1, x.2.1.2.1, ()), x.2.2.1, ())))

theorem semC : Does Try.prog (loopF Try.f67 0) ptC.M ptC frC :=
  Does.of_run CC_ok (bs := 0) (Λ := lam0) rfl rfl rfl (fun E => lam0_ok _ 0) (fun x => by kernel_rfl)

/-- All slices, one behind the other; none: one of them may not stand there. -/
def curveGo : List sliceT.den → Int → List Int × List Int → Option (List Int × List Int)
  | [], _, p => some p
  | s :: l, e, p => if fullSl s e = true then curveGo l s.1.2.1 (addS p s) else none

def outC (r : stepT.den) (o : Option (List Int × List Int)) : Fr ptC.Out :=
  Fr.br o.isSome (Fr.val (Rd.out ((), ((o.getD ([], [])).1, (o.getD ([], [])).2, ()), r, ()))) (Fr.val (Rd.pan ⟨38, .i64, 1⟩))

structure InvC (i n : Int) (l : List sliceT.den) (p : List Int × List Int) : Prop where
  len : n = l.length
  lo : 0 ≤ i
  hi : i ≤ n
  most : l.length ≤ 2000
  both : p.1.length = p.2.length
  few : p.1.length ≤ 2 * i

def FC (x : ptC.M.X) : Fr ptC.Out :=
  Fr.need (InvC x.1.1 x.1.2.1 x.1.2.2.1 (x.2.1.1, x.2.1.2.1)) (outC x.2.2.1 (curveGo (x.1.2.2.1.drop x.1.1.toNat) x.1.2.2.2.1 (x.2.1.1, x.2.1.2.1)))

theorem lawC (i n : Int) (l : List sliceT.den) (e : Int) (at_ val : List Int) (r : stepT.den) (hinv : InvC i n l (at_, val)) (Q : ptC.Out → Prop) (hq : (outC r (curveGo (l.drop i.toNat) e (at_, val))).satP Q) :
    (frC ((i, n, l, e, ()), (at_, val, ()), r, ())).satP fun
      | .next x' => InvC x'.1.1 x'.1.2.1 x'.1.2.2.1 (x'.2.1.1, x'.2.1.2.1) ∧ (x'.1.2.1 - x'.1.1).toNat < (n - i).toNat ∧ (FC x').satP Q
      | .out y => Q (.out y)
      | .back z => Q (.back z)
      | .pan p => Q (.pan p) := by
  obtain ⟨rfl, h4, h5, h6, h7, h8⟩ := hinv
  refine ⟨fun hi => ?_, fun hi => ?_⟩
  · have hi' : i < l.length := by simpa using hi
    have hl : i.toNat < l.length := by omega
    have e1 : l.drop i.toNat = l[i.toNat] :: l.drop (i.toNat + 1) := List.drop_eq_getElem_cons hl
    have g1 : l.getD i.toNat sliceT.dflt = l[i.toNat] := by rw [List.getD_eq_getElem?_getD, List.getElem?_eq_getElem hl]; rfl
    rw [e1] at hq
    generalize hs : l[i.toNat] = s at *
    refine ⟨⟨h4, hi'⟩, fun hb => ?_, fun hb => ?_⟩
    · have hb' : fullSl s e = false := by
        have : (!(cFullSl.f (l.getD i.toNat sliceT.dflt, e, ())).1) = true := hb
        rw [g1] at this
        simpa [cFullSl] using this
      have hq' : Q (Rd.pan ⟨38, .i64, 1⟩) := by
        unfold curveGo at hq
        rw [hb'] at hq
        exact hq.2 rfl
      exact ⟨fun _ => hq', fun hc => by cases hc⟩
    · have hb' : fullSl s e = true := by
        have : (!(cFullSl.f (l.getD i.toNat sliceT.dflt, e, ())).1) = false := hb
        rw [g1] at this
        simpa [cFullSl] using this
      unfold curveGo at hq
      rw [hb', if_pos rfl] at hq
      have a1 := addAV_len (p := (at_, val)) s.1.1 s.2.2.2.2.1 h7
      have a2 := addAV_len (p := addAV (at_, val) s.1.1 s.2.2.2.2.1) s.1.2.1 0 a1.1
      show (frC2 ((i, (l.length : Int), l, e, ()), (at_, val, ()), r, ()) (l.getD i.toNat sliceT.dflt)).satP _
      rw [g1]
      have hw : IntKind.i64.wrap (i + 1) = i + 1 := i64w (by omega)
      have hn : (i + 1).toNat = i.toNat + 1 := by omega
      have h7' : at_.length = val.length := h7
      have h8' : (at_.length : Int) ≤ 2 * i := h8
      have a1' : (addAV (at_, val) s.1.1 s.2.2.2.2.1).1.length ≤ at_.length + 1 := a1.2
      have hI : InvC (i + 1) l.length l (addS (at_, val) s) := ⟨rfl, by omega, by omega, h6, a2.1, by
        have : (addS (at_, val) s).1.length ≤ (addAV (at_, val) s.1.1 s.2.2.2.2.1).1.length + 1 := a2.2
        omega⟩
      refine ⟨⟨by show at_.length < 1000000; omega, h7⟩, ⟨by show (addAV (at_, val) s.1.1 s.2.2.2.2.1).1.length < 1000000; omega, a1.1⟩, ?_⟩
      show InvC (IntKind.i64.wrap (i + 1)) l.length l (addS (at_, val) s) ∧ ((l.length : Int) - IntKind.i64.wrap (i + 1)).toNat < ((l.length : Int) - i).toNat ∧ (FC ((IntKind.i64.wrap (i + 1), (l.length : Int), l, s.1.2.1, ()), ((addS (at_, val) s).1, (addS (at_, val) s).2, ()), r, ())).satP Q
      rw [hw]
      refine ⟨hI, by omega, hI, ?_⟩
      show (outC r (curveGo (l.drop (i + 1).toNat) s.1.2.1 (addS (at_, val) s))).satP Q
      rw [hn]
      exact hq
  · have hi' : ¬ i < l.length := by simpa using hi
    have hl : l.drop i.toNat = [] := List.drop_eq_nil_of_le (by omega)
    rw [hl] at hq
    exact hq.1 rfl

theorem loopC : Does Try.prog (.loop (loopF Try.f67 0)) ptC.M ptC FC := by
  refine Does.loop (n := 41) (id := 0) semC (inv := fun x => InvC x.1.1 x.1.2.1 x.1.2.2.1 (x.2.1.1, x.2.1.2.1)) (μ := fun x => (x.1.2.1 - x.1.1).toNat) ?_ (fun x Q h => h.1)
  rintro ⟨⟨i, n, l, e, _⟩, ⟨at_, val, _⟩, r, _⟩ hinv Q hq
  exact lawC i n l e at_ val r hinv Q hq.2

noncomputable def ΛC : Nat → St → Option Tr := fun _ => ptC.han CC.Γ ptC.M FC

def curveO (l : List sliceT.den) : Option (List Int × List Int) := if l.length ≤ 2000 then curveGo l 1 ([], []) else none

def frCv2 (x : denP [.d slsT]) : Fr (Oc (denL [stepT])) :=
  Fr.need (InvC 0 x.1.length x.1 ([], []))
    (Fr.br (curveGo (x.1.drop (Int.toNat 0)) 1 ([], [])).isSome (Fr.val (Oc.ok ((((curveGo (x.1.drop (Int.toNat 0)) 1 ([], [])).getD ([], [])).1, ((curveGo (x.1.drop (Int.toNat 0)) 1 ([], [])).getD ([], [])).2, ()), ())))
      (Fr.val (Oc.pan ⟨38, .i64, 1⟩)))

def frCv (x : denP [.d slsT]) : Fr (Oc (denL [stepT])) :=
  Fr.br (decide ((x.1.length : Int) > 2000))
    (Fr.br (cMust.bad (1, ())) (Fr.val (Oc.pan (cMust.pv (1, ())))) (frCv2 x))
    (frCv2 x)

theorem curve_fp : SoundPc Try.prog 67 ⟨[.d slsT], [stepT], fun xs => (frCv xs).get.val, fun xs => (frCv xs).get.bad, fun xs => (frCv xs).get.pv, fun xs => [(frCv xs).ok]⟩ :=
  fp_sound CC_ok (Λ := ΛC) (fn := Try.f67) ([], ()) (by kernel_rfl) (fun c E hc => lam1f hc (by kernel_rfl) (b := loopF Try.f67 0) (by kernel_rfl) (Does.han CC_ok rfl loopC)) (fun xs => by kernel_rfl)

/-- curve: the step, or 'argument'. -/
def curveF (l : List sliceT.den) : stepT.den := (((curveO l).getD ([], [])).1, ((curveO l).getD ([], [])).2, ())
def cCurve : Pc := ⟨[.d slsT], [stepT], fun x => (curveF x.1, ()), fun x => (curveO x.1).isNone, fun _ => ⟨38, .i64, 1⟩, fun _ => []⟩

theorem curve_ok : SoundPc Try.prog 67 cCurve :=
  convP curve_fp _ _ _ _ fun w F xs vs hr _ => by
    obtain ⟨l, _⟩ := xs
    by_cases hl : l.length ≤ 2000
    · have hd : decide ((l.length : Int) > 2000) = false := by simp; omega
      have hI : InvC 0 l.length l ([], []) := ⟨rfl, Int.le_refl _, by omega, hl, rfl, by simp⟩
      have hO : curveO l = curveGo l 1 ([], []) := if_pos hl
      have hget : (frCv (l, ())).get = if (curveGo l 1 ([], [])).isSome = true then Oc.ok (curveF l, ()) else Oc.pan ⟨38, .i64, 1⟩ := by
        show (if decide ((l.length : Int) > 2000) = true then _ else (if (curveGo l 1 ([], [])).isSome = true then Oc.ok _ else Oc.pan _)) = _
        rw [hd]
        unfold curveF
        rw [hO]
        rfl
      refine ⟨⟨fun hb => ?_, fun _ => ⟨hI, fun _ => trivial, fun _ => trivial⟩⟩, ?_, ?_, ?_⟩
      · have hb' : decide ((l.length : Int) > 2000) = true := hb
        rw [hd] at hb'
        cases hb'
      · show (frCv (l, ())).get.bad = (curveO l).isNone
        rw [hget, hO]
        cases curveGo l 1 ([], []) <;> rfl
      · intro hb
        have hb' : (curveO l).isNone = false := hb
        show (frCv (l, ())).get.val = (curveF l, ())
        rw [hget]
        rw [hO] at hb'
        cases h : curveGo l 1 ([], []) with
        | none => rw [h] at hb'; cases hb'
        | some p => rfl
      · intro hb
        have hb' : (curveO l).isNone = true := hb
        show (frCv (l, ())).get.pv = _
        rw [hget]
        rw [hO] at hb'
        cases h : curveGo l 1 ([], []) with
        | none => rfl
        | some p => rw [h] at hb'; cases hb'
    · have hd : decide ((l.length : Int) > 2000) = true := by simp; omega
      have hO : curveO l = none := if_neg hl
      have hget : (frCv (l, ())).get = Oc.pan ⟨38, .i64, 1⟩ := by
        show (if decide ((l.length : Int) > 2000) = true then _ else _) = _
        rw [hd]
        rfl
      refine ⟨⟨fun _ => ⟨fun _ => trivial, fun hc => by cases hc⟩, fun hb => ?_⟩, ?_, ?_, ?_⟩
      · have hb' : decide ((l.length : Int) > 2000) = false := hb
        rw [hd] at hb'
        cases hb'
      · show (frCv (l, ())).get.bad = (curveO l).isNone
        rw [hget, hO]
        rfl
      · intro hb
        have hb' : (curveO l).isNone = false := hb
        rw [hO] at hb'
        cases hb'
      · intro _
        show (frCv (l, ())).get.pv = _
        rw [hget]
        rfl

end Go.Proofs.Ytbplccbjgfappaa

/-
  accrue.upto: what is earned ahead of a day.
-/
namespace Go.Proofs.Ytbplccbjgfappaa
open Go Go.Ab Go.RowKit Go.Proofs

def clampD (d : Int) : Int := if 292195 < (if d < 1 then 1 else d) then 292195 else (if d < 1 then 1 else d)
theorem clampD_bd (d : Int) : 1 ≤ clampD d ∧ clampD d ≤ 292195 := by
  unfold clampD
  split <;> split <;> omega

noncomputable def CU : Cx := cx [(100, cSum), (101, cEven)] [(69, cMust)]
theorem CU_ok : CxOK Try.prog CU := cx_ok mixed ⟨sum_ok, even_ok, trivial⟩ ⟨must_ok, trivial⟩

def frU2 (s e : Int) : Fr (Oc (denL [i64])) :=
  Fr.br (cMust.bad (e, ())) (Fr.val (Oc.pan (cMust.pv (e, ()))))
    (Fr.need (0 ≤ s → (0 : Int) ≤ 1 → s * 1 < 18446744073709551616)
      (Fr.br (cMust.bad ((cEven.f (s, 1, 365, ())).2.1, ())) (Fr.val (Oc.pan (cMust.pv ((cEven.f (s, 1, 365, ())).2.1, ())))) (Fr.val (Oc.ok ((cEven.f (s, 1, 365, ())).1, ())))))
def frU (x : denP [.d stepT, .d i64]) : Fr (Oc (denL [i64])) :=
  Fr.br (clampD x.2.1 == 1) (Fr.val (Oc.ok (0, ()))) (frU2 (cSum.f (x.1, (1, clampD x.2.1, ()), ())).1 (cSum.f (x.1, (1, clampD x.2.1, ()), ())).2.1)

theorem upto_fp : SoundPc Try.prog 66 ⟨[.d stepT, .d i64], [i64], fun xs => (frU xs).get.val, fun xs => (frU xs).get.bad, fun xs => (frU xs).get.pv, fun xs => [(frU xs).ok]⟩ :=
  fp_sound CU_ok (Λ := lam0) (fn := Try.f66) (([], [], ()), 0, ()) (by kernel_rfl) (fun c E hc => lam0_ok c 0) (fun xs => by kernel_rfl)

/-- What is earned ahead of a day, or why it isn't told. -/
def uptoSE (s e : Int) : Int × Int := if e ≠ 0 then (0, e) else if (evenF s 1 365).2 ≠ 0 then (0, (evenF s 1 365).2) else ((evenF s 1 365).1, 0)
def uptoO (f : stepT.den) (d : Int) : Int × Int := if clampD d = 1 then (0, 0) else uptoSE (sumSt f (1, clampD d, ())).1 (sumSt f (1, clampD d, ())).2

def cUpto : Pc := ⟨[.d stepT, .d i64], [i64], fun x => ((uptoO x.1 x.2.1).1, ()), fun x => !((uptoO x.1 x.2.1).2 == 0), fun x => ⟨38, .i64, (uptoO x.1 x.2.1).2⟩, fun _ => []⟩

theorem sumSt_le (f : stepT.den) (s : spanT.den) : (sumSt f s).1 ≤ 4000000000000000000 := by
  unfold sumSt
  split
  · rename_i h
    obtain ⟨_, _, _, hval⟩ := rightSt_spec h.1
    have hs := fullS_iff.1 h.2
    have hok := piecesGo_ok (f := f) hval (e := s.2.1) hs.2.2 f.1 s.1 hs.1 hs.2.1
    cases hq : sumGo (piecesGo f s.2.1 f.1 s.1) (0, 0) with
    | none => show (0 : Int) ≤ _; decide
    | some q =>
      obtain ⟨j1, j2, j3, j4⟩ := sumGo_inv hok (q := (0, 0)) ⟨by decide, by decide, by decide, by decide⟩ hq
      show q.1 ≤ _
      omega
  · show (0 : Int) ≤ _; decide

theorem frU2_eq {s e : Int} (hs : s ≤ 4000000000000000000) : (frU2 s e).ok ∧ (frU2 s e).get = if (uptoSE s e).2 = 0 then Oc.ok ((uptoSE s e).1, ()) else Oc.pan ⟨38, .i64, (uptoSE s e).2⟩ := by
  by_cases he : e = 0
  · subst he
    have hneed : 0 ≤ s → (0 : Int) ≤ 1 → s * 1 < 18446744073709551616 := fun _ _ => by omega
    by_cases h2 : (evenF s 1 365).2 = 0
    · have hU : uptoSE s 0 = ((evenF s 1 365).1, 0) := by
        unfold uptoSE
        rw [if_neg (fun h => h rfl), if_neg (fun h => h h2)]
      have hb : cMust.bad ((cEven.f (s, 1, 365, ())).2.1, ()) = false := by
        show (!((evenF s 1 365).2 == 0)) = false
        rw [h2]
        rfl
      rw [hU]
      refine ⟨⟨fun hc => (by cases hc), fun _ => ⟨hneed, fun _ => trivial, fun _ => trivial⟩⟩, ?_⟩
      show (if cMust.bad ((cEven.f (s, 1, 365, ())).2.1, ()) = true then _ else Oc.ok ((evenF s 1 365).1, ())) = _
      rw [hb]
      rfl
    · have hU : uptoSE s 0 = (0, (evenF s 1 365).2) := by
        unfold uptoSE
        rw [if_neg (fun h => h rfl), if_pos h2]
      have hb : cMust.bad ((cEven.f (s, 1, 365, ())).2.1, ()) = true := by
        show (!((evenF s 1 365).2 == 0)) = true
        simp [h2]
      rw [hU]
      refine ⟨⟨fun hc => (by cases hc), fun _ => ⟨hneed, fun _ => trivial, fun _ => trivial⟩⟩, ?_⟩
      show (if cMust.bad ((cEven.f (s, 1, 365, ())).2.1, ()) = true then Oc.pan ⟨38, .i64, (evenF s 1 365).2⟩ else _) = _
      rw [hb, if_pos rfl]
      exact (if_neg h2).symm
  · have hU : uptoSE s e = (0, e) := by
      unfold uptoSE
      rw [if_pos he]
    have hb : cMust.bad (e, ()) = true := by
      show (!(e == 0)) = true
      simp [he]
    rw [hU]
    refine ⟨⟨fun _ => trivial, fun hc => (by rw [hb] at hc; cases hc)⟩, ?_⟩
    show (if cMust.bad (e, ()) = true then Oc.pan ⟨38, .i64, e⟩ else _) = _
    rw [hb, if_pos rfl]
    exact (if_neg he).symm

theorem upto_ok : SoundPc Try.prog 66 cUpto :=
  convP upto_fp _ _ _ _ fun w F xs vs hr _ => by
    obtain ⟨f, d, _⟩ := xs
    have key : (frU (f, d, ())).ok ∧ (frU (f, d, ())).get = if (uptoO f d).2 = 0 then Oc.ok ((uptoO f d).1, ()) else Oc.pan ⟨38, .i64, (uptoO f d).2⟩ := by
      unfold uptoO
      by_cases hd : clampD d = 1
      · rw [if_pos hd]
        have hb : (clampD d == 1) = true := by simpa using hd
        refine ⟨⟨fun _ => trivial, fun hc => (by rw [hb] at hc; cases hc)⟩, ?_⟩
        show (if (clampD d == 1) = true then Oc.ok (0, ()) else _) = _
        rw [hb]
        rfl
      · rw [if_neg hd]
        have hb : (clampD d == 1) = false := by simpa using hd
        have h2 := frU2_eq (e := (sumSt f (1, clampD d, ())).2) (sumSt_le f (1, clampD d, ()))
        refine ⟨⟨fun hc => (by rw [hb] at hc; cases hc), fun _ => h2.1⟩, ?_⟩
        show (if (clampD d == 1) = true then _ else (frU2 (sumSt f (1, clampD d, ())).1 (sumSt f (1, clampD d, ())).2).get) = _
        rw [hb, if_neg (by decide), h2.2]
    refine ⟨key.1, ?_, ?_, ?_⟩
    · show (frU (f, d, ())).get.bad = !((uptoO f d).2 == 0)
      rw [key.2]
      by_cases h : (uptoO f d).2 = 0
      · rw [if_pos h, h]
        rfl
      · rw [if_neg h]
        have : ((uptoO f d).2 == 0) = false := by simpa using h
        rw [this]
        rfl
    · intro hb
      have hb' : (!((uptoO f d).2 == 0)) = false := hb
      have h : (uptoO f d).2 = 0 := by simpa using hb'
      show (frU (f, d, ())).get.val = ((uptoO f d).1, ())
      rw [key.2, if_pos h]
      rfl
    · intro hb
      have hb' : (!((uptoO f d).2 == 0)) = true := hb
      have h : ¬ (uptoO f d).2 = 0 := by simpa using hb'
      show (frU (f, d, ())).get.pv = _
      rw [key.2, if_neg h]
      rfl

end Go.Proofs.Ytbplccbjgfappaa

/-
  accrue: an error is told.
-/
namespace Go.Proofs.Ytbplccbjgfappaa
open Go Go.Ab Go.RowKit Go.Proofs

theorem setRow_one {w : World} {b : Nat} {ty : TypeId} {old v : Value} (h : w.heap[b]? = some (.cells #[old] ty (0, 0))) : w.setCell ⟨b, 0, none⟩ v = w.setRow b #[v] := by
  unfold World.setCell World.setRow
  congr 1
  apply Array.ext_getElem?
  intro i
  simp only [Array.getElem?_modify]
  by_cases hi : b = i
  · subst hi
    rw [h]
    simp
  · simp [hi]

theorem told_ok : TolOK Try.prog 65 38 .i64 := by
  refine ⟨enters (fn := Try.f65) (by kernel_rfl) rfl rfl, fun p w => ?_, fun b ty old n w hb => ?_⟩
  · refine callsD_of_wpS Try.func65 rfl fun c₀ cs hu => ?_
    simp only [Try.ntmps65, List.size_toArray, List.length_cons, List.length_nil, Nat.reduceAdd, Nat.reduceSub, Array.replicate_succ, Array.replicate_zero, List.push_toArray, List.append_toArray, List.nil_append, List.cons_append]
    apply wpS_seq
    apply wpS_region
    simp [wpOpsS, go_sem, recoverD, hu, Exit.thenS]
    refine wpS_of_wp ?_
    go_wp2
    cases c₀
    simp_all [bodyPostS, results, Try.results65]
  · have hc : w.cell? ⟨b, 0, none⟩ = some old := cell_of_block hb 0
    have hz : w.frozen? ⟨b, 0, none⟩ = false := by simp [World.frozen?, hb]
    have hta : ∀ w, (Instr.typeAssert (.iface 38 (.int .i64 n)) 20 38 true).run Try.prog w = .ok (.tuple #[.int .i64 n, .bool true]) w := fun _ => by kernel_rfl
    refine callsD_of_wpS Try.func65 rfl fun c₀ cs hu => ?_
    simp only [Try.ntmps65, List.size_toArray, List.length_cons, List.length_nil, Nat.reduceAdd, Nat.reduceSub, Array.replicate_succ, Array.replicate_zero, List.push_toArray, List.append_toArray, List.nil_append, List.cons_append]
    apply wpS_seq
    apply wpS_region
    simp [wpOpsS, go_sem, recoverD, hu, Exit.thenS]
    refine wpS_of_wp ?_
    go_wp2
    simp [bodyPostS, results, Try.results65, setRow_one hb]

end Go.Proofs.Ytbplccbjgfappaa

/-
  accrue: Upto, Written, Between.
-/
namespace Go.Proofs.Ytbplccbjgfappaa
open Go Go.Ab Go.RowKit Go.Proofs

theorem err0 : (0 : Int) ≤ 0 ∧ (0 : Int) ≤ 6 := by decide
theorem err1 : (0 : Int) ≤ 1 ∧ (1 : Int) ≤ 6 := by decide
theorem val0 : (0 : Int) ≤ 0 ∧ (0 : Int) ≤ 4000000000000000000 := by decide
theorem err5 : (0 : Int) ≤ 5 ∧ (5 : Int) ≤ 6 := by decide

theorem evenF_err (a b c : Int) : 0 ≤ (evenF a b c).2 ∧ (evenF a b c).2 ≤ 6 := by
  unfold evenF
  split
  · exact ⟨by decide, by decide⟩
  · split
    · exact ⟨by decide, by decide⟩
    · split
      · exact err5
      · exact err0

theorem evenF_val (a b c : Int) (hc : 0 < c) : 0 ≤ (evenF a b c).1 ∧ (evenF a b c).1 ≤ 4000000000000000000 := by
  unfold evenF
  split
  · exact ⟨by decide, by decide⟩
  · rename_i h
    split
    · exact ⟨by decide, by decide⟩
    · split
      · exact ⟨by decide, by decide⟩
      · have hab : 0 ≤ a * b := Int.mul_nonneg (by omega) (by omega)
        have hq : 0 ≤ a * b / c := Int.ediv_nonneg hab (by omega)
        have : 0 ≤ evenQ (a * b) c := by
          unfold evenQ
          split <;> omega
        exact ⟨this, by show evenQ (a * b) c ≤ _; omega⟩

theorem sumSt_err (f : stepT.den) (s : spanT.den) : 0 ≤ (sumSt f s).2 ∧ (sumSt f s).2 ≤ 6 := by
  unfold sumSt
  split
  · cases sumGo (piecesGo f s.2.1 f.1 s.1) (0, 0)
    · exact err5
    · exact err0
  · exact ⟨by decide, by decide⟩

theorem uptoO_err (f : stepT.den) (d : Int) : 0 ≤ (uptoO f d).2 ∧ (uptoO f d).2 ≤ 6 := by
  unfold uptoO
  split
  · exact ⟨by decide, by decide⟩
  · unfold uptoSE
    split
    · exact sumSt_err _ _
    · split
      · exact evenF_err _ _ _
      · exact err0

theorem uptoO_val (f : stepT.den) (d : Int) : 0 ≤ (uptoO f d).1 ∧ (uptoO f d).1 ≤ 4000000000000000000 := by
  unfold uptoO
  split
  · exact val0
  · unfold uptoSE
    split
    · exact val0
    · split
      · exact val0
      · exact evenF_val _ _ _ (by decide)

theorem uptoO_bad (f : stepT.den) (d : Int) (h : (uptoO f d).2 ≠ 0) : (uptoO f d).1 = 0 := by
  unfold uptoO at *
  split at h
  · exact absurd rfl h
  · rename_i hd
    rw [if_neg hd]
    unfold uptoSE at *
    split at h
    · rename_i he
      rw [if_pos he]
    · rename_i he
      rw [if_neg he]
      split at h
      · rename_i h2
        rw [if_pos h2]
      · exact absurd rfl h

theorem errR {n : Int} (h : 0 ≤ n ∧ n ≤ 6) : inR .i64 n := by
  constructor
  · show (-9223372036854775808 : Int) ≤ n
    omega
  · show n ≤ (9223372036854775807 : Int)
    omega

noncomputable def CP : Cx := cx [] [(67, cCurve), (66, cUpto)]
theorem CP_ok : CxOK Try.prog CP := cx_ok mixed trivial ⟨curve_ok, upto_ok, trivial⟩

/-- accrue.Upto, plainly. -/
def UptoF (l : List sliceT.den) (d : Int) : Int × Int := if (curveO l).isNone = true then (0, 1) else uptoO (curveF l) d
def cUptoF : Ct := ⟨[.d slsT, .d i64], [i64, i64], fun x => ((UptoF x.1 x.2.1).1, (UptoF x.1 x.2.1).2, ()), fun _ => []⟩

def frUpto (x : denP [.d slsT, .d i64]) : Fr (denL [i64, i64]) :=
  Fr.br (cCurve.bad (x.1, ())) (Fr.need (inR .i64 (cCurve.pv (x.1, ())).n) (Fr.val (0, (cCurve.pv (x.1, ())).n, ())))
    (Fr.br (cUpto.bad ((cCurve.f (x.1, ())).1, x.2.1, ()))
      (Fr.need (inR .i64 (cUpto.pv ((cCurve.f (x.1, ())).1, x.2.1, ())).n) (Fr.val (0, (cUpto.pv ((cCurve.f (x.1, ())).1, x.2.1, ())).n, ())))
      (Fr.val ((cUpto.f ((cCurve.f (x.1, ())).1, x.2.1, ())).1, 0, ())))

theorem Upto_ok : SoundCt Try.prog 35 cUptoF :=
  conv (df_sound CP_ok (Λ := lam0) (fn := Try.f35) (fr := frUpto) (ps := [.d slsT, .d i64]) (rs := [i64, i64]) ([], 0, ()) (by kernel_rfl) told_ok (fun c E _ => lam0_ok c 0) (fun x => by kernel_rfl)) _ _ fun w F xs vs hr _ => by
    obtain ⟨l, d, _⟩ := xs
    by_cases hc : (curveO l).isNone = true
    · have hb : cCurve.bad (l, ()) = true := hc
      refine ⟨⟨fun _ => ⟨errR err1, trivial⟩, fun h => (by have h' : cCurve.bad (l, ()) = false := h; rw [hb] at h'; cases h')⟩, ?_⟩
      show (if cCurve.bad (l, ()) = true then ((0 : Int), (1 : Int), ()) else _) = ((UptoF l d).1, (UptoF l d).2, ())
      unfold UptoF
      rw [hb, if_pos rfl, if_pos hc]
    · have hb : cCurve.bad (l, ()) = false := (by show (curveO l).isNone = false; exact Bool.eq_false_iff.2 hc)
      have hU : UptoF l d = uptoO (curveF l) d := if_neg hc
      refine ⟨⟨fun h => (by have h' : cCurve.bad (l, ()) = true := h; rw [hb] at h'; cases h'), fun _ => ⟨fun _ => ⟨errR (uptoO_err _ _), trivial⟩, fun _ => trivial⟩⟩, ?_⟩
      show (if cCurve.bad (l, ()) = true then _ else if (!((uptoO (curveF l) d).2 == 0)) = true then ((0 : Int), (uptoO (curveF l) d).2, ()) else ((uptoO (curveF l) d).1, 0, ())) = ((UptoF l d).1, (UptoF l d).2, ())
      rw [hb, if_neg (by decide), hU]
      by_cases h2 : (uptoO (curveF l) d).2 = 0
      · rw [if_neg (by simp [h2]), h2]
      · rw [if_pos (by simp [h2]), uptoO_bad _ _ h2]

/-- accrue.Written, plainly. -/
def cWritten : Ct := ⟨[.d slsT], [i64, i64], fun x => ((UptoF x.1 292195).1, (UptoF x.1 292195).2, ()), fun _ => []⟩
theorem Written_ok : SoundCt Try.prog 34 cWritten :=
  flat (ps := [.d slsT]) (rs := [i64, i64]) (cx_ok (cs := [(35, cUptoF)]) (ps := []) mixed ⟨Upto_ok, trivial⟩ trivial) (fn := Try.f34) (fr := fun x => Fr.val ((cUptoF.f (x.1, 292195, ())).1, (cUptoF.f (x.1, 292195, ())).2.1, ())) ([], ()) (by kernel_rfl) (fun x => by kernel_rfl) _ _
    (fun _ _ x _ _ _ => ⟨trivial, rfl⟩)

/-- upto, where it doesn't panic. -/
def cUptoC : Ct := ⟨cUpto.ps, cUpto.rs, cUpto.f, fun xs => [cUpto.bad xs = false]⟩
theorem uptoC_ok : SoundCt Try.prog 66 cUptoC :=
  ⟨upto_ok.1, fun w F xs vs hb hr hok => (upto_ok.2 w F xs vs hb hr trivial).mono fun e w' h => h.elim (fun h => h.2) (fun h => by
    have h1 : cUpto.bad xs = false := hok
    have h2 : cUpto.bad xs = true := h.1
    rw [h1] at h2
    cases h2)⟩

noncomputable def CB : Cx := cx [(68, cRightS), (66, cUptoC)] [(67, cCurve), (69, cMust)]
theorem CB_ok : CxOK Try.prog CB := cx_ok mixed ⟨rightS_ok, uptoC_ok, trivial⟩ ⟨curve_ok, must_ok, trivial⟩

def frBetw2 (f : stepT.den) (a b : Int) : Fr (denL [i64, i64]) :=
  Fr.need (cUpto.bad (f, b, ()) = false) (Fr.need (cUpto.bad (f, a, ()) = false) (Fr.val (IntKind.i64.wrap ((cUptoC.f (f, b, ())).1 - (cUptoC.f (f, a, ())).1), 0, ())))
def frBetw (x : denP [.d slsT, .d spanT]) : Fr (denL [i64, i64]) :=
  Fr.br (cCurve.bad (x.1, ())) (Fr.need (inR .i64 (cCurve.pv (x.1, ())).n) (Fr.val (0, (cCurve.pv (x.1, ())).n, ())))
    (Fr.br (!(cRightS.f (x.2.1, ())).1)
      (Fr.br (cMust.bad (1, ())) (Fr.need (inR .i64 (cMust.pv (1, ())).n) (Fr.val (0, (cMust.pv (1, ())).n, ()))) (frBetw2 (cCurve.f (x.1, ())).1 x.2.1.1 x.2.1.2.1))
      (frBetw2 (cCurve.f (x.1, ())).1 x.2.1.1 x.2.1.2.1))

/-- accrue.Between, plainly: where no sum is too great. -/
def BetweenF (l : List sliceT.den) (s : spanT.den) : Int × Int := if (curveO l).isNone = true ∨ rightS s = false then (0, 1) else ((uptoO (curveF l) s.2.1).1 - (uptoO (curveF l) s.1).1, 0)
def cBetween : Ct := ⟨[.d slsT, .d spanT], [i64, i64], fun x => ((BetweenF x.1 x.2.1).1, (BetweenF x.1 x.2.1).2, ()), fun x => [(curveO x.1).isNone = false → rightS x.2.1 = true → (uptoO (curveF x.1) x.2.1.2.1).2 = 0 ∧ (uptoO (curveF x.1) x.2.1.1).2 = 0]⟩

theorem Between_ok : SoundCt Try.prog 36 cBetween :=
  conv (df_sound CB_ok (Λ := lam0) (fn := Try.f36) (fr := frBetw) (ps := [.d slsT, .d spanT]) (rs := [i64, i64]) ([], (0, 0, ()), ()) (by kernel_rfl) told_ok (fun c E _ => lam0_ok c 0) (fun x => by kernel_rfl)) _ _ fun w F xs vs hr hok => by
    obtain ⟨l, s, _⟩ := xs
    by_cases hc : (curveO l).isNone = true
    · have hb : cCurve.bad (l, ()) = true := hc
      refine ⟨⟨fun _ => ⟨errR err1, trivial⟩, fun h => (by have h' : cCurve.bad (l, ()) = false := h; rw [hb] at h'; cases h')⟩, ?_⟩
      show (if cCurve.bad (l, ()) = true then ((0 : Int), (1 : Int), ()) else _) = ((BetweenF l s).1, (BetweenF l s).2, ())
      unfold BetweenF
      rw [hb, if_pos rfl, if_pos (.inl hc)]
    · have hb : cCurve.bad (l, ()) = false := (by show (curveO l).isNone = false; exact Bool.eq_false_iff.2 hc)
      by_cases hs : rightS s = true
      · have hok' : (uptoO (curveF l) s.2.1).2 = 0 ∧ (uptoO (curveF l) s.1).2 = 0 := hok (Bool.eq_false_iff.2 hc) hs
        have hn : (!(cRightS.f (s, ())).1) = false := by show (!(rightS s)) = false; rw [hs]; rfl
        have b1 : cUpto.bad (curveF l, s.2.1, ()) = false := by show (!((uptoO (curveF l) s.2.1).2 == 0)) = false; rw [hok'.1]; rfl
        have b2 : cUpto.bad (curveF l, s.1, ()) = false := by show (!((uptoO (curveF l) s.1).2 == 0)) = false; rw [hok'.2]; rfl
        refine ⟨⟨fun h => (by have h' : cCurve.bad (l, ()) = true := h; rw [hb] at h'; cases h'), fun _ => ⟨fun h => (by have h' : (!(cRightS.f (s, ())).1) = true := h; rw [hn] at h'; cases h'), fun _ => ⟨b1, b2, trivial⟩⟩⟩, ?_⟩
        show (if cCurve.bad (l, ()) = true then _ else if (!(cRightS.f (s, ())).1) = true then _ else (IntKind.i64.wrap ((uptoO (curveF l) s.2.1).1 - (uptoO (curveF l) s.1).1), (0 : Int), ())) = ((BetweenF l s).1, (BetweenF l s).2, ())
        have v1 := uptoO_val (curveF l) s.2.1
        have v2 := uptoO_val (curveF l) s.1
        have hB : BetweenF l s = ((uptoO (curveF l) s.2.1).1 - (uptoO (curveF l) s.1).1, 0) := if_neg (fun h => h.elim hc (fun h => by rw [hs] at h; cases h))
        rw [hb, if_neg (by decide), hn, if_neg (by decide), hB, i64w (by omega)]
      · have hn : (!(cRightS.f (s, ())).1) = true := by show (!(rightS s)) = true; simpa using hs
        refine ⟨⟨fun h => (by have h' : cCurve.bad (l, ()) = true := h; rw [hb] at h'; cases h'), fun _ => ⟨fun _ => ⟨fun _ => ⟨errR err1, trivial⟩, fun h => (by cases h)⟩, fun h => (by have h' : (!(cRightS.f (s, ())).1) = false := h; rw [hn] at h'; cases h')⟩⟩, ?_⟩
        show (if cCurve.bad (l, ()) = true then _ else if (!(cRightS.f (s, ())).1) = true then ((0 : Int), (1 : Int), ()) else _) = ((BetweenF l s).1, (BetweenF l s).2, ())
        have hB : BetweenF l s = (0, 1) := if_pos (.inr (by simpa using hs))
        rw [hb, if_neg (by decide), hn, if_pos rfl, hB]

end Go.Proofs.Ytbplccbjgfappaa

/-
  What is earned, day by day: sums of what days cost.
-/
namespace Go.Proofs.Ytbplccbjgfappaa
open Go Go.Ab Go.RowKit Go.Proofs

/-- What n days cost, from one on. -/
def dsum (f : stepT.den) : Int → Nat → Int
  | _, 0 => 0
  | a, n + 1 => valAt f a + dsum f (a + 1) n

theorem dsum_add (f : stepT.den) : (m n : Nat) → (a : Int) → dsum f a (m + n) = dsum f a m + dsum f (a + m) n
  | 0, n, a => by simp [dsum]
  | m + 1, n, a => by
    have h := dsum_add f m n (a + 1)
    rw [show m + 1 + n = (m + n) + 1 by omega]
    simp only [dsum]
    rw [h]
    have : a + 1 + (m : Int) = a + ((m + 1 : Nat) : Int) := by omega
    rw [this]
    omega

theorem dsum_nonneg {f : stepT.den} (h : ∀ d, 0 ≤ valAt f d) : (n : Nat) → (a : Int) → 0 ≤ dsum f a n
  | 0, a => Int.le_refl _
  | n + 1, a => by
    have := dsum_nonneg h n (a + 1)
    have := h a
    simp only [dsum]
    omega

theorem dsum_const {f : stepT.den} {v : Int} : (n : Nat) → (a : Int) → (∀ d, a ≤ d → d < a + n → valAt f d = v) → dsum f a n = n * v
  | 0, a, _ => by simp [dsum]
  | n + 1, a, h => by
    simp only [dsum]
    rw [h a (by omega) (by omega), dsum_const n (a + 1) (fun d h1 h2 => h d (by omega) (by omega))]
    grind

theorem cntLe_same {l : List Int} {a d : Int} (had : a ≤ d) (h : ∀ x ∈ l, x ≤ a ∨ d < x) : cntLe l d = cntLe l a := by
  unfold cntLe
  apply List.countP_congr
  intro x hx
  have := h x hx
  simp only [decide_eq_true_eq]
  omega

theorem valAt_same {f : stepT.den} {a d : Int} (had : a ≤ d) (h : ∀ x ∈ f.1, x ≤ a ∨ d < x) : valAt f d = valAt f a := by
  unfold valAt
  rw [cntLe_same had h]

theorem valAt_nonneg {f : stepT.den} (h : ∀ y ∈ f.2.1, 0 ≤ y) (d : Int) : 0 ≤ valAt f d := by
  unfold valAt
  split
  · exact Int.le_refl _
  · rename_i k _
    rw [List.getD_eq_getElem?_getD]
    cases hk : f.2.1[k]? with
    | none => simp
    | some y =>
      have := h y (List.mem_of_getElem? hk)
      simpa using this

theorem sumStep_of {s t a b v : Int} (hv : 0 ≤ v) (hab : a < b) (_ht : t ≤ 4000000000000000000) :
    sumStep (s, t) (a, b, v) = if t + (b - a) * v ≤ 4000000000000000000 then some (s + (b - a) * v, t + (b - a) * v) else none := by
  have hm : max v (-v) = v := by omega
  unfold sumStep
  simp only [hm]
  have hiff : v > (4000000000000000000 - t) / (b - a) ↔ ¬ t + (b - a) * v ≤ 4000000000000000000 := by
    have := Int.le_ediv_iff_mul_le (a := v) (b := 4000000000000000000 - t) (c := b - a) (by omega)
    rw [Int.mul_comm v] at this
    omega
  by_cases h : t + (b - a) * v ≤ 4000000000000000000
  · rw [if_neg (by rw [hiff]; exact fun hc => hc h), if_pos h]
  · rw [if_pos (hiff.2 h), if_neg h]

/-- The pieces' sum is the days' sum. -/
theorem sumGo_days {f : stepT.den} (hv : ∀ d, 0 ≤ valAt f d) {e : Int} : (l : List Int) → (a s t : Int) → l.Pairwise (· < ·) → (∀ x ∈ f.1, x ≤ a ∨ e ≤ x ∨ x ∈ l) → a < e → t ≤ 4000000000000000000 →
    sumGo (piecesGo f e l a) (s, t) = if t + dsum f a (e - a).toNat ≤ 4000000000000000000 then some (s + dsum f a (e - a).toNat, t + dsum f a (e - a).toNat) else none
  | [], a, s, t, _, hc, hae, ht => by
    have hd : dsum f a (e - a).toNat = (e - a) * valAt f a := by
      rw [dsum_const (e - a).toNat a (fun d h1 h2 => valAt_same h1 (fun x hx => by
        rcases hc x hx with h | h | h
        · exact .inl h
        · exact .inr (by omega)
        · cases h))]
      congr 1
      omega
    rw [hd]
    simp only [piecesGo, sumGo]
    rw [sumStep_of (hv a) hae ht]
    split <;> rfl
  | d :: l, a, s, t, hp, hc, hae, ht => by
    obtain ⟨hp1, hp2⟩ := List.pairwise_cons.1 hp
    unfold piecesGo
    split
    · rename_i hsk
      refine sumGo_days hv l a s t hp2 (fun x hx => ?_) hae ht
      rcases hc x hx with h | h | h
      · exact .inl h
      · exact .inr (.inl h)
      · rcases List.mem_cons.1 h with rfl | h
        · rcases hsk with h | h
          · exact .inl h
          · exact .inr (.inl h)
        · exact .inr (.inr h)
    · rename_i hsk
      have hda : a < d := by omega
      have hde : d < e := by omega
      have hd : dsum f a (d - a).toNat = (d - a) * valAt f a := by
        rw [dsum_const (d - a).toNat a (fun d' h1 h2 => valAt_same h1 (fun x hx => by
          rcases hc x hx with h | h | h
          · exact .inl h
          · exact .inr (by omega)
          · rcases List.mem_cons.1 h with rfl | h
            · exact .inr (by omega)
            · have := hp1 x h
              exact .inr (by omega)))]
        congr 1
        omega
      have hsplit : dsum f a (e - a).toNat = dsum f a (d - a).toNat + dsum f d (e - d).toNat := by
        rw [show (e - a).toNat = (d - a).toNat + (e - d).toNat by omega, dsum_add]
        congr 2
        omega
      have hnn := dsum_nonneg hv (e - d).toNat d
      simp only [sumGo]
      rw [sumStep_of (hv a) hda ht, ← hd]
      by_cases h1 : t + dsum f a (d - a).toNat ≤ 4000000000000000000
      · rw [if_pos h1]
        show sumGo (piecesGo f e l d) _ = _
        have hc' : ∀ x ∈ f.1, x ≤ d ∨ e ≤ x ∨ x ∈ l := fun x hx => by
          rcases hc x hx with h | h | h
          · exact .inl (Int.le_trans h (Int.le_of_lt hda))
          · exact .inr (.inl h)
          · rcases List.mem_cons.1 h with rfl | h
            · exact .inl (Int.le_refl _)
            · exact .inr (.inr h)
        rw [sumGo_days hv l d _ _ hp2 hc' hde h1]
        rw [hsplit, Int.add_assoc, Int.add_assoc]
      · have hno : ¬ t + dsum f a (e - a).toNat ≤ 4000000000000000000 := by
          rw [hsplit]
          clear hd hsplit
          generalize dsum f a (d - a).toNat = A at *
          generalize dsum f d (e - d).toNat = B at *
          omega
        rw [if_neg h1, if_neg hno]
        rfl

/-- Steps that rise, with values of 0 or more. -/
structure Pos (f : stepT.den) : Prop where
  right : rightSt f = true
  pos : ∀ y ∈ f.2.1, 0 ≤ y

theorem Pos.val {f : stepT.den} (h : Pos f) (d : Int) : 0 ≤ valAt f d := valAt_nonneg h.pos d

theorem sumSt_days {f : stepT.den} (h : Pos f) {a e : Int} (ha : 1 ≤ a) (hae : a < e) (he : e ≤ 292195) :
    sumSt f (a, e, ()) = if dsum f a (e - a).toNat ≤ 4000000000000000000 then (dsum f a (e - a).toNat, 0) else (0, 5) := by
  obtain ⟨h1, h2, h3, h4⟩ := rightSt_spec h.right
  have hsum := sumGo_days h.val (e := e) f.1 a 0 0 h2 (fun x hx => .inr (.inr hx)) hae (by decide)
  simp only [Int.zero_add] at hsum
  unfold sumSt
  rw [if_pos ⟨h.right, fullS_iff.2 ⟨ha, hae, he⟩⟩, hsum]
  by_cases hc : dsum f a (e - a).toNat ≤ 4000000000000000000
  · rw [if_pos hc, if_pos hc]
  · rw [if_neg hc, if_neg hc]

/-- What all days ahead of one cost. -/
def Sd (f : stepT.den) (d : Int) : Int := dsum f 1 (clampD d - 1).toNat

theorem evenQ365 {p : Int} (_h : 0 ≤ p) : evenQ p 365 = (p + 182) / 365 := by
  unfold evenQ
  split <;> omega

theorem even365 {p : Int} (h : 0 ≤ p) (h2 : p ≤ 4000000000000000000) : evenF p 1 365 = ((p + 182) / 365, 0) := by
  unfold evenF
  rw [Int.mul_one, evenQ365 h, if_neg (by omega), if_neg (by decide), if_neg (by omega)]

/-- What is earned ahead of a day. -/
theorem uptoO_days {f : stepT.den} (h : Pos f) (d : Int) : uptoO f d = if Sd f d ≤ 4000000000000000000 then ((Sd f d + 182) / 365, 0) else (0, 5) := by
  have hb := clampD_bd d
  have hnn := dsum_nonneg h.val (clampD d - 1).toNat 1
  unfold uptoO
  by_cases hd : clampD d = 1
  · rw [if_pos hd]
    have : Sd f d = 0 := by
      unfold Sd
      rw [hd]
      rfl
    rw [this, if_pos (by decide)]
    rfl
  · rw [if_neg hd, sumSt_days h (by decide) (by omega) hb.2]
    show uptoSE _ _ = _
    unfold Sd
    by_cases hc : dsum f 1 (clampD d - 1).toNat ≤ 4000000000000000000
    · rw [if_pos hc, if_pos hc]
      show uptoSE (dsum f 1 (clampD d - 1).toNat) 0 = _
      unfold uptoSE
      rw [if_neg (fun h => h rfl), even365 hnn hc, if_neg (fun h => h rfl)]
    · rw [if_neg hc, if_neg hc]
      rfl

theorem clampD_mono {a b : Int} (h : a ≤ b) : clampD a ≤ clampD b := by
  unfold clampD
  split <;> split <;> (try split) <;> (try split) <;> omega

theorem Sd_mono {f : stepT.den} (h : Pos f) {a b : Int} (hab : a ≤ b) : Sd f a ≤ Sd f b := by
  have hc := clampD_mono hab
  have ha := clampD_bd a
  unfold Sd
  rw [show (clampD b - 1).toNat = (clampD a - 1).toNat + (clampD b - clampD a).toNat by omega, dsum_add]
  have := dsum_nonneg h.val (clampD b - clampD a).toNat (1 + ((clampD a - 1).toNat : Int))
  omega

theorem Sd_nonneg {f : stepT.den} (h : Pos f) (a : Int) : 0 ≤ Sd f a := dsum_nonneg h.val _ _

theorem clamp_top : clampD 292195 = 292195 := by decide
theorem Sd_top {f : stepT.den} (h : Pos f) (a : Int) : Sd f a ≤ Sd f 292195 := by
  have ha := clampD_bd a
  have : Sd f a = Sd f (clampD a) := by
    unfold Sd
    have : clampD (clampD a) = clampD a := by
      generalize clampD a = c at ha
      unfold clampD
      rw [if_neg (show ¬ c < 1 by omega), if_neg (by omega)]
    rw [this]
  rw [this]
  exact Sd_mono h ha.2

end Go.Proofs.Ytbplccbjgfappaa

/-
  What a year costs on each day is a step that rises; and a slice that is cut in two makes the same.
-/
namespace Go.Proofs.Ytbplccbjgfappaa
open Go Go.Ab Go.RowKit Go.Proofs

theorem rises_snoc {d v : Int} : {l r : List Int} → (d0 v0 : Int) → l.length = r.length →
    rises (l ++ [d]) (r ++ [v]) d0 v0 = (rises l r d0 v0 && (decide (l.getLast?.getD d0 < d) && (decide (d ≤ 292194) && (!(v == r.getLast?.getD v0) && money v))))
  | [], [], d0, v0, _ => by
    show (_ && true) = (true && _)
    rw [Bool.and_true, Bool.true_and]
    rfl
  | [], _ :: _, _, _, h => by simp at h
  | _ :: _, [], _, _, h => by simp at h
  | a :: l, b :: r, d0, v0, h => by
    have ih := rises_snoc (d := d) (v := v) (l := l) (r := r) a b (by simpa using h)
    simp only [List.cons_append, rises]
    rw [ih]
    have e1 : (a :: l).getLast?.getD d0 = l.getLast?.getD a := by
      rw [List.getLast?_cons]
      rfl
    have e2 : (b :: r).getLast?.getD v0 = r.getLast?.getD b := by
      rw [List.getLast?_cons]
      rfl
    rw [e1, e2]
    simp only [Bool.and_assoc]

/-- Rising steps up to a day, with values of 0 or more. -/
structure Good (p : List Int × List Int) (m : Int) : Prop where
  len : p.1.length = p.2.length
  up : rises p.1 p.2 0 0 = true
  le : p.1.getLast?.getD 0 ≤ m
  pos : ∀ y ∈ p.2, 0 ≤ y

theorem getLast_le {l : List Int} {x : Int} (h : l.getLast? = some x) : l = l.dropLast ++ [x] := by
  cases l with
  | nil => simp at h
  | cons a l =>
    rw [List.getLast?_eq_some_getLast (by simp)] at h
    simp only [Option.some.injEq] at h
    rw [← h]
    exact (List.dropLast_concat_getLast (by simp)).symm

/-- Without the last. -/
theorem Good.pop {p : List Int × List Int} {m day : Int} (h : Good p m) (hl : p.1.getLast? = some day) : Good (p.1.dropLast, p.2.dropLast) (day - 1) ∧ day ≤ m := by
  obtain ⟨at_, val⟩ := p
  obtain ⟨h1, h2, h3, h4⟩ := h
  simp only at *
  have e1 := getLast_le hl
  cases hv : val.getLast? with
  | none =>
    have : val = [] := by simpa using hv
    subst this
    rw [e1] at h1
    simp at h1
  | some y =>
    have e2 := getLast_le hv
    have hlen : at_.dropLast.length = val.dropLast.length := by simp [h1]
    rw [e1, e2, rises_snoc 0 0 hlen] at h2
    simp only [Bool.and_eq_true, decide_eq_true_eq] at h2
    refine ⟨⟨hlen, h2.1, ?_, fun z hz => h4 z ?_⟩, ?_⟩
    · have := h2.2.1
      show at_.dropLast.getLast?.getD 0 ≤ day - 1
      omega
    · rw [e2]
      exact List.mem_append_left _ hz
    · rw [hl] at h3
      exact h3

theorem Good.push {p : List Int × List Int} {m day v : Int} (h : Good p m) (hd : m < day) (hday : day ≤ 292194) (hv : 0 ≤ v ∧ v ≤ 4000000000000000000) (hne : v ≠ p.2.getLast?.getD 0) : Good (p.1 ++ [day], p.2 ++ [v]) day := by
  obtain ⟨h1, h2, h3, h4⟩ := h
  refine ⟨by simp [h1], ?_, by simp, fun z hz => ?_⟩
  · show rises (p.1 ++ [day]) (p.2 ++ [v]) 0 0 = true
    rw [rises_snoc 0 0 h1, h2]
    have hm : money v = true := money_iff.2 (by omega)
    have hb : (v == p.2.getLast?.getD 0) = false := by simpa using hne
    have hlt : p.1.getLast?.getD 0 < day := by omega
    simp [hm, hb, hlt, hday]
  · rcases List.mem_append.1 hz with hz | hz
    · exact h4 z hz
    · simp only [List.mem_singleton] at hz
      subst hz
      exact hv.1

theorem Good.mono {p : List Int × List Int} {m m' : Int} (h : Good p m) (hm : m ≤ m') : Good p m' := ⟨h.len, h.up, Int.le_trans h.le hm, h.pos⟩

theorem Good.add {p : List Int × List Int} {m day v : Int} (h : Good p m) (hd : m ≤ day) (h1 : 1 ≤ day) (hv : 0 ≤ v ∧ v ≤ 4000000000000000000) : Good (addAV p day v) day := by
  unfold addAV
  by_cases hl : p.1.getLast? = some day
  · have hp := (h.pop hl).1
    simp only [hl, if_true]
    split
    · rename_i hc
      exact hp.push (by omega) hc.2 hv hc.1
    · exact hp.mono (by omega)
  · simp only [hl, if_false]
    have hlt : p.1.getLast?.getD 0 ≤ day - 1 := by
      have hle := h.le
      cases hx : p.1.getLast? with
      | none => show (0 : Int) ≤ _; omega
      | some x =>
        rw [hx] at hle hl
        have hne : x ≠ day := fun he => hl (by rw [he])
        have hle' : x ≤ m := hle
        show x ≤ _
        omega
    have hg : Good p (day - 1) := ⟨h.len, h.up, hlt, h.pos⟩
    split
    · rename_i hc
      exact hg.push (by omega) hc.2 hv hc.1
    · exact hg.mono (by omega)

theorem fullSl_iff {s : sliceT.den} {e : Int} : fullSl s e = true ↔ e ≤ s.1.1 ∧ s.1.1 < s.1.2.1 ∧ s.1.2.1 ≤ 292195 ∧ 0 ≤ s.2.2.2.2.1 ∧ s.2.2.2.2.1 ≤ 4000000000000000000 := by
  simp [fullSl]

theorem Good.addS {p : List Int × List Int} {s : sliceT.den} {e : Int} (h : Good p e) (he : 1 ≤ e) (hs : fullSl s e = true) : Good (addS p s) s.1.2.1 := by
  obtain ⟨h1, h2, h3, h4, h5⟩ := fullSl_iff.1 hs
  have hf : 1 ≤ s.1.1 := Int.le_trans he h1
  have ht : 1 ≤ s.1.2.1 := Int.le_trans hf (Int.le_of_lt h2)
  exact (h.add h1 hf ⟨h4, h5⟩).add (Int.le_of_lt h2) ht (by decide)

/-- Slices, and where they end. -/
def curveE : List sliceT.den → Int → List Int × List Int → Option (Int × (List Int × List Int))
  | [], e, p => some (e, p)
  | s :: l, e, p => if fullSl s e = true then curveE l s.1.2.1 (addS p s) else none

theorem curveGo_E : (l : List sliceT.den) → (e : Int) → (p : List Int × List Int) → curveGo l e p = (curveE l e p).map (·.2)
  | [], _, _ => rfl
  | s :: l, e, p => by
    simp only [curveGo, curveE]
    split
    · exact curveGo_E l _ _
    · rfl

theorem curveE_append (m : List sliceT.den) : (l : List sliceT.den) → (e : Int) → (p : List Int × List Int) → curveE (l ++ m) e p = (curveE l e p).bind fun q => curveE m q.1 q.2
  | [], _, _ => rfl
  | s :: l, e, p => by
    simp only [List.cons_append, curveE]
    split
    · exact curveE_append m l _ _
    · rfl

theorem curveE_good : {l : List sliceT.den} → {e : Int} → {p : List Int × List Int} → {q : Int × (List Int × List Int)} → Good p e → 1 ≤ e → curveE l e p = some q → Good q.2 q.1 ∧ 1 ≤ q.1
  | [], e, p, q, h, he, hq => by
    simp only [curveE, Option.some.injEq] at hq
    subst hq
    exact ⟨h, he⟩
  | s :: l, e, p, q, h, he, hq => by
    simp only [curveE] at hq
    split at hq
    · rename_i hs
      obtain ⟨h1, h2, _⟩ := fullSl_iff.1 hs
      have ht : 1 ≤ s.1.2.1 := Int.le_trans (Int.le_trans he h1) (Int.le_of_lt h2)
      exact curveE_good (h.addS he hs) ht hq
    · cases hq

theorem good0 : Good ([], []) 1 := ⟨rfl, rfl, by show (0 : Int) ≤ 1; decide, by simp⟩

theorem curve_pos {l : List sliceT.den} (h : (curveO l).isNone = false) : Pos (curveF l) := by
  unfold curveF
  unfold curveO at *
  split at h
  · rename_i hl
    rw [if_pos hl]
    rw [curveGo_E] at h ⊢
    cases hq : curveE l 1 ([], []) with
    | none => rw [hq] at h; cases h
    | some q =>
      have hg := (curveE_good good0 (by decide) hq).1
      show Pos (q.2.1, q.2.2, ())
      refine ⟨?_, hg.pos⟩
      simp only [rightSt, hg.up, Bool.and_true, decide_eq_true_eq]
      exact hg.len
  · cases h

/-- The last value, behind a slice that begins ahead of the last day. -/
theorem last_add {p : List Int × List Int} {day v : Int} (hd : day ≤ 292194) : (addAV p day v).2.getLast?.getD 0 = v := by
  unfold addAV
  generalize (if p.1.getLast? = some day then (p.1.dropLast, p.2.dropLast) else p) = q
  simp only
  split
  · simp
  · rename_i hc
    have : v = q.2.getLast?.getD 0 := by
      apply Classical.byContradiction
      intro hne
      exact hc ⟨hne, hd⟩
    exact this.symm

/-- On a day between, to nothing and back: as it was. -/
theorem add_back {q : List Int × List Int} {m d y : Int} (hq : Good q m) (hm : m < d) (hd : d ≤ 292194) (hy : q.2.getLast?.getD 0 = y) : addAV (addAV q d 0) d y = q := by
  have hne : q.1.getLast? ≠ some d := fun hl => by
    have hle := hq.le
    rw [hl] at hle
    have : d ≤ m := hle
    omega
  by_cases h0 : y = 0
  · have h1 : addAV q d 0 = q := by
      unfold addAV
      simp only [hne, if_false, hy, h0, ne_eq, not_true, false_and]
    rw [h1]
    unfold addAV
    simp only [hne, if_false, hy, ne_eq, not_true, false_and]
  · have h1 : addAV q d 0 = (q.1 ++ [d], q.2 ++ [0]) := by
      unfold addAV
      simp only [hne, if_false, hy]
      rw [if_pos ⟨Ne.symm h0, hd⟩]
    rw [h1]
    unfold addAV
    simp [hy]

/-- A slice in two. -/
theorem addS_two {p : List Int × List Int} {e d : Int} {s x y : sliceT.den} (hp : Good p e) (he : 1 ≤ e) (hs : fullSl s e = true) (h1 : s.1.1 < d) (h2 : d < s.1.2.1)
    (hx1 : x.1.1 = s.1.1) (hx2 : x.1.2.1 = d) (hx3 : x.2.2.2.2.1 = s.2.2.2.2.1) (hy1 : y.1.1 = d) (hy2 : y.1.2.1 = s.1.2.1) (hy3 : y.2.2.2.2.1 = s.2.2.2.2.1) :
    fullSl x e = true ∧ fullSl y d = true ∧ addS (addS p x) y = addS p s := by
  obtain ⟨g1, g2, g3, g4, g5⟩ := fullSl_iff.1 hs
  refine ⟨fullSl_iff.2 ?_, fullSl_iff.2 ?_, ?_⟩
  · rw [hx1, hx2, hx3]
    exact ⟨g1, h1, Int.le_trans (Int.le_of_lt h2) g3, g4, g5⟩
  · rw [hy1, hy2, hy3]
    exact ⟨Int.le_refl _, h2, g3, g4, g5⟩
  · have hf : 1 ≤ s.1.1 := Int.le_trans he g1
    have hq := hp.add g1 hf ⟨g4, g5⟩
    have hb : s.1.1 ≤ 292194 := by
      have : s.1.1 < 292195 := Int.lt_of_lt_of_le g2 g3
      exact Int.le_of_lt_add_one this
    have hdb : d ≤ 292194 := by
      have : d < 292195 := Int.lt_of_lt_of_le h2 g3
      exact Int.le_of_lt_add_one this
    unfold addS
    rw [hx1, hx2, hx3, hy1, hy2, hy3, add_back hq h1 hdb (last_add hb)]

end Go.Proofs.Ytbplccbjgfappaa

/-
  Small functions on spans, risks and covers.
-/
namespace Go.Proofs.Ytbplccbjgfappaa
open Go Go.Ab Go.RowKit Go.Proofs

noncomputable def CH0 : Cx := cx [(49, cRightS), (68, cRightS)] []
theorem CH0_ok : CxOK Try.prog CH0 := cx_ok mixed ⟨right03_ok, rightS_ok, trivial⟩ trivial

def fr_riskR (x : denP [.d riskT]) : Fr (denL [.bool]) :=
  Fr.val (bif bif bif bif bif bif decide (x.fst.fst ≥ 0) then decide (x.fst.fst < 4) else false then bif decide (x.fst.snd.fst ≥ 1) then decide (x.fst.snd.fst ≤ 1000000000000000) else false else false then decide (x.fst.snd.snd.fst ≥ 0) else false then decide (x.fst.snd.snd.fst ≤ 200) else false then decide (x.fst.snd.snd.snd.fst ≥ 0) else false then decide (x.fst.snd.snd.snd.fst < 100) else false, ())
theorem fr_riskR_ok : SoundCt Try.prog 92 ⟨[.d riskT], [.bool], fun xs => (fr_riskR xs).get, fun xs => [(fr_riskR xs).ok]⟩ :=
  fn_sound CH0_ok (Λ := lam0) (fn := Try.f92) (dfP [.d riskT]) (by kernel_rfl) (fun c E _ => lam0_ok c 0) (fun x => by kernel_rfl)

def fr_riskR6 (x : denP [.d riskT]) : Fr (denL [.bool]) :=
  Fr.br (bif bif bif decide (x.fst.fst < 0) then true else decide (x.fst.fst > 3) then true else decide (x.fst.snd.fst < 1) then true else decide (x.fst.snd.fst > 1000000000000000)) (Fr.val (false, ())) (Fr.val (bif bif bif decide (x.fst.snd.snd.fst ≥ 0) then decide (x.fst.snd.snd.fst ≤ 200) else false then decide (x.fst.snd.snd.snd.fst ≥ 0) else false then decide (x.fst.snd.snd.snd.fst ≤ 99) else false, ()))
theorem fr_riskR6_ok : SoundCt Try.prog 127 ⟨[.d riskT], [.bool], fun xs => (fr_riskR6 xs).get, fun xs => [(fr_riskR6 xs).ok]⟩ :=
  fn_sound CH0_ok (Λ := lam0) (fn := Try.f127) (dfP [.d riskT]) (by kernel_rfl) (fun c E _ => lam0_ok c 0) (fun x => by kernel_rfl)

def fr_coverR8 (x : denP [.d coverT]) : Fr (denL [.bool]) :=
  Fr.br (bif bif bif decide (x.fst.fst < 0) then true else decide (x.fst.fst > 7) then true else decide (x.fst.snd.snd.snd.snd.fst < 1) then true else decide (x.fst.snd.snd.snd.snd.fst > 10000)) (Fr.val (false, ())) (Fr.val (bif bif bif decide (x.fst.snd.snd.snd.fst ≥ 0) then decide (x.fst.snd.snd.snd.fst < x.fst.snd.fst) else false then decide (x.fst.snd.fst ≤ x.fst.snd.snd.fst) else false then decide (x.fst.snd.snd.fst ≤ 1000000000000000) else false, ()))
theorem fr_coverR8_ok : SoundCt Try.prog 131 ⟨[.d coverT], [.bool], fun xs => (fr_coverR8 xs).get, fun xs => [(fr_coverR8 xs).ok]⟩ :=
  fn_sound CH0_ok (Λ := lam0) (fn := Try.f131) (dfP [.d coverT]) (by kernel_rfl) (fun c E _ => lam0_ok c 0) (fun x => by kernel_rfl)

def fr_dayC (x : denP [.d i64]) : Fr (denL [.bool]) :=
  Fr.val (bif decide (x.fst ≥ 1) then decide (x.fst ≤ 292194) else false, ())
theorem fr_dayC_ok : SoundCt Try.prog 51 ⟨[.d i64], [.bool], fun xs => (fr_dayC xs).get, fun xs => [(fr_dayC xs).ok]⟩ :=
  fn_sound CH0_ok (Λ := lam0) (fn := Try.f51) (dfP [.d i64]) (by kernel_rfl) (fun c E _ => lam0_ok c 0) (fun x => by kernel_rfl)

def fr_in3 (x : denP [.d spanT, .d i64]) : Fr (denL [.bool]) :=
  Fr.val (bif bif (cRightS.f ((x.fst.fst, x.fst.snd.fst, ()), ())).fst then decide (x.fst.fst ≤ x.snd.fst) else false then decide (x.snd.fst < x.fst.snd.fst) else false, ())
theorem fr_in3_ok : SoundCt Try.prog 23 ⟨[.d spanT, .d i64], [.bool], fun xs => (fr_in3 xs).get, fun xs => [(fr_in3 xs).ok]⟩ :=
  fn_sound CH0_ok (Λ := lam0) (fn := Try.f23) (dfP [.d spanT, .d i64]) (by kernel_rfl) (fun c E _ => lam0_ok c 0) (fun x => by kernel_rfl)

def fr_kept (x : denP [.d spanT]) : Fr (denL [spanT]) :=
  Fr.br (bif !(cRightS.f ((x.fst.fst, x.fst.snd.fst, ()), ())).fst then true else x.fst.fst == x.fst.snd.fst) (Fr.val ((0, 0, ()), ())) (Fr.val ((x.fst.fst, x.fst.snd.fst, ()), ()))
theorem fr_kept_ok : SoundCt Try.prog 90 ⟨[.d spanT], [spanT], fun xs => (fr_kept xs).get, fun xs => [(fr_kept xs).ok]⟩ :=
  fn_sound CH0_ok (Λ := lam0) (fn := Try.f90) (dfP [.d spanT]) (by kernel_rfl) (fun c E _ => lam0_ok c 0) (fun x => by kernel_rfl)

theorem ite_no (b v : Bool) : (if b = true then ((false, ()) : Bool × Unit) else (v, ())) = (!b && v, ()) := by cases b <;> rfl
theorem ite_yes (b v : Bool) : (if b = true then ((true, ()) : Bool × Unit) else (v, ())) = (b || v, ()) := by cases b <;> rfl

/-- A risk that may be. -/
def riskB (k v a z : Int) : Bool := decide (0 ≤ k ∧ k < 4 ∧ 1 ≤ v ∧ v ≤ 1000000000000000 ∧ 0 ≤ a ∧ a ≤ 200 ∧ 0 ≤ z ∧ z < 100)
def cRisk : Ct := ⟨[.d riskT], [.bool], fun x => (riskB x.1.1 x.1.2.1 x.1.2.2.1 x.1.2.2.2.1, ()), fun _ => []⟩
theorem risk_ok : SoundCt Try.prog 92 cRisk :=
  conv fr_riskR_ok _ _ (fun _ _ x _ _ _ => by
    obtain ⟨⟨k, v, a, z, _⟩, _⟩ := x
    refine ⟨by simp [conj, Fr.ok, fr_riskR], ?_⟩
    dsimp only [fr_riskR, Fr.get, riskB, Ty.den, PT.den]
    simp only [Bool.cond_false_right]
    congr 1
    rw [Bool.eq_iff_iff]
    simp only [Bool.and_eq_true, decide_eq_true_eq]
    omega)
theorem risk6_ok : SoundCt Try.prog 127 cRisk :=
  conv fr_riskR6_ok _ _ (fun _ _ x _ _ _ => by
    obtain ⟨⟨k, v, a, z, _⟩, _⟩ := x
    refine ⟨by simp [conj, Fr.ok, fr_riskR6], ?_⟩
    dsimp only [fr_riskR6, Fr.get, riskB, Ty.den, PT.den]
    simp only [ite_no, Bool.cond_true_left, Bool.cond_false_right]
    congr 1
    rw [Bool.eq_iff_iff]
    simp only [Bool.and_eq_true, Bool.not_eq_true', Bool.or_eq_false_iff, decide_eq_true_eq, decide_eq_false_iff_not]
    omega)

/-- A cover that may be. -/
def coverB (p l g d s : Int) : Bool := decide (0 ≤ p ∧ p < 8 ∧ 1 ≤ s ∧ s ≤ 10000 ∧ 0 ≤ d ∧ d < l ∧ l ≤ g ∧ g ≤ 1000000000000000)
def cCover : Ct := ⟨[.d coverT], [.bool], fun x => (coverB x.1.1 x.1.2.1 x.1.2.2.1 x.1.2.2.2.1 x.1.2.2.2.2.1, ()), fun _ => []⟩
theorem cover8_ok : SoundCt Try.prog 131 cCover :=
  conv fr_coverR8_ok _ _ (fun _ _ x _ _ _ => by
    obtain ⟨⟨p, l, g, d, s, _⟩, _⟩ := x
    refine ⟨by simp [conj, Fr.ok, fr_coverR8], ?_⟩
    dsimp only [fr_coverR8, Fr.get, coverB, Ty.den, PT.den]
    simp only [ite_no, Bool.cond_true_left, Bool.cond_false_right]
    congr 1
    rw [Bool.eq_iff_iff]
    simp only [Bool.and_eq_true, Bool.not_eq_true', Bool.or_eq_false_iff, decide_eq_true_eq, decide_eq_false_iff_not]
    omega)

/-- A number that is a day. -/
def dayB (d : Int) : Bool := decide (1 ≤ d ∧ d ≤ 292194)
def cDay : Ct := ⟨[.d i64], [.bool], fun x => (dayB x.1, ()), fun _ => []⟩
theorem day_ok : SoundCt Try.prog 51 cDay :=
  conv fr_dayC_ok _ _ (fun _ _ x _ _ _ => by
    obtain ⟨d, _⟩ := x
    refine ⟨by simp [conj, Fr.ok, fr_dayC], ?_⟩
    dsimp only [fr_dayC, Fr.get, dayB, Ty.den, PT.den]
    simp only [Bool.cond_false_right]
    congr 1
    rw [Bool.eq_iff_iff]
    simp only [Bool.and_eq_true, decide_eq_true_eq, ge_iff_le])

/-- A day of a span. -/
def inB (a b d : Int) : Bool := decide (1 ≤ a ∧ b ≤ 292195 ∧ a ≤ d ∧ d < b)
def cIn : Ct := ⟨[.d spanT, .d i64], [.bool], fun x => (inB x.1.1 x.1.2.1 x.2.1, ()), fun _ => []⟩
theorem in3_ok : SoundCt Try.prog 23 cIn :=
  conv fr_in3_ok _ _ (fun _ _ x _ _ _ => by
    obtain ⟨⟨a, b, _⟩, d, _⟩ := x
    refine ⟨by simp [conj, Fr.ok, fr_in3], ?_⟩
    dsimp only [fr_in3, Fr.get, inB, cRightS, rightS, Ty.den, PT.den]
    simp only [Bool.cond_false_right]
    congr 1
    rw [Bool.eq_iff_iff]
    simp only [Bool.and_eq_true, decide_eq_true_eq]
    omega)

/-- A span that has days, or the one of zeros. -/
def keptS (s : spanT.den) : spanT.den := if fullS s = true then s else (0, 0, ())
def cKept : Ct := ⟨[.d spanT], [spanT], fun x => (keptS x.1, ()), fun _ => []⟩
theorem kept_p (a b : Int) : ((¬a ≥ 1 ∨ ¬a ≤ b ∨ ¬b ≤ 292195) ∨ a = b) ↔ (¬a ≥ 1 ∨ ¬a < b ∨ ¬b ≤ 292195) := by omega
theorem kept_b (a b : Int) : (bif !(rightS (a, b, ())) then true else a == b) = !(fullS (a, b, ())) := by
  dsimp only [rightS, fullS, Ty.den, PT.den]
  simp only [Bool.cond_true_left]
  rw [Bool.eq_iff_iff]
  simp only [Bool.or_eq_true, Bool.not_eq_true', Bool.and_eq_false_iff, decide_eq_false_iff_not, beq_iff_eq]
  exact kept_p a b
theorem kept_ok : SoundCt Try.prog 90 cKept :=
  conv fr_kept_ok _ _ (fun _ _ x _ _ _ => by
    obtain ⟨⟨a, b, _⟩, _⟩ := x
    refine ⟨by simp [conj, Fr.ok, fr_kept], ?_⟩
    show (if (bif !(rightS (a, b, ())) then true else a == b) = true then (((0, 0, ()), ()) : spanT.den × Unit) else ((a, b, ()), ())) = (if fullS (a, b, ()) = true then (a, b, ()) else (0, 0, ()), ())
    rw [kept_b]
    cases fullS (a, b, ()) <;> rfl)

noncomputable def CH1 : Cx := cx [(90, cKept)] []
theorem CH1_ok : CxOK Try.prog CH1 := cx_ok mixed ⟨kept_ok, trivial⟩ trivial

end Go.Proofs.Ytbplccbjgfappaa

/-
  slices.SortStableFunc over numbers: its parts.
-/
namespace Go.Proofs.Ytbplccbjgfappaa
open Go Go.Ab Go.RowKit Go.Proofs

/-- 'less', as a function that compares has it. -/
abbrev cmpT : PT := .pf [i64, i64] [i64]
def ltOf (g : cmpT.den) (x y : Int) : Bool := decide ((g.1 (x, y, ())).1 < 0)
/-- It answers among these. -/
def DomOf (g : cmpT.den) (l : List Int) : Prop := ∀ x ∈ l, ∀ y ∈ l, g.2 (x, y, ())

theorem DomOf.sub {g : cmpT.den} {l s : List Int} (h : DomOf g l) (hs : ∀ x ∈ s, x ∈ l) : DomOf g s := fun x hx y hy => h x (hs x hx) y (hs y hy)

theorem half_nat {i j : Nat} (h : i + j ≤ 9223372036854775807) : IntKind.i64.wrap ((IntKind.u64.wrap (IntKind.i64.wrap ((i : Int) + j))).fdiv (2 ^ min (Int.toNat 1) IntKind.u64.bits)) = ((i + j) / 2 : Nat) := by
  have h1 : IntKind.i64.wrap ((i : Int) + j) = (i : Int) + j := IntWalk.i64_in _ (by omega)
  have h2 : IntKind.u64.wrap ((i : Int) + j) = (i : Int) + j := IntWalk.u64_in _ (by omega)
  have h3 : (2 : Int) ^ min (Int.toNat 1) IntKind.u64.bits = 2 := by decide
  rw [h1, h2, h3, Int.fdiv_eq_ediv_of_nonneg _ (by decide), IntWalk.i64_in _ (by omega)]
  omega

theorem add_nat {i j : Nat} (h : i + j ≤ 9223372036854775807) : IntKind.i64.wrap ((i : Int) + j) = (i + j : Nat) := by
  rw [IntWalk.i64_in _ (by omega)]
  omega
theorem succ_nat {i : Nat} (h : i + 1 ≤ 9223372036854775807) : IntKind.i64.wrap ((i : Int) + 1) = (i + 1 : Nat) := by
  rw [IntWalk.i64_in _ (by omega)]
  omega
theorem sub_nat {i j : Nat} (h : j ≤ i) (h2 : i ≤ 9223372036854775807) : IntKind.i64.wrap ((i : Int) - j) = (i - j : Nat) := by
  rw [IntWalk.i64_in _ (by omega)]
  omega
theorem pred_nat {i : Nat} (h : 1 ≤ i) (h2 : i ≤ 9223372036854775807) : IntKind.i64.wrap ((i : Int) - 1) = (i - 1 : Nat) := by
  rw [IntWalk.i64_in _ (by omega)]
  omega

theorem swapL_length {l : List Int} {i j : Nat} : (swapL l 0 i j).length = l.length := by simp [swapL]
theorem swapL_mem {l : List Int} {i j : Nat} (hi : i < l.length) (hj : j < l.length) {x : Int} (h : x ∈ swapL l 0 i j) : x ∈ l := by
  unfold swapL at h
  have h1 : l.getD i 0 ∈ l := getD_mem hi
  have h2 : l.getD j 0 ∈ l := getD_mem hj
  rcases List.mem_or_eq_of_mem_set h with h | rfl
  · rcases List.mem_or_eq_of_mem_set h with h | rfl
    · exact h
    · exact h2
  · exact h1

/-! Insertion: the inner loop -/
abbrev pt_insI : Pt := ⟨53, 2, ⟨[(1, .d i64), (2, .d i64), (3, cmpT), (8, .d i64), (9, .d i64)], [.al 10000 0, .o 0 3 i64]⟩, ⟨[(1, .d i64), (2, .d i64), (3, cmpT), (8, .d i64)], [.al 10000 0, .o 0 3 i64]⟩, ⟨[], []⟩⟩
noncomputable def insCode : Code := ((Go.Ab.loopB (loopF Try.f161 0) 0).getD .skip)

noncomputable def CI0 : Cx := cx [] []
theorem CI0_ok : CxOK Try.prog CI0 := cx_ok mixed trivial trivial

def fr_insI (x : pt_insI.M.X) : Fr pt_insI.Out :=
  let a := x.1.1; let j := x.1.2.2.2.2.1; let g := x.1.2.2.1; let l := x.2.1
  Fr.need (decide (j > a) = true → 0 ≤ j ∧ j < l.length)
    (Fr.need (decide (j > a) = true → j.toNat < l.length)
      (Fr.need (decide (j > a) = true → 0 ≤ IntKind.i64.wrap (j - 1) ∧ IntKind.i64.wrap (j - 1) < l.length)
        (Fr.need (decide (j > a) = true → (IntKind.i64.wrap (j - 1)).toNat < l.length)
          (Fr.need (decide (j > a) = true → g.2 (l.getD j.toNat i64.dflt, l.getD (IntKind.i64.wrap (j - 1)).toNat i64.dflt, ()))
            (Fr.br (bif decide (j > a) then decide ((g.1 (l.getD j.toNat i64.dflt, l.getD (IntKind.i64.wrap (j - 1)).toNat i64.dflt, ())).1 < 0) else false)
              (Fr.need (0 ≤ IntKind.i64.wrap (j - 1) ∧ IntKind.i64.wrap (j - 1) < l.length)
                (Fr.need ((IntKind.i64.wrap (j - 1)).toNat < l.length)
                  (Fr.need (0 ≤ j ∧ j < l.length)
                    (Fr.need (j.toNat < l.length)
                      (Fr.need (0 ≤ j ∧ j < l.length)
                        (Fr.need (j.toNat < l.length)
                          (Fr.need (0 ≤ IntKind.i64.wrap (j - 1) ∧ IntKind.i64.wrap (j - 1) < (l.set j.toNat (l.getD (IntKind.i64.wrap (j - 1)).toNat i64.dflt)).length)
                            (Fr.need ((IntKind.i64.wrap (j - 1)).toNat < (l.set j.toNat (l.getD (IntKind.i64.wrap (j - 1)).toNat i64.dflt)).length)
                              (Fr.val (Rd.next ((a, x.1.2.1, (g.1, g.2), x.1.2.2.2.1, IntKind.i64.wrap (j - 1), ()),
                                ((l.set j.toNat (l.getD (IntKind.i64.wrap (j - 1)).toNat i64.dflt)).set (IntKind.i64.wrap (j - 1)).toNat (l.getD j.toNat i64.dflt), ()))))))))))))
              (Fr.val (Rd.out ((a, x.1.2.1, (g.1, g.2), x.1.2.2.2.1, ()), (l, ())))))))))

theorem sem_insI : Does Try.prog insCode pt_insI.M pt_insI fr_insI :=
  Does.of_run CI0_ok (bs := 0) (Λ := lam0) rfl rfl rfl (fun E => lam0_ok _ 0) (fun x => by kernel_rfl)

structure InvInsI (a j : Int) (g : cmpT.den) (l : List Int) : Prop where
  a0 : 0 ≤ a
  aj : a ≤ j
  jl : j < l.length
  big : (l.length : Int) ≤ 9223372036854775807
  dom : DomOf g l

def FInsI (x : pt_insI.M.X) : Fr pt_insI.Out :=
  Fr.need (InvInsI x.1.1 x.1.2.2.2.2.1 x.1.2.2.1 x.2.1) (Fr.val (Rd.out ((x.1.1, x.1.2.1, x.1.2.2.1, x.1.2.2.2.1, ()), (insDown (ltOf x.1.2.2.1) 0 x.1.1.toNat x.1.2.2.2.2.1.toNat x.2.1, ()))))

theorem lawInsI (a b i j : Int) (g : cmpT.den) (l : List Int) (hinv : InvInsI a j g l) (Q : pt_insI.Out → Prop)
    (hq : Q (Rd.out ((a, b, g, i, ()), (insDown (ltOf g) 0 a.toNat j.toNat l, ())))) : (fr_insI ((a, b, g, i, j, ()), (l, ()))).satP fun
      | .next x' => InvInsI x'.1.1 x'.1.2.2.2.2.1 x'.1.2.2.1 x'.2.1 ∧ x'.1.2.2.2.2.1.toNat < j.toNat ∧ (FInsI x').satP Q
      | .out y => Q (.out y)
      | .back z => Q (.back z)
      | .pan p => Q (.pan p) := by
  obtain ⟨h0, h1, h2, h3, h4⟩ := hinv
  obtain ⟨a', rfl⟩ : ∃ n : Nat, a = n := ⟨a.toNat, by omega⟩
  obtain ⟨j', rfl⟩ : ∃ n : Nat, j = n := ⟨j.toNat, by omega⟩
  dsimp only [fr_insI, Fr.satP, Ty.den, PT.den]
  by_cases hj : a' < j'
  · obtain ⟨k, rfl⟩ : ∃ k, j' = k + 1 := ⟨j' - 1, by omega⟩
    have hkl : k + 1 < l.length := by omega
    have hw : IntKind.i64.wrap (((k + 1 : Nat) : Int) - 1) = (k : Nat) := by rw [pred_nat (by omega) (by omega)]; rfl
    have hd : decide (((k + 1 : Nat) : Int) > (a' : Int)) = true := decide_eq_true (by omega)
    have t1 : ((k + 1 : Nat) : Int).toNat = k + 1 := rfl
    have t2 : ((k : Nat) : Int).toNat = k := rfl
    rw [hw, hd, t1, t2]
    simp only [List.length_set]
    refine ⟨fun _ => ⟨by omega, by omega⟩, fun _ => by omega, fun _ => ⟨by omega, by omega⟩, fun _ => by omega, fun _ => h4 _ (getD_mem hkl) _ (getD_mem (by omega)), fun hc => ?_, fun hc => ?_⟩
    · refine ⟨⟨by omega, by omega⟩, by omega, ⟨by omega, by omega⟩, by omega, ⟨by omega, by omega⟩, by omega, ⟨by omega, by omega⟩, by omega, ?_⟩
      have hI : InvInsI a' k g (swapL l 0 (k + 1) k) := ⟨by omega, by omega, by rw [swapL_length]; omega, by rw [swapL_length]; omega, h4.sub fun x hx => swapL_mem hkl (by omega) hx⟩
      refine ⟨hI, by omega, hI, ?_⟩
      simp only [Int.toNat_natCast, insDown] at hq ⊢
      rw [if_pos (by omega)] at hq
      have hc' : ltOf g (l.getD (k + 1) 0) (l.getD k 0) = true := hc
      rw [hc'] at hq
      exact hq
    · simp only [Int.toNat_natCast, insDown] at hq
      rw [if_pos (by omega)] at hq
      have hc' : ltOf g (l.getD (k + 1) 0) (l.getD k 0) = false := hc
      rw [hc'] at hq
      exact hq
  · have hd : decide ((j' : Int) > (a' : Int)) = false := decide_eq_false (by omega)
    rw [hd]
    refine ⟨fun h => (by cases h), fun h => (by cases h), fun h => (by cases h), fun h => (by cases h), fun h => (by cases h), fun hc => (by cases hc), fun _ => ?_⟩
    have hx : insDown (ltOf g) 0 a' j' l = l := by
      cases j' with
      | zero => rfl
      | succ k => simp only [insDown]; rw [if_neg (by omega)]
    simp only [Int.toNat_natCast, hx] at hq
    exact hq

theorem loopInsI : Does Try.prog (.loop insCode) pt_insI.M pt_insI FInsI := by
  refine Does.loop (n := 53) (id := 2) sem_insI (inv := fun x => InvInsI x.1.1 x.1.2.2.2.2.1 x.1.2.2.1 x.2.1) (μ := fun x => x.1.2.2.2.2.1.toNat) ?_ (fun x Q h => h.1)
  rintro ⟨⟨a, b, g, i, j, _⟩, ⟨l, _⟩⟩ hinv Q hq
  exact lawInsI a b i j g l hinv Q hq.2

end Go.Proofs.Ytbplccbjgfappaa

/-
  slices.insertionSortCmpFunc, swapRangeCmpFunc, rotateCmpFunc over numbers.
-/
namespace Go.Proofs.Ytbplccbjgfappaa
open Go Go.Ab Go.RowKit Go.Proofs

/-! Insertion: the outer loop -/
abbrev pt_insO : Pt := ⟨53, 0, ⟨[(1, .d i64), (2, .d i64), (3, cmpT), (8, .d i64)], [.al 10000 0, .o 0 3 i64]⟩, ⟨[], [.al 10000 0, .o 0 3 i64]⟩, ⟨[], []⟩⟩
noncomputable def ΛInsI : Nat → St → Option Tr := fun _ => pt_insI.han CI0.Γ pt_insI.M FInsI

def fr_insO (x : pt_insO.M.X) : Fr pt_insO.Out :=
  let a := x.1.1; let b := x.1.2.1; let g := x.1.2.2.1; let i := x.1.2.2.2.1; let l := x.2.1
  Fr.br (decide (i < b))
    (Fr.need (InvInsI a i (g.1, g.2) l) (Fr.val (Rd.next ((a, b, (g.1, g.2), IntKind.i64.wrap (i + 1), ()), (insDown (ltOf (g.1, g.2)) 0 a.toNat i.toNat l, ())))))
    (Fr.val (Rd.out ((), (l, ()))))

theorem lam_insI {E : Env} : LamOK Try.prog E ΛInsI (loopF Try.f161 0) 0 :=
  lam1 (b := insCode) (by kernel_rfl) (by kernel_rfl) (Does.han CI0_ok rfl loopInsI)

theorem sem_insO : Does Try.prog (loopF Try.f161 0) pt_insO.M pt_insO fr_insO :=
  Does.of_run CI0_ok (bs := 0) (Λ := ΛInsI) rfl rfl rfl (fun E => lam_insI) (fun x => by kernel_rfl)

theorem insDown_mem {lt : Int → Int → Bool} {a : Nat} : (j : Nat) → {l : List Int} → j < l.length → ∀ x ∈ insDown lt 0 a j l, x ∈ l
  | 0, _, _, _, h => h
  | j + 1, l, hj, x, h => by
    simp only [insDown] at h
    split at h
    · cases hc : lt (l.getD (j + 1) 0) (l.getD j 0) with
      | true =>
        rw [hc] at h
        exact swapL_mem hj (by omega) (insDown_mem j (by rw [swapL_length]; omega) x h)
      | false =>
        rw [hc] at h
        exact h
    · exact h

theorem insDown_length {lt : Int → Int → Bool} {a : Nat} : (j : Nat) → {l : List Int} → (insDown lt 0 a j l).length = l.length
  | 0, _ => rfl
  | j + 1, l => by
    simp only [insDown]
    split
    · cases lt (l.getD (j + 1) 0) (l.getD j 0) with
      | true => rw [cond_true, insDown_length j, swapL_length]
      | false => rfl
    · rfl

structure InvInsO (a b i : Int) (g : cmpT.den) (l : List Int) : Prop where
  a0 : 0 ≤ a
  ai : a < i
  bl : b ≤ l.length
  il : i ≤ 9223372036854775807
  big : (l.length : Int) ≤ 9223372036854775807
  dom : DomOf g l

def FInsO (x : pt_insO.M.X) : Fr pt_insO.Out :=
  Fr.need (InvInsO x.1.1 x.1.2.1 x.1.2.2.2.1 x.1.2.2.1 x.2.1) (Fr.val (Rd.out ((), (insFrom (ltOf x.1.2.2.1) 0 x.1.1.toNat (x.1.2.1 - x.1.2.2.2.1).toNat x.1.2.2.2.1.toNat x.2.1, ()))))

theorem lawInsO (a b i : Int) (g : cmpT.den) (l : List Int) (hinv : InvInsO a b i g l) (Q : pt_insO.Out → Prop)
    (hq : Q (Rd.out ((), (insFrom (ltOf g) 0 a.toNat (b - i).toNat i.toNat l, ())))) : (fr_insO ((a, b, g, i, ()), (l, ()))).satP fun
      | .next x' => InvInsO x'.1.1 x'.1.2.1 x'.1.2.2.2.1 x'.1.2.2.1 x'.2.1 ∧ (x'.1.2.1 - x'.1.2.2.2.1).toNat < (b - i).toNat ∧ (FInsO x').satP Q
      | .out y => Q (.out y)
      | .back z => Q (.back z)
      | .pan p => Q (.pan p) := by
  obtain ⟨h0, h1, h2, h3, h4, h5⟩ := hinv
  dsimp only [fr_insO, Fr.satP, Ty.den, PT.den]
  refine ⟨fun hi => ?_, fun hi => ?_⟩
  · have hlt : i < b := of_decide_eq_true hi
    have hw : IntKind.i64.wrap (i + 1) = i + 1 := IntWalk.i64_in _ (by omega)
    have hI : InvInsO a b (i + 1) g (insDown (ltOf g) 0 a.toNat i.toNat l) := ⟨h0, by omega, by rw [insDown_length]; exact h2, by omega, by rw [insDown_length]; exact h4, h5.sub fun x hx => insDown_mem _ (by omega) x hx⟩
    refine ⟨⟨h0, by omega, by omega, h4, h5⟩, ?_⟩
    rw [hw]
    refine ⟨hI, by omega, hI, ?_⟩
    have e1 : (b - i).toNat = (b - (i + 1)).toNat + 1 := by omega
    have e2 : (i + 1).toNat = i.toNat + 1 := by omega
    rw [e1] at hq
    simp only [insFrom] at hq
    dsimp only
    rw [e2]
    exact hq
  · have hge : ¬ i < b := of_decide_eq_false hi
    have e1 : (b - i).toNat = 0 := by omega
    rw [e1] at hq
    exact hq

theorem loopInsO : Does Try.prog (.loop (loopF Try.f161 0)) pt_insO.M pt_insO FInsO := by
  refine Does.loop (n := 53) (id := 0) sem_insO (inv := fun x => InvInsO x.1.1 x.1.2.1 x.1.2.2.2.1 x.1.2.2.1 x.2.1) (μ := fun x => (x.1.2.1 - x.1.2.2.2.1).toNat) ?_ (fun x Q h => h.1)
  rintro ⟨⟨a, b, g, i, _⟩, ⟨l, _⟩⟩ hinv Q hq
  exact lawInsO a b i g l hinv Q hq.2

noncomputable def ΛInsO : Nat → St → Option Tr := fun _ => pt_insO.han CI0.Γ pt_insO.M FInsO

/-- What compares does so by keys, among these. -/
def OrdOf (g : cmpT.den) (l : List Int) : Prop := DomOf g l ∧ ∃ key : Int → Int, LtK (ltOf g) key l

theorem OrdOf.sub {g : cmpT.den} {l s : List Int} (h : OrdOf g l) (hs : ∀ x ∈ s, x ∈ l) : OrdOf g s := by
  obtain ⟨h1, key, h2⟩ := h
  exact ⟨h1.sub hs, key, h2.sub hs⟩

noncomputable def mInsert : Mt := ⟨3, i64, [.d i64, .d i64, cmpT], [], fun l x => (partB (ltOf x.2.2.1) x.1.toNat x.2.1.toNat l, ()), fun l x => [0 ≤ x.1, x.1 ≤ x.2.1, x.2.1 ≤ l.length, (l.length : Int) ≤ 4611686018427387903, OrdOf x.2.2.1 l]⟩

def fr_insert (l : List Int) (x : denP [.d i64, .d i64, cmpT]) : Fr (List Int × denL []) :=
  Fr.need (InvInsO x.1 x.2.1 (IntKind.i64.wrap (x.1 + 1)) (x.2.2.1.1, x.2.2.1.2) l)
    (Fr.val (insFrom (ltOf (x.2.2.1.1, x.2.2.1.2)) 0 x.1.toNat (x.2.1 - IntKind.i64.wrap (x.1 + 1)).toNat (IntKind.i64.wrap (x.1 + 1)).toNat l, ()))

theorem insert_ok : SoundMt Try.prog 161 mInsert :=
  convMt (mt_sound CI0_ok (Λ := ΛInsO) (fn := Try.f161) (fr := fr_insert) (e := 3) (T := i64) (ps := [.d i64, .d i64, cmpT]) (rs := []) (0, 0, (fun _ => (0, ()), fun _ => True), ()) (by kernel_rfl) rfl rfl
    (fun c E hc => lam1f hc (by kernel_rfl) (b := loopF Try.f161 0) (by kernel_rfl) (Does.han CI0_ok rfl loopInsO)) (fun l x => by kernel_rfl)) _ _ fun w F l xs vs _ _ _ hok => by
    obtain ⟨a, b, g, rfl⟩ : ∃ (a b : Int) (g : cmpT.den), xs = (a, b, g, ()) := ⟨xs.1, xs.2.1, xs.2.2.1, rfl⟩
    have hok' : (0 : Int) ≤ a ∧ (a : Int) ≤ b ∧ (b : Int) ≤ (List.length (α := Int) l : Int) ∧ (List.length (α := Int) l : Int) ≤ 4611686018427387903 ∧ OrdOf g l := hok
    obtain ⟨h1, h2, h3, hlen, h4, key, h5⟩ := hok'
    have hw : IntKind.i64.wrap (a + 1) = a + 1 := IntWalk.i64_in _ (by omega)
    dsimp only [fr_insert, Fr.ok, Fr.get, Ty.den, PT.den]
    rw [hw]
    refine ⟨⟨⟨h1, by omega, h3, by omega, by omega, h4⟩, trivial⟩, ?_⟩
    have := insFrom_part (key := key) (lt := ltOf g) (d := (0 : Int)) (a := a.toNat) (b := b.toNat) (l := l) (by omega) (by omega) h5
    show (insFrom (ltOf g) 0 a.toNat (b - (a + 1)).toNat (a + 1).toNat l, ()) = (partB (ltOf g) a.toNat b.toNat l, ())
    rw [← this, show (b - (a + 1)).toNat = b.toNat - (a.toNat + 1) by omega, show (a + 1).toNat = a.toNat + 1 by omega]

/-! Blocks that change places -/
abbrev pt_swp : Pt := ⟨38, 0, ⟨[(1, .d i64), (2, .d i64), (3, .d i64), (10, .d i64)], [.al 10000 0, .o 0 3 i64]⟩, ⟨[], [.al 10000 0, .o 0 3 i64]⟩, ⟨[], []⟩⟩

def fr_swp (x : pt_swp.M.X) : Fr pt_swp.Out :=
  let a := x.1.1; let b := x.1.2.1; let n := x.1.2.2.1; let i := x.1.2.2.2.1; let l := x.2.1
  Fr.br (decide (i < n))
    (Fr.need (0 ≤ IntKind.i64.wrap (b + i) ∧ IntKind.i64.wrap (b + i) < l.length)
      (Fr.need ((IntKind.i64.wrap (b + i)).toNat < l.length)
        (Fr.need (0 ≤ IntKind.i64.wrap (a + i) ∧ IntKind.i64.wrap (a + i) < l.length)
          (Fr.need ((IntKind.i64.wrap (a + i)).toNat < l.length)
            (Fr.need (0 ≤ IntKind.i64.wrap (a + i) ∧ IntKind.i64.wrap (a + i) < l.length)
              (Fr.need ((IntKind.i64.wrap (a + i)).toNat < l.length)
                (Fr.need (0 ≤ IntKind.i64.wrap (b + i) ∧ IntKind.i64.wrap (b + i) < (l.set (IntKind.i64.wrap (a + i)).toNat (l.getD (IntKind.i64.wrap (b + i)).toNat i64.dflt)).length)
                  (Fr.need ((IntKind.i64.wrap (b + i)).toNat < (l.set (IntKind.i64.wrap (a + i)).toNat (l.getD (IntKind.i64.wrap (b + i)).toNat i64.dflt)).length)
                    (Fr.val (Rd.next ((a, b, n, IntKind.i64.wrap (i + 1), ()),
                      ((l.set (IntKind.i64.wrap (a + i)).toNat (l.getD (IntKind.i64.wrap (b + i)).toNat i64.dflt)).set (IntKind.i64.wrap (b + i)).toNat (l.getD (IntKind.i64.wrap (a + i)).toNat i64.dflt), ()))))))))))))
    (Fr.val (Rd.out ((), (l, ()))))

theorem sem_swp : Does Try.prog (loopF Try.f170 0) pt_swp.M pt_swp fr_swp :=
  Does.of_run CI0_ok (bs := 0) (Λ := lam0) rfl rfl rfl (fun E => lam0_ok _ 0) (fun x => by kernel_rfl)

structure InvSwp (a b n i : Int) (l : List Int) : Prop where
  a0 : 0 ≤ a
  b0 : 0 ≤ b
  i0 : 0 ≤ i
  al : a + n ≤ l.length
  bl : b + n ≤ l.length
  big : (l.length : Int) ≤ 9223372036854775807

def FSwp (x : pt_swp.M.X) : Fr pt_swp.Out :=
  Fr.need (InvSwp x.1.1 x.1.2.1 x.1.2.2.1 x.1.2.2.2.1 x.2.1) (Fr.val (Rd.out ((), (swapR 0 (x.1.2.2.1 - x.1.2.2.2.1).toNat (x.1.1 + x.1.2.2.2.1).toNat (x.1.2.1 + x.1.2.2.2.1).toNat x.2.1, ()))))

theorem lawSwp (a b n i : Int) (l : List Int) (hinv : InvSwp a b n i l) (Q : pt_swp.Out → Prop)
    (hq : Q (Rd.out ((), (swapR 0 (n - i).toNat (a + i).toNat (b + i).toNat l, ())))) : (fr_swp ((a, b, n, i, ()), (l, ()))).satP fun
      | .next x' => InvSwp x'.1.1 x'.1.2.1 x'.1.2.2.1 x'.1.2.2.2.1 x'.2.1 ∧ (x'.1.2.2.1 - x'.1.2.2.2.1).toNat < (n - i).toNat ∧ (FSwp x').satP Q
      | .out y => Q (.out y)
      | .back z => Q (.back z)
      | .pan p => Q (.pan p) := by
  obtain ⟨h0, h1, h2, h3, h4, h5⟩ := hinv
  dsimp only [fr_swp, Fr.satP, Ty.den, PT.den]
  refine ⟨fun hi => ?_, fun hi => ?_⟩
  · have hlt : i < n := of_decide_eq_true hi
    have w1 : IntKind.i64.wrap (b + i) = b + i := IntWalk.i64_in _ (by omega)
    have w2 : IntKind.i64.wrap (a + i) = a + i := IntWalk.i64_in _ (by omega)
    have w3 : IntKind.i64.wrap (i + 1) = i + 1 := IntWalk.i64_in _ (by omega)
    rw [w1, w2, w3]
    simp only [List.length_set]
    refine ⟨⟨by omega, by omega⟩, by omega, ⟨by omega, by omega⟩, by omega, ⟨by omega, by omega⟩, by omega, ⟨by omega, by omega⟩, by omega, ?_⟩
    have hI : InvSwp a b n (i + 1) (swapL l 0 (a + i).toNat (b + i).toNat) := ⟨h0, h1, by omega, by rw [swapL_length]; omega, by rw [swapL_length]; omega, by rw [swapL_length]; omega⟩
    refine ⟨hI, by omega, hI, ?_⟩
    rw [show (n - i).toNat = (n - (i + 1)).toNat + 1 by omega] at hq
    simp only [swapR] at hq
    dsimp only
    rw [show (a + (i + 1)).toNat = (a + i).toNat + 1 by omega, show (b + (i + 1)).toNat = (b + i).toNat + 1 by omega]
    exact hq
  · have hge : ¬ i < n := of_decide_eq_false hi
    rw [show (n - i).toNat = 0 by omega] at hq
    exact hq

theorem loopSwp : Does Try.prog (.loop (loopF Try.f170 0)) pt_swp.M pt_swp FSwp := by
  refine Does.loop (n := 38) (id := 0) sem_swp (inv := fun x => InvSwp x.1.1 x.1.2.1 x.1.2.2.1 x.1.2.2.2.1 x.2.1) (μ := fun x => (x.1.2.2.1 - x.1.2.2.2.1).toNat) ?_ (fun x Q h => h.1)
  rintro ⟨⟨a, b, n, i, _⟩, ⟨l, _⟩⟩ hinv Q hq
  exact lawSwp a b n i l hinv Q hq.2

noncomputable def ΛSwp : Nat → St → Option Tr := fun _ => pt_swp.han CI0.Γ pt_swp.M FSwp

noncomputable def mSwap : Mt := ⟨3, i64, [.d i64, .d i64, .d i64, cmpT], [], fun l x => (swapR 0 x.2.2.1.toNat x.1.toNat x.2.1.toNat l, ()), fun l x => [0 ≤ x.1, 0 ≤ x.2.1, x.1 + x.2.2.1 ≤ l.length, x.2.1 + x.2.2.1 ≤ l.length]⟩

def fr_swap (l : List Int) (x : denP [.d i64, .d i64, .d i64, cmpT]) : Fr (List Int × denL []) :=
  Fr.need (InvSwp x.1 x.2.1 x.2.2.1 0 l) (Fr.val (swapR 0 (x.2.2.1 - 0).toNat (x.1 + 0).toNat (x.2.1 + 0).toNat l, ()))

theorem swap_ok : SoundMt Try.prog 170 mSwap :=
  convMt (mt_sound CI0_ok (Λ := ΛSwp) (fn := Try.f170) (fr := fr_swap) (e := 3) (T := i64) (ps := [.d i64, .d i64, .d i64, cmpT]) (rs := []) (0, 0, 0, (fun _ => (0, ()), fun _ => True), ()) (by kernel_rfl) rfl rfl
    (fun c E hc => lam1f hc (by kernel_rfl) (b := loopF Try.f170 0) (by kernel_rfl) (Does.han CI0_ok rfl loopSwp)) (fun l x => by kernel_rfl)) _ _ fun w F l xs vs _ hlen _ hok => by
    obtain ⟨a, b, n, g, rfl⟩ : ∃ (a b n : Int) (g : cmpT.den), xs = (a, b, n, g, ()) := ⟨xs.1, xs.2.1, xs.2.2.1, xs.2.2.2.1, rfl⟩
    have hok' : (0 : Int) ≤ a ∧ (0 : Int) ≤ b ∧ (a : Int) + n ≤ (List.length (α := Int) l : Int) ∧ (b : Int) + n ≤ (List.length (α := Int) l : Int) := hok
    obtain ⟨h1, h2, h3, h4⟩ := hok'
    have hlen : List.length (α := Int) l ≤ maxLen := hlen
    simp only [maxLen] at hlen
    refine ⟨⟨⟨h1, h2, Int.le_refl _, h3, h4, by omega⟩, trivial⟩, ?_⟩
    show (swapR 0 (n - 0).toNat (a + 0).toNat (b + 0).toNat l, ()) = (swapR 0 n.toNat a.toNat b.toNat l, ())
    rw [Int.sub_zero, Int.add_zero, Int.add_zero]

end Go.Proofs.Ytbplccbjgfappaa

/-
  slices.rotateCmpFunc over numbers.
-/
namespace Go.Proofs.Ytbplccbjgfappaa
open Go Go.Ab Go.RowKit Go.Proofs

theorem bsG_enough {Q : Nat → Bool} : (f f' i j : Nat) → j - i ≤ f → j - i ≤ f' → bsG Q f i j = bsG Q f' i j
  | 0, 0, _, _, _, _ => rfl
  | 0, f' + 1, i, j, h, _ => by simp only [bsG]; rw [if_neg (by omega)]
  | f + 1, 0, i, j, _, h => by simp only [bsG]; rw [if_neg (by omega)]
  | f + 1, f' + 1, i, j, h, h' => by
    simp only [bsG]
    split
    · cases Q ((i + j) / 2) with
      | true => exact bsG_enough f f' _ _ (by omega) (by omega)
      | false => exact bsG_enough f f' _ _ (by omega) (by omega)
    · rfl

theorem bsG_step {Q : Nat → Bool} {i j : Nat} (h : i < j) : bsG Q (j - i) i j = bif Q ((i + j) / 2) then bsG Q (j - ((i + j) / 2 + 1)) ((i + j) / 2 + 1) j else bsG Q ((i + j) / 2 - i) i ((i + j) / 2) := by
  obtain ⟨f, hf⟩ : ∃ f, j - i = f + 1 := ⟨j - i - 1, by omega⟩
  rw [hf]
  simp only [bsG]
  rw [if_pos h]
  cases Q ((i + j) / 2) with
  | true => exact bsG_enough _ _ _ _ (by omega) (by omega)
  | false => exact bsG_enough _ _ _ _ (by omega) (by omega)

theorem rotG_enough {α : Type} {d : α} {m : Nat} : (f f' i j : Nat) → (l : List α) → 0 < i → 0 < j → i + j ≤ f → i + j ≤ f' → rotG d m f i j l = rotG d m f' i j l
  | 0, _, i, j, _, _, _, _, _ => by omega
  | f + 1, 0, i, j, _, _, _, _, _ => by omega
  | f + 1, f' + 1, i, j, l, h1, h2, h3, h4 => by
    simp only [rotG]
    split
    · rfl
    · split
      · exact rotG_enough f f' _ _ _ (by omega) (by omega) (by omega) (by omega)
      · exact rotG_enough f f' _ _ _ (by omega) (by omega) (by omega) (by omega)
noncomputable def CI1 : Cx := cxK [] [] (mtK (cx [] []).Γ 170 mSwap)
theorem CI1_ok : CxOK Try.prog CI1 := cxK_ok mixed trivial trivial (mtK_ok CI0_ok.ct swap_ok)

abbrev pt_rot : Pt := ⟨58, 0, ⟨[(2, .d i64), (4, cmpT), (10, .d i64), (11, .d i64)], [.al 10000 0, .o 0 3 i64]⟩, ⟨[(2, .d i64), (4, cmpT), (10, .d i64)], [.al 10000 0, .o 0 3 i64]⟩, ⟨[], []⟩⟩

noncomputable def fr_rot (x : pt_rot.M.X) : Fr pt_rot.Out :=
  let m := x.1.1; let g := x.1.2.1; let i := x.1.2.2.1; let j := x.1.2.2.2.1; let l := x.2.1
  Fr.br (i != j)
    (Fr.br (decide (i > j))
      (Fr.need (0 ≤ IntKind.i64.wrap (m - i))
        (Fr.need (0 ≤ m)
          (Fr.need (IntKind.i64.wrap (m - i) + j ≤ (l.length : Int))
            (Fr.need (m + j ≤ (l.length : Int))
              (Fr.val (Rd.next ((m, (g.1, g.2), IntKind.i64.wrap (i - j), j, ()), ((mSwap.f l (IntKind.i64.wrap (m - i), m, j, (g.1, g.2), ())).1, ()))))))))
      (Fr.need (0 ≤ IntKind.i64.wrap (m - i))
        (Fr.need (0 ≤ IntKind.i64.wrap (IntKind.i64.wrap (m + j) - i))
          (Fr.need (IntKind.i64.wrap (m - i) + i ≤ (l.length : Int))
            (Fr.need (IntKind.i64.wrap (IntKind.i64.wrap (m + j) - i) + i ≤ (l.length : Int))
              (Fr.val (Rd.next ((m, (g.1, g.2), i, IntKind.i64.wrap (j - i), ()), ((mSwap.f l (IntKind.i64.wrap (m - i), IntKind.i64.wrap (IntKind.i64.wrap (m + j) - i), i, (g.1, g.2), ())).1, ())))))))))
    (Fr.val (Rd.out ((m, (g.1, g.2), i, ()), (l, ()))))

theorem sem_rot : Does Try.prog (loopF Try.f167 0) pt_rot.M pt_rot fr_rot :=
  Does.of_run CI1_ok (bs := 0) (Λ := lam0) rfl rfl rfl (fun E => lam0_ok _ 0) (fun x => by kernel_rfl)

theorem swapR_length : (n a b : Nat) → (l : List Int) → (swapR 0 n a b l).length = l.length
  | 0, _, _, _ => rfl
  | n + 1, a, b, l => by simp only [swapR]; rw [swapR_length n, swapL_length]

structure InvRot (m i j : Int) (l : List Int) : Prop where
  i0 : 0 < i
  j0 : 0 < j
  im : i ≤ m
  ml : m + j ≤ l.length
  big : (l.length : Int) ≤ 4611686018427387903

def FRot (x : pt_rot.M.X) : Fr pt_rot.Out :=
  Fr.need (InvRot x.1.1 x.1.2.2.1 x.1.2.2.2.1 x.2.1) (Fr.val (Rd.out ((x.1.1, x.1.2.1, ((rotG 0 x.1.1.toNat (x.1.2.2.1.toNat + x.1.2.2.2.1.toNat) x.1.2.2.1.toNat x.1.2.2.2.1.toNat x.2.1).1 : Nat), ()),
    ((rotG 0 x.1.1.toNat (x.1.2.2.1.toNat + x.1.2.2.2.1.toNat) x.1.2.2.1.toNat x.1.2.2.2.1.toNat x.2.1).2, ()))))

theorem lawRot (m i j : Int) (g : cmpT.den) (l : List Int) (hinv : InvRot m i j l) (Q : pt_rot.Out → Prop)
    (hq : Q (Rd.out ((m, g, ((rotG 0 m.toNat (i.toNat + j.toNat) i.toNat j.toNat l).1 : Nat), ()), ((rotG 0 m.toNat (i.toNat + j.toNat) i.toNat j.toNat l).2, ())))) : (fr_rot ((m, g, i, j, ()), (l, ()))).satP fun
      | .next x' => InvRot x'.1.1 x'.1.2.2.1 x'.1.2.2.2.1 x'.2.1 ∧ x'.1.2.2.1.toNat + x'.1.2.2.2.1.toNat < i.toNat + j.toNat ∧ (FRot x').satP Q
      | .out y => Q (.out y)
      | .back z => Q (.back z)
      | .pan p => Q (.pan p) := by
  obtain ⟨h0, h1, h2, h3, h4⟩ := hinv
  obtain ⟨f, hf⟩ : ∃ f, i.toNat + j.toNat = f + 1 := ⟨i.toNat + j.toNat - 1, by omega⟩
  have w1 : IntKind.i64.wrap (m - i) = m - i := IntWalk.i64_in _ (by omega)
  have w2 : IntKind.i64.wrap (i - j) = i - j := IntWalk.i64_in _ (by omega)
  have w3 : IntKind.i64.wrap (m + j) = m + j := IntWalk.i64_in _ (by omega)
  have w4 : IntKind.i64.wrap (m + j - i) = m + j - i := IntWalk.i64_in _ (by omega)
  have w5 : IntKind.i64.wrap (j - i) = j - i := IntWalk.i64_in _ (by omega)
  dsimp only [fr_rot, Fr.satP, Ty.den, PT.den, mSwap]
  rw [w1, w2, w3, w4, w5]
  rw [hf] at hq
  simp only [rotG] at hq
  refine ⟨fun hc => ⟨fun hd => ?_, fun hd => ?_⟩, fun hc => ?_⟩
  · have hgt : i > j := of_decide_eq_true hd
    rw [if_neg (by omega), if_pos (by omega)] at hq
    have hI : InvRot m (i - j) j (swapR 0 j.toNat (m - i).toNat m.toNat l) := ⟨by omega, h1, by omega, by rw [swapR_length]; omega, by rw [swapR_length]; omega⟩
    refine ⟨by omega, by omega, by omega, by omega, hI, by omega, hI, ?_⟩
    dsimp only [Ty.den, PT.den]
    rw [rotG_enough _ f (i - j).toNat j.toNat _ (by omega) (by omega) (Nat.le_refl _) (by omega), show (i - j).toNat = i.toNat - j.toNat by omega, show (m - i).toNat = m.toNat - i.toNat by omega]
    exact hq
  · have hle : ¬ i > j := of_decide_eq_false hd
    have hne : i ≠ j := by simpa using hc
    rw [if_neg (by omega), if_neg (by omega)] at hq
    have hI : InvRot m i (j - i) (swapR 0 i.toNat (m - i).toNat (m + j - i).toNat l) := ⟨h0, by omega, h2, by rw [swapR_length]; omega, by rw [swapR_length]; omega⟩
    refine ⟨by omega, by omega, by omega, by omega, hI, by omega, hI, ?_⟩
    dsimp only [Ty.den, PT.den]
    rw [rotG_enough _ f i.toNat (j - i).toNat _ (by omega) (by omega) (Nat.le_refl _) (by omega), show (j - i).toNat = j.toNat - i.toNat by omega, show (m - i).toNat = m.toNat - i.toNat by omega, show (m + j - i).toNat = m.toNat + j.toNat - i.toNat by omega]
    exact hq
  · have heq : i = j := by simpa using hc
    rw [if_pos (by omega)] at hq
    have : ((i.toNat : Nat) : Int) = i := by omega
    rw [this] at hq
    exact hq

theorem loopRot : Does Try.prog (.loop (loopF Try.f167 0)) pt_rot.M pt_rot FRot := by
  refine Does.loop (n := 58) (id := 0) sem_rot (inv := fun x => InvRot x.1.1 x.1.2.2.1 x.1.2.2.2.1 x.2.1) (μ := fun x => x.1.2.2.1.toNat + x.1.2.2.2.1.toNat) ?_ (fun x Q h => h.1)
  rintro ⟨⟨m, g, i, j, _⟩, ⟨l, _⟩⟩ hinv Q hq
  exact lawRot m i j g l hinv Q hq.2

noncomputable def ΛRot : Nat → St → Option Tr := fun _ => pt_rot.han CI1.Γ pt_rot.M FRot

theorem rotG_facts {m : Nat} : (f i j : Nat) → (l : List Int) → 0 < i → 0 < j → i + j ≤ f → 0 < (rotG 0 m f i j l).1 ∧ (rotG 0 m f i j l).1 ≤ i ∧ (rotG 0 m f i j l).1 ≤ j ∧ (rotG 0 m f i j l).2.length = l.length
  | 0, i, j, l, _, _, _ => by omega
  | f + 1, i, j, l, h1, h2, h3 => by
    simp only [rotG]
    split
    · exact ⟨h1, Nat.le_refl _, by omega, rfl⟩
    · split
      · have := rotG_facts (m := m) f (i - j) j (swapR 0 j (m - i) m l) (by omega) h2 (by omega)
        rw [swapR_length] at this
        omega
      · have := rotG_facts (m := m) f i (j - i) (swapR 0 i (m - i) (m + j - i) l) h1 (by omega) (by omega)
        rw [swapR_length] at this
        omega

noncomputable def mRot : Mt := ⟨3, i64, [.d i64, .d i64, .d i64, cmpT], [], fun l x => (rotF 0 x.1.toNat x.2.1.toNat x.2.2.1.toNat l, ()), fun l x => [0 ≤ x.1, x.1 < x.2.1, x.2.1 < x.2.2.1, x.2.2.1 ≤ l.length, (l.length : Int) ≤ 4611686018427387903]⟩

def roI (m i j : Int) (l : List Int) : Int := ((rotG 0 m.toNat (i.toNat + j.toNat) i.toNat j.toNat l).1 : Nat)
def roL (m i j : Int) (l : List Int) : List Int := (rotG 0 m.toNat (i.toNat + j.toNat) i.toNat j.toNat l).2

noncomputable def fr_rotate (l : List Int) (x : denP [.d i64, .d i64, .d i64, cmpT]) : Fr (List Int × denL []) :=
  let a := x.1; let m := x.2.1; let b := x.2.2.1; let g := x.2.2.2.1
  let i := roI m (IntKind.i64.wrap (m - a)) (IntKind.i64.wrap (b - m)) l
  let r := roL m (IntKind.i64.wrap (m - a)) (IntKind.i64.wrap (b - m)) l
  Fr.need (InvRot m (IntKind.i64.wrap (m - a)) (IntKind.i64.wrap (b - m)) l)
  (Fr.need (0 ≤ IntKind.i64.wrap (m - i))
    (Fr.need (0 ≤ m)
      (Fr.need (IntKind.i64.wrap (m - i) + i ≤ (r.length : Int))
        (Fr.need (m + i ≤ (r.length : Int))
          (Fr.val ((mSwap.f r (IntKind.i64.wrap (m - i), m, i, (g.1, g.2), ())).1, ()))))))

theorem rotate_ok : SoundMt Try.prog 167 mRot :=
  convMt (mt_sound CI1_ok (Λ := ΛRot) (fn := Try.f167) (fr := fr_rotate) (e := 3) (T := i64) (ps := [.d i64, .d i64, .d i64, cmpT]) (rs := []) (0, 0, 0, (fun _ => (0, ()), fun _ => True), ()) (by kernel_rfl) rfl rfl
    (fun c E hc => lam1f hc (by kernel_rfl) (b := loopF Try.f167 0) (by kernel_rfl) (Does.han CI1_ok rfl loopRot)) (fun l x => by kernel_rfl)) _ _ fun w F l xs vs _ _ _ hok => by
    obtain ⟨a, m, b, g, rfl⟩ : ∃ (a m b : Int) (g : cmpT.den), xs = (a, m, b, g, ()) := ⟨xs.1, xs.2.1, xs.2.2.1, xs.2.2.2.1, rfl⟩
    have hok' : (0 : Int) ≤ a ∧ (a : Int) < m ∧ (m : Int) < b ∧ (b : Int) ≤ (List.length (α := Int) l : Int) ∧ (List.length (α := Int) l : Int) ≤ 4611686018427387903 := hok
    obtain ⟨h1, h2, h3, h4, h5⟩ := hok'
    have w1 : IntKind.i64.wrap (m - a) = m - a := IntWalk.i64_in _ (by omega)
    have w2 : IntKind.i64.wrap (b - m) = b - m := IntWalk.i64_in _ (by omega)
    have hf := rotG_facts (m := m.toNat) ((m - a).toNat + (b - m).toNat) (m - a).toNat (b - m).toNat l (by omega) (by omega) (Nat.le_refl _)
    dsimp only [fr_rotate, Fr.ok, Fr.get, Ty.den, PT.den, mSwap, roI, roL]
    rw [w1, w2]
    have e1 : rotF 0 a.toNat m.toNat b.toNat l = swapR 0 (rotG 0 m.toNat ((m - a).toNat + (b - m).toNat) (m - a).toNat (b - m).toNat l).1 (m.toNat - (rotG 0 m.toNat ((m - a).toNat + (b - m).toNat) (m - a).toNat (b - m).toNat l).1) m.toNat (rotG 0 m.toNat ((m - a).toNat + (b - m).toNat) (m - a).toNat (b - m).toNat l).2 := by
      unfold rotF
      rw [show b.toNat - a.toNat = (m - a).toNat + (b - m).toNat by omega, show m.toNat - a.toNat = (m - a).toNat by omega, show b.toNat - m.toNat = (b - m).toNat by omega]
    generalize rotG 0 m.toNat ((m - a).toNat + (b - m).toNat) (m - a).toNat (b - m).toNat l = r at hf e1 ⊢
    have w3 : IntKind.i64.wrap (m - (r.1 : Int)) = m - r.1 := IntWalk.i64_in _ (by omega)
    rw [w3]
    refine ⟨⟨⟨by omega, by omega, by omega, by omega, h5⟩, by omega, by omega, by omega, by omega, trivial⟩, ?_⟩
    show (swapR 0 (r.1 : Int).toNat (m - r.1).toNat m.toNat r.2, ()) = (rotF 0 a.toNat m.toNat b.toNat l, ())
    rw [e1, show (r.1 : Int).toNat = r.1 by omega, show (m - (r.1 : Int)).toNat = m.toNat - r.1 by omega]

end Go.Proofs.Ytbplccbjgfappaa
