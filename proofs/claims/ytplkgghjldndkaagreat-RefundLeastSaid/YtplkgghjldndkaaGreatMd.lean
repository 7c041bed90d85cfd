/-
  Parts of the proof, one behind the other: AbD, B1, B2, B3, B4, B5, D1, D2, D3, D4, D5, C1, C4, C5, C2, C3, D6, D7, D8.
-/
import Derived.Test.YtplkgghjldndkaaGreatMc
import Derived.Laws.Sem
import Derived.Recover
import Derived.Carry
import Derived.ChangeSame
import Derived.ProofKit
import Derived.OpenShut
import Derived.ChangeCalls
import Derived.Test.YtplkgghjldndkaaGreatProg
import Derived.WalkKit
import Derived.IntWalk
import Derived.RangeFuncNested
import Derived.RangeFuncBound
import Derived.RangeFuncCalls
import Derived.RangeFuncLeaves
import Derived.Shelf.Abstract
import Derived.Shelf.RegionOpen
import Derived.OwnWalkIn
import Derived.TacticsInMore
import Derived.LoopNIn
import Derived.LoopIn
import Derived.Lib.Hide
import Derived.Tactics2
import Derived.Laws.Pointers
namespace Go.Ab
open Go Go.RowKit
inductive Fr (α : Type) where
 | val (x : α)
 | br (b : Bool) (x y : Fr α)
 | need (p : Prop) (x : Fr α)
def Fr.needL {α : Type} (ns : List Prop) (x : Fr α) : Fr α := ns.foldr (fun p t => .need p t) x
def Fr.get {α : Type} : Fr α -> α
 | .val x => x
 | .br b x y => if b = true then x.get else y.get
 | .need _ x => x.get
def Fr.ok {α : Type} : Fr α -> Prop
 | .val _ => True
 | .br b x y => (b = true -> x.ok) /\ (b = false -> y.ok)
 | .need p x => p /\ x.ok
def endA (P : Program) (rv : List ResultVar) (rs : List Ty) (s : St) : Option (Fr (denL rs)) :=
 match resAs P s rv with
 | some (vs, n) => match rsAs s.mem vs with
  | some (xs, _) => match decVs rs xs with
   | some y => some (Fr.needL n (.val y))
   | none => none
  | none => none
 | none => none
def frOf (P : Program) (rv : List ResultVar) (rs : List Ty) : Tr -> Option (Fr (denL rs))
 | .leaf .ret s => endA P rv rs s
 | .leaf .normal s => endA P rv rs s
 | .leaf _ _ => none
 | .br b x y => match frOf P rv rs x, frOf P rv rs y with
  | some x', some y' => some (.br b x' y')
  | _, _ => none
 | .need p x => match frOf P rv rs x with
  | some x' => some (.need p x')
  | none => none
 | .two p x y => match frOf P rv rs x, frOf P rv rs y with
  | some x', some y' => some (.need (p -> x'.ok /\ x'.get = y'.get) y')
  | _, _ => none
def encPs : (ps : List PT) -> denP ps -> List AV
 | [], _ => []
 | p :: r, x => encP p x.1 :: encPs r x.2
def runF (P : Program) (C : Cx) (Λ : Nat -> St -> Option Tr) (c : Code) (n : Nat) (rv : List ResultVar) (ps : List PT) (rs : List Ty) (xs : denP ps) : Option (Fr (denL rs)) :=
 match codeA P C 0 Λ c 0 (startA n (encPs ps xs)) with
 | some t => frOf P rv rs t
 | none => none
section
variable {P : Program} {B : Nat} {w w' : World} {E : Env} {F F' : Nat -> Prop} {bs : Nat} {γ γ' γ0 : Nat -> Value} {Γ : FuncId -> Option Ct} {M m : Mem} {R : Nat -> Value -> Prop}
def resOne (tmps : Array Value) : ResultVar -> Sem Value
 | .tmp t => pure (tmps.getD t undef)
 | .cell a t => do loadVar t (← asAddr (tmps.getD a undef))
def ranAll (P : Program) (tmps : Array Value) (w : World) : List ResultVar -> List Value -> Prop
 | [], [] => True
 | r :: rs, v :: vs => (resOne tmps r).run P w = .ok v w /\ ranAll P tmps w rs vs
 | _, _ => False
theorem mapM_ran {tmps : Array Value} : (l : List ResultVar) -> (us : List Value) -> ranAll P tmps w l us -> (l.mapM (m := Sem) (resOne tmps)).run P w = .ok us w
 | [], [], _ => by simp
 | r :: rs, v :: vs, h => by
  rw [List.mapM_cons]
  simp only [Sem.run_bind, h.1, Result.andThen, mapM_ran rs vs h.2, Sem.run_pure]
def resVal : List Value -> Value
 | [v] => v
 | vs => .tuple vs.toArray
theorem results_run {fn : Func} {tmps : Array Value} {vs : List Value} (h : ranAll P tmps w fn.results.toList vs) : (results fn tmps).run P w = .ok (resVal vs) w := by
 have he : results fn tmps = (do
   let vs ← fn.results.mapM (resOne tmps)
   pure (if h : vs.size = 1 then vs[0] else .tuple vs)) := by
  unfold results
  congr 1
 rw [he, Array.mapM_eq_mapM_toList]
 simp only [Sem.run_bind, map_eq_pure_bind, Sem.run_pure, mapM_ran _ _ h, Result.andThen]
 cases vs with
 | nil => simp [resVal]
 | cons v vs =>
  cases vs with
  | nil => simp [resVal]
  | cons v' vs => simp [resVal]
theorem repR_of : {ts : List Ty} -> {x : denL ts} -> {vs : List Value} -> RepVs w F ts x vs -> RepR w F ts x (resVal vs)
 | [], _, _, h => by
  cases h
  exact ⟨#[], rfl, rfl⟩
 | [t], x, vs, h => by
  obtain ⟨v, vs', rfl, h2, h3⟩ := h
  cases h3
  exact h2
 | t :: t' :: r, x, vs, h => by
  obtain ⟨v, vs', rfl, h2, h3⟩ := id h
  obtain ⟨v', vs'', rfl, _, _⟩ := id h3
  exact ⟨_, rfl, by simpa using h⟩
theorem encPs_rep : {ps : List PT} -> {xs : denP ps} -> {vs : List Value} -> RepPs P w F ps xs vs -> Reps P w F R (encPs ps xs) vs
 | [], _, _, h => by cases h; trivial
 | _ :: _, _, _, ⟨v, vs', h1, h2, h3⟩ => by subst h1; exact ⟨encP_rep h2, encPs_rep h3⟩
theorem reps_get : {xs : List AV} -> {vs : List Value} -> Reps P w F R xs vs -> ∀ i : Nat, RepA P w F R (xs.getD i .dead) (vs.getD i undef)
 | [], [], _, i => trivial
 | x :: xs, v :: vs, h, 0 => h.1
 | x :: xs, v :: vs, h, i + 1 => by
  have := reps_get h.2 i
  simpa using this
theorem start_inv {D : List Deferred} {n : Nat} {xs : List AV} {vs : List Value} (hb : ∀ b, F b -> b < w.heap.size) (h : ∀ R, Reps P w F R xs vs) (hn : vs.length <= n) : I P ⟨w, F, fun _ => undef, D, w.heap.size, Nat.le_refl _⟩ (startA n xs) { tmps := vs.toArray ++ Array.replicate (n - vs.length) undef, defers := D } w := by
 refine ⟨F, fun _ => undef, ?_, rfl, ⟨fun _ => undef, Step.refl hb⟩, ⟨fun id o ho => (nomatch ho), fun i j oi oj b _ ho => (nomatch ho)⟩, fun t => ?_, fun t g want v ht => ?_, fun _ => trivial⟩
 ·show _ = n
  simp
  omega
 ·have hg : (vs.toArray ++ Array.replicate (n - vs.length) undef).getD t undef = vs.getD t undef := by
   simp only [Array.getD_eq_getD_getElem?, List.getD_eq_getElem?_getD]
   rcases Nat.lt_or_ge t vs.length with hlt | hge
   ·rw [Array.getElem?_append_left (by simpa using hlt)]
    simp
   ·rw [Array.getElem?_append_right (by simpa using hge), List.getElem?_eq_none hge]
    simp only [Array.getElem?_replicate]
    split <;> rfl
  show SlotOK P w F _ _ (xs.getD t .dead) ((vs.toArray ++ Array.replicate (n - vs.length) undef).getD t undef)
  rw [hg]
  exact repA_slot (reps_get (h _) t)
 ·exfalso
  have := reps_get (h fun _ _ => True) t
  have ht' : xs.getD t .dead = .maybe g want v := ht
  rw [ht'] at this
  exact this
theorem needL_ok {α : Type} {x : Fr α} : (ns : List Prop) -> (Fr.needL ns x).ok -> conj ns /\ x.ok
 | [], h => ⟨trivial, h⟩
 | p :: ns, h => by
  have h' : p /\ (Fr.needL ns x).ok := h
  obtain ⟨h1, h2⟩ := needL_ok ns h'.2
  exact ⟨conj_cons.2 ⟨h'.1, h1⟩, h2⟩
theorem needL_get {α : Type} {x : Fr α} : (ns : List Prop) -> (Fr.needL ns x).get = x.get
 | [] => rfl
 | _ :: ns => needL_get ns
theorem fr_sat {rv : List ResultVar} {rs : List Ty} : {t : Tr} -> {f : Fr (denL rs)} -> frOf P rv rs t = some f -> f.ok -> t.sat fun e s => (e = .ret ∨ e = .normal) /\ ∃ n, endA P rv rs s = some (Fr.needL n (.val f.get)) /\ conj n
 | .leaf e s, f, h, hok => by
  have key : endA P rv rs s = some f -> ∃ n, endA P rv rs s = some (Fr.needL n (.val f.get)) /\ conj n := fun h => by
   have h0 := h
   unfold endA at h
   split at h <;> try (cases h; done)
   split at h <;> try (cases h; done)
   split at h <;> try (cases h; done)
   rename_i y _
   simp only [Option.some.injEq] at h
   subst h
   refine ⟨_, ?_, (needL_ok _ hok).1⟩
   rw [needL_get]
   exact h0
  cases e with
  | exit i => simp [frOf] at h
  | panic i => simp [frOf] at h
  | val i => simp [frOf] at h
  | jump i => simp [frOf] at h
  | normal => exact ⟨.inr rfl, key h⟩
  | ret => exact ⟨.inl rfl, key h⟩
 | .br b x y, f, h, hok => by
  simp only [frOf] at h
  split at h <;> try (cases h; done)
  rename_i x' y' hx hy
  simp only [Option.some.injEq] at h
  subst h
  refine ⟨fun hb => ?_, fun hb => ?_⟩
  ·have := fr_sat hx (hok.1 hb)
   simpa only [Fr.get, hb, if_true] using this
  ·have := fr_sat hy (hok.2 hb)
   simpa only [Fr.get, hb, Bool.false_eq_true, if_false] using this
 | .need p x, f, h, hok => by
  simp only [frOf] at h
  split at h <;> try (cases h; done)
  rename_i x' hx
  simp only [Option.some.injEq] at h
  subst h
  have := fr_sat hx hok.2
  exact ⟨hok.1, this⟩
 | .two p x y, f, h, hok => by
  simp only [frOf] at h
  split at h <;> try (cases h; done)
  rename_i x' y' hx hy
  simp only [Option.some.injEq] at h
  subst h
  have h2 := fr_sat hy hok.2
  refine ⟨fun hp => ?_, h2⟩
  have := fr_sat hx (hok.1 hp).1
  rwa [(hok.1 hp).2] at this
theorem res_run {s : St} {a : Act} (hi : InvG P E s a w [] F γ) : {rv : List ResultVar} -> {vs : List AV} -> {n : List Prop} -> resAs P s rv = some (vs, n) -> conj n -> ∃ us, ranAll P a.tmps w rv us /\ Reps P w F (refOK s.mem γ) vs us
 | [], vs, n, h, hn => by
  simp only [resAs, Option.some.injEq, Prod.mk.injEq] at h
  obtain ⟨rfl, rfl⟩ := h
  exact ⟨[], trivial, trivial⟩
 | r :: rv, vs, n, h, hn => by
  simp only [resAs] at h
  split at h <;> try (cases h; done)
  rename_i v n1 vs' n2 h1 h2
  simp only [Option.some.injEq, Prod.mk.injEq] at h
  obtain ⟨rfl, rfl⟩ := h
  obtain ⟨us, h3, h4⟩ := res_run hi h2 (conj_append.1 hn).2
  have hn1 := (conj_append.1 hn).1
  cases r with
  | tmp t =>
   simp only [resA, Option.some.injEq, Prod.mk.injEq] at h1
   obtain ⟨rfl, _⟩ := h1
   exact ⟨a.tmps.getD t undef :: us, ⟨by simp [resOne], h3⟩, inv_rep hi t, h4⟩
  | cell ad t =>
   simp only [resA] at h1
   split at h1 <;> try (cases h1; done)
   rename_i id off hs
   split at h1 <;> try (cases h1; done)
   rename_i e he
   simp only [Option.some.injEq, Prod.mk.injEq] at h1
   obtain ⟨rfl, rfl⟩ := h1
   have hr := inv_rep hi ad
   rw [hs] at hr
   obtain ⟨_, u, hu, hru⟩ := load_sound hi.mem (fun _ _ h => h) he hn1 hr
   obtain ⟨_, b, _, hv⟩ := hr
   refine ⟨u :: us, ⟨?_, h3⟩, hru, h4⟩
   have hv' : a.tmps.getD ad undef = .pointer (some ⟨b, off, none⟩) := hv
   rw [hv'] at hu
   show (do loadVar t (← asAddr (a.tmps.getD ad undef)) : Sem Value).run P w = _
   rw [hv']
   exact hu
theorem needL_inj {α : Type} {x y : α} : {ns ms : List Prop} -> Fr.needL ns (.val x) = Fr.needL ms (.val y) -> conj ms -> conj ns /\ x = y
 | [], [], h, _ => by
  have h' : Fr.val x = Fr.val y := h
  injection h' with h'
  exact ⟨trivial, h'⟩
 | [], _ :: _, h, _ => nomatch (show Fr.val x = Fr.need _ _ from h)
 | _ :: _, [], h, _ => nomatch (show Fr.need _ _ = Fr.val y from h)
 | p :: ns, q :: ms, h, hm => by
  have h' : Fr.need p (Fr.needL ns (.val x)) = Fr.need q (Fr.needL ms (.val y)) := h
  injection h' with h1 h2
  subst h1
  obtain ⟨a, b⟩ := conj_cons.1 hm
  obtain ⟨c, d⟩ := needL_inj h2 b
  exact ⟨conj_cons.2 ⟨a, c⟩, d⟩
theorem fun_sound {C : Cx} (hC : CxOK P C) {Λ : Nat -> St -> Option Tr} {f : FuncId} {fn : Func} {c : Code} {ps : List PT} {rs : List Ty} {fr : denP ps -> Fr (denL rs)}
  (hf : P.funcs[f]? = some fn) (hb : fn.body = some c) (hc : ∀ args w, (callFunc f args).run P w = .ok (.enter f args) w) (hn : ps.length <= fn.ntmps) (hΛ : ∀ E, LamOK P E Λ c 0)
  (hrun : ∀ xs, runF P C Λ c fn.ntmps fn.results.toList ps rs xs = some (fr xs)) : SoundCt P f ⟨ps, rs, fun xs => (fr xs).get, fun xs => [(fr xs).ok]⟩ := by
 refine ⟨hc, fun w F xs vs hbd hr hok => calls_of_wp hf hb ?_⟩
 have hr' := hrun xs
 unfold runF at hr'
 split at hr' <;> try (cases hr'; done)
 rename_i t ht
 have hlen : vs.length = ps.length := by
  have : ∀ {ps : List PT} {xs : denP ps} {vs : List Value}, RepPs P w F ps xs vs -> vs.length = ps.length := by
   intro ps
   induction ps with
   | nil => intro xs vs h; cases h; rfl
   | cons p r ih =>
    intro xs vs h
    obtain ⟨v, vs', rfl, _, h3⟩ := h
    simp [ih h3]
  exact this hr
 have hstart := start_inv (D := []) (n := fn.ntmps) hbd (fun R => encPs_rep (R := R) hr) (by omega)
 have hwp := codeA_sound hC c 0 (hΛ _) ht (fr_sat hr' hok) hstart
 have hsz : (vs.toArray).size = vs.length := by simp
 rw [hsz]
 refine wp_mono hwp ?_
 rintro e a' w' ⟨xe, s, rfl, ⟨F', γ', hi⟩, hxe, n, hend, hnn⟩
 have hfin : a'.defers = [] /\ ∃ v, (results fn a'.tmps).run P w' = .ok v w' /\ Post w F rs (fr xs).get (.returned v) w' := by
  unfold endA at hend
  split at hend <;> try (cases hend; done)
  rename_i avs n' hres
  split at hend <;> try (cases hend; done)
  rename_i axs u hrs
  split at hend <;> try (cases hend; done)
  rename_i y hdec
  simp only [Option.some.injEq] at hend
  obtain ⟨hn', hy⟩ := needL_inj hend hnn
  subst hy
  obtain ⟨us, hran, hreps⟩ := res_run hi hres hn'
  obtain ⟨F'', hs, hm', _, hxs⟩ := rsAs_sound hi.mem (inv_bd hi) (SubM.of fun _ _ h => h) hrs hreps
  obtain ⟨γ0, h0⟩ := hi.step
  have hst := h0.trans hs
  refine ⟨hi.df, _, results_run hran, _, F'', rfl, ⟨hst.os, hst.tape, hst.output, hst.size, hst.old⟩, hst.hF, fun b hb => ⟨hst.new b hb, hst.bd b hb⟩, repR_of (decVs_rep hdec hxs)⟩
 rcases hxe with rfl | rfl
 ·exact hfin
 ·exact hfin
theorem conv {f : FuncId} {ct : Ct} (h : SoundCt P f ct) (g : denP ct.ps -> denL ct.rs) (ok : denP ct.ps -> List Prop) (hg : ∀ w F xs vs, RepPs P w F ct.ps xs vs -> conj (ok xs) -> conj (ct.ok xs) /\ ct.f xs = g xs) : SoundCt P f ⟨ct.ps, ct.rs, g, ok⟩ := by
 refine ⟨h.1, fun w F xs vs hb hr hok => ?_⟩
 obtain ⟨h1, h2⟩ := hg w F xs vs hr hok
 have := h.2 w F xs vs hb hr h1
 rw [h2] at this
 exact this
theorem enters {f : FuncId} {fn : Func} {c : Code} (hf : P.funcs[f]? = some fn) (hb : fn.body = some c) (hn : (fn.name == "runtime.NumGoroutine") = false) (args : Array Value) (w : World) : (callFunc f args).run P w = .ok (.enter f args) w := by
 have hn' : ¬ fn.name = "runtime.NumGoroutine" := by simpa using hn
 simp [callFunc, hf, hb, hn']
def runFn (P : Program) (C : Cx) (Λ : Nat -> St -> Option Tr) (fn : Func) (ps : List PT) (rs : List Ty) (xs : denP ps) : Option (Fr (denL rs)) :=
 match fn.body with
 | some c => if (fn.name == "runtime.NumGoroutine") = false /\ ps.length <= fn.ntmps then runF P C Λ c fn.ntmps fn.results.toList ps rs xs else none
 | none => none
theorem fn_sound {C : Cx} (hC : CxOK P C) {Λ : Nat -> St -> Option Tr} {f : FuncId} {fn : Func} {ps : List PT} {rs : List Ty} {fr : denP ps -> Fr (denL rs)} (x0 : denP ps)
  (hf : P.funcs[f]? = some fn) (hΛ : ∀ c E, fn.body = some c -> LamOK P E Λ c 0) (hrun : ∀ xs, runFn P C Λ fn ps rs xs = some (fr xs)) : SoundCt P f ⟨ps, rs, fun xs => (fr xs).get, fun xs => [(fr xs).ok]⟩ := by
 have h0 := hrun x0
 unfold runFn at h0
 split at h0 <;> try (cases h0; done)
 rename_i c hb
 split at h0 <;> try (cases h0; done)
 rename_i hc
 refine fun_sound hC hf hb (enters hf hb hc.1) hc.2 (fun E => hΛ c E hb) fun xs => ?_
 have := hrun xs
 unfold runFn at this
 simp only [hb, hc, and_self, if_true] at this
 exact this
theorem startK {s : St} {a : Act} {n : Nat} {xs : List AV} {vs : List Value} (hi : InvG P E s a w [] F γ) (h : Reps P w F (refOK s.mem γ) xs vs) (hn : vs.length <= n) :
  I P ⟨E.w0, E.F0, tmA a E, [], E.B, E.hB⟩ ⟨n, fun i => xs.getD i .dead, s.mem, s.at⟩ { tmps := vs.toArray ++ Array.replicate (n - vs.length) undef, defers := [] } w := by
 refine ⟨F, γ, ?_, rfl, hi.step, hi.mem, fun t => ?_, fun t g want v ht => ?_, fun t => inv_at hi t⟩
 ·show _ = n
  simp
  omega
 ·have hg : (vs.toArray ++ Array.replicate (n - vs.length) undef).getD t undef = vs.getD t undef := by
   simp only [Array.getD_eq_getD_getElem?, List.getD_eq_getElem?_getD]
   rcases Nat.lt_or_ge t vs.length with hlt | hge
   ·rw [Array.getElem?_append_left (by simpa using hlt)]
    simp
   ·rw [Array.getElem?_append_right (by simpa using hge), List.getElem?_eq_none hge]
    simp only [Array.getElem?_replicate]
    split <;> rfl
  show SlotOK P w F _ _ (xs.getD t .dead) ((vs.toArray ++ Array.replicate (n - vs.length) undef).getD t undef)
  rw [hg]
  exact repA_slot (reps_get h t)
 ·exfalso
  have := reps_get h t
  have ht' : xs.getD t .dead = .maybe g want v := ht
  rw [ht'] at this
  exact this
theorem inv_back {s s' : St} {a a' : Act} {w' : World} (hi : InvG P E s a w [] F γ) (h : InvG P ⟨E.w0, E.F0, tmA a E, [], E.B, E.hB⟩ s' a' w' [] F' γ') : InvG P E (s'.back s.n) a w' [] F' γ' := by
 refine ⟨hi.n, hi.df, h.step, h.mem, fun t => ?_, fun t g want v ht => ?_, fun t => ?_⟩
 ·show SlotOK P w' F' _ _ (if t < 10000 then s'.gs t else .dead) _
  split
  ·rename_i ht
   have := h.gh t
   have he : tmA a E t = a.tmps.getD t undef := by unfold tmA; rw [if_pos ht]
   have h2 : RepA P w' F' (refOK s'.mem γ') (s'.gs t) (tmA a E t) := this
   rw [he] at h2
   exact repA_slot h2
  ·trivial
 ·exfalso
  have ht' : (if t < 10000 then s'.gs t else .dead) = .maybe g want v := ht
  split at ht'
  ·have := h.gh t
   rw [ht'] at this
   exact this
  ·cases ht'
 ·have hk : ∀ k, RepA P w' F' (refOK s'.mem γ') (s'.gs k) (tmA a E k) := fun k => h.gh k
  have hall : ∀ k, k = t + 10000 -> RepA P w' F' (refOK s'.mem γ') (s'.gs k) (E.G t) := fun k hkt => by
   have h2 := hk k
   unfold tmA at h2
   rw [if_neg (by omega)] at h2
   have he : k - 10000 = t := by omega
   rw [he] at h2
   exact h2
  exact hall _ rfl
theorem resV_rep : {xs : List AV} -> {vs : List Value} -> Reps P w F R xs vs -> RepA P w F R (resV xs) (resVal vs)
 | [], [], _ => ⟨#[], rfl, rfl, trivial⟩
 | [_], [_], h => h.1
 | x :: y :: r, v :: u :: s, h => by
  refine ⟨_, rfl, ?_, ?_⟩
  ·have : ∀ {xs : List AV} {vs : List Value}, Reps P w F R xs vs -> vs.length = xs.length := fun h => h.length
   simpa using this h
  ·have : ∀ (xs : List AV) (vs : List Value), Reps P w F R xs vs -> RepAL P w F R xs (fun j u => vs[j]? = some u) := by
    intro xs
    induction xs with
    | nil => intros; trivial
    | cons x xs ih =>
     intro vs h
     cases vs with
     | nil => exact h.elim
     | cons v vs => exact ⟨⟨v, rfl, h.1⟩, by simpa using ih vs h.2⟩
   simpa using this _ _ h
 | [], _ :: _, h => h.elim
 | _ :: _, [], h => h.elim
 | [_], _ :: _ :: _, h => h.2.elim
 | _ :: _ :: _, [_], h => h.2.elim
theorem endK_sat {rv : List ResultVar} {n : Nat} {Q : XE -> St -> Prop} : {t t' : Tr} -> endK P rv n t = some t' -> t'.sat Q -> t.sat fun e s => match e with
  | .panic p => Q (.panic p) (s.back n)
  | .ret => ∃ vs ns, resAs P s rv = some (vs, ns) /\ conj ns /\ Q (.val (resV vs)) (s.back n)
  | .normal => ∃ vs ns, resAs P s rv = some (vs, ns) /\ conj ns /\ Q (.val (resV vs)) (s.back n)
  | _ => False
 | .leaf e s, t', h, hq => by
  cases e with
  | panic p =>
   simp only [endK, Option.some.injEq] at h
   subst h
   exact hq
  | ret =>
   simp only [endK] at h
   split at h <;> try (cases h; done)
   rename_i vs ns hr
   simp only [Option.some.injEq] at h
   subst h
   obtain ⟨h1, h2⟩ := needL_sat _ hq
   exact ⟨vs, ns, hr, h1, h2⟩
  | normal =>
   simp only [endK] at h
   split at h <;> try (cases h; done)
   rename_i vs ns hr
   simp only [Option.some.injEq] at h
   subst h
   obtain ⟨h1, h2⟩ := needL_sat _ hq
   exact ⟨vs, ns, hr, h1, h2⟩
  | exit _ => simp [endK] at h
  | val _ => simp [endK] at h
  | jump _ => simp [endK] at h
 | .br b x y, t', h, hq => by
  simp only [endK] at h
  split at h <;> try (cases h; done)
  rename_i x' y' hx hy
  simp only [Option.some.injEq] at h
  subst h
  exact ⟨fun hb => endK_sat hx (hq.1 hb), fun hb => endK_sat hy (hq.2 hb)⟩
 | .need p x, t', h, hq => by
  simp only [endK] at h
  split at h <;> try (cases h; done)
  rename_i x' hx
  simp only [Option.some.injEq] at h
  subst h
  exact ⟨hq.1, endK_sat hx hq.2⟩
 | .two p x y, t', h, hq => by
  simp only [endK] at h
  split at h <;> try (cases h; done)
  rename_i x' y' hx hy
  simp only [Option.some.injEq] at h
  subst h
  exact ⟨fun hb => endK_sat hx (hq.1 hb), endK_sat hy hq.2⟩
theorem inlK_ok {C : Cx} (hC : CxOK P C) {Xi : FuncId -> Option (Func × (Nat -> St -> Option Tr))} (hX : ∀ f fn Λ, Xi f = some (fn, Λ) -> P.funcs[f]? = some fn /\ ∀ c E, fn.body = some c -> LamOK P E Λ c 0) : InlOK P (inlK P C Xi) := by
 intro d f args s t h
 unfold inlK at h
 split at h <;> try (cases h; done)
 rename_i fn Λ hxi
 split at h <;> try (cases h; done)
 rename_i c hbody
 split at h <;> try (cases h; done)
 rename_i hc
 split at h <;> try (cases h; done)
 rename_i t1 ht1
 obtain ⟨hf, hΛ⟩ := hX f fn Λ hxi
 refine ⟨enters hf hbody hc.2, fun E a w F γ vs Q hi hr hq => calls_of_wp hf hbody ?_⟩
 have hlen : vs.length = args.length := hr.length
 have hstart := startK (n := fn.ntmps) hi hr (by omega)
 have hsat := endK_sat h hq
 have hwp := codeA_sound hC c 0 (hΛ c _ hbody) ht1 hsat hstart
 have hsz : (vs.toArray).size = vs.length := by simp
 rw [hsz]
 refine wp_mono hwp ?_
 rintro e a' w' ⟨xe, s', rfl, ⟨F', γ', hi'⟩, hx⟩
 have hfin : (∃ vs ns, resAs P s' fn.results.toList = some (vs, ns) /\ conj ns /\ Q (.val (resV vs)) (s'.back s.n)) -> a'.defers = [] /\ ∃ v, (results fn a'.tmps).run P w' = .ok v w' /\ EndK P E a Q (.returned v) w' := by
  rintro ⟨vs, ns, hres, hns, hqv⟩
  obtain ⟨us, hran, hreps⟩ := res_run hi' hres hns
  exact ⟨hi'.df, _, results_run hran, _, _, F', γ', hqv, inv_back hi hi', _, rfl, resV_rep hreps⟩
 cases xe with
 | panic p => exact ⟨hi'.df, .panic p, _, F', γ', hx, inv_back hi hi', rfl⟩
 | ret => exact hfin hx
 | normal => exact hfin hx
 | exit _ => exact hx.elim
 | val _ => exact hx.elim
 | jump _ => exact hx.elim
end
end Go.Ab

namespace Go.Ab
open Go Go.RowKit
theorem least {p : Nat -> Prop} (h : ∃ n, p n) : ∃ n, p n /\ ∀ m, p m -> n <= m := by
 obtain ⟨n, hn⟩ := h
 induction n using Nat.strongRecOn with
 | _ n ih =>
  by_cases hm : ∃ m, m < n /\ p m
  ·obtain ⟨m, h1, h2⟩ := hm
   exact ih m h1 h2
  ·refine ⟨n, hn, fun m hm' => ?_⟩
   rcases Nat.lt_or_ge m n with h | h
   ·exact absurd ⟨m, h, hm'⟩ hm
   ·exact h
noncomputable def leastOf (p : Nat -> Prop) : Nat := open Classical in if h : ∃ n, p n then (least h).choose else 0
theorem leastOf_spec {p : Nat -> Prop} (h : ∃ n, p n) : p (leastOf p) /\ ∀ m, p m -> leastOf p <= m := by
 unfold leastOf
 rw [dif_pos h]
 exact (least h).choose_spec
theorem wp_loop_by {P : Program} {c : Code} {Q : Exit -> Act -> World -> Prop} {a : Act} {w : World} (J : Nat -> Act -> World -> Prop) (h0 : ∃ m, J m a w)
  (round : ∀ m a w, J m a w -> c.wp P (Exit.then (fun a' w' => ∃ m', m' < m /\ J m' a' w') Q) a w) : (Code.loop c).wp P Q a w := by
 refine wp_loop (fun a w => ∃ m, J m a w) (fun a w => leastOf fun m => J m a w) h0 fun a w h => ?_
 obtain ⟨h1, h2⟩ := leastOf_spec (p := fun m => J m a w) h
 refine wp_mono (round _ a w h1) fun e a' w' he => ?_
 cases e with
 | normal =>
  obtain ⟨m', h3, h4⟩ := he
  exact ⟨⟨m', h4⟩, Nat.lt_of_le_of_lt ((leastOf_spec (p := fun m => J m a' w') ⟨m', h4⟩).2 m' h4) h3⟩
 | _ => exact he
def Fr.satP {α : Type} (Q : α -> Prop) : Fr α -> Prop
 | .val x => Q x
 | .br b x y => (b = true -> x.satP Q) /\ (b = false -> y.satP Q)
 | .need p x => p /\ x.satP Q
theorem Fr.satP_of {α : Type} {Q : α -> Prop} : {f : Fr α} -> f.ok -> Q f.get -> f.satP Q
 | .val _, _, h => h
 | .br b x y, h, hq => by
  refine ⟨fun hb => Fr.satP_of (h.1 hb) ?_, fun hb => Fr.satP_of (h.2 hb) ?_⟩
  ·simpa only [Fr.get, hb, if_true] using hq
  ·simpa only [Fr.get, hb, Bool.false_eq_true, if_false] using hq
 | .need p x, h, hq => ⟨h.1, Fr.satP_of h.2 hq⟩
theorem Fr.satP_get {α : Type} {Q : α -> Prop} : {f : Fr α} -> f.satP Q -> f.ok /\ Q f.get
 | .val _, h => ⟨trivial, h⟩
 | .br b x y, h => by
  cases b with
  | true =>
   have := Fr.satP_get (h.1 rfl)
   exact ⟨⟨fun _ => this.1, fun hb => by cases hb⟩, this.2⟩
  | false =>
   have := Fr.satP_get (h.2 rfl)
   exact ⟨⟨fun hb => (by cases hb), fun _ => this.1⟩, this.2⟩
 | .need p x, h => ⟨⟨h.1, (Fr.satP_get h.2).1⟩, (Fr.satP_get h.2).2⟩
theorem Fr.needL_satP {α : Type} {Q : α -> Prop} {x : Fr α} : {ns : List Prop} -> (Fr.needL ns x).satP Q -> conj ns /\ x.satP Q
 | [], h => ⟨trivial, h⟩
 | p :: ns, h => by
  have h' : p /\ (Fr.needL ns x).satP Q := h
  obtain ⟨h1, h2⟩ := Fr.needL_satP h'.2
  exact ⟨conj_cons.2 ⟨h'.1, h1⟩, h2⟩
inductive Rd (X Y Z : Type) where
 | next (x : X)
 | out (y : Y)
 | back (z : Z)
 | pan (p : PV)
structure Lp where
 n : Nat
 id : Nat
 L : LS
 E : LS
 R : LS
abbrev Lp.In (l : Lp) : Type := l.L.X
abbrev Lp.Out (l : Lp) : Type := Rd Unit l.E.X l.R.X
abbrev Lp.Round (l : Lp) : Type := Rd l.L.X l.E.X l.R.X
def Lp.rdOf (Γ : FuncId -> Option Ct) (l : Lp) : Tr -> Option (Fr l.Round)
 | .leaf .normal s => if s.n = l.n then match l.L.ext Γ s with
   | some (x, n) => some (Fr.needL n (.val (.next x)))
   | none => none
  else none
 | .leaf (.exit i) s => if i = l.id /\ s.n = l.n then match l.E.ext Γ s with
   | some (x, n) => some (Fr.needL n (.val (.out x)))
   | none => none
  else none
 | .leaf .ret s => if s.n = l.n then match l.R.ext Γ s with
   | some (x, n) => some (Fr.needL n (.val (.back x)))
   | none => none
  else none
 | .leaf (.panic p) s => if s.n = l.n then some (.val (.pan p)) else none
 | .leaf (.val _) _ => none
 | .leaf (.jump _) _ => none
 | .br b x y => match l.rdOf Γ x, l.rdOf Γ y with
  | some x', some y' => some (.br b x' y')
  | _, _ => none
 | .need p x => match l.rdOf Γ x with
  | some x' => some (.need p x')
  | none => none
 | .two p x y => match l.rdOf Γ x, l.rdOf Γ y with
  | some x', some y' => some (.need (p -> x'.ok /\ x'.get = y'.get) y')
  | _, _ => none
def Lp.round (P : Program) (C : Cx) (bs : Nat) (Λ : Nat -> St -> Option Tr) (c : Code) (l : Lp) (x : l.In) : Option (Fr l.Round) :=
 match codeA P C bs Λ c 0 (l.L.tpl l.n x) with
 | some t => l.rdOf C.Γ t
 | none => none
def Lp.toTr (l : Lp) : Fr l.Out -> Tr
 | .val (.next _) => .need False (.leaf .ret ⟨0, fun _ => .dead, fun _ => none, fun _ => .dead⟩)
 | .val (.out y) => .leaf (.exit l.id) (l.E.tpl l.n y)
 | .val (.back z) => .leaf .ret (l.R.tpl l.n z)
 | .val (.pan p) => .leaf (.panic p) ⟨l.n, fun _ => .dead, fun _ => none, fun _ => .dead⟩
 | .br b x y => .br b (l.toTr x) (l.toTr y)
 | .need p x => .need p (l.toTr x)
def Lp.han (Γ : FuncId -> Option Ct) (l : Lp) (F : l.In -> Fr l.Out) (s : St) : Option Tr :=
 if s.n = l.n then match l.L.ext Γ s with
  | some (x, n) => some (needL n (l.toTr (F x)))
  | none => none
 else none
section
variable {P : Program} {B : Nat} {w w' : World} {E : Env} {bs : Nat} {Γ : FuncId -> Option Ct}
theorem Lp.toTr_sat (l : Lp) {Q : XE -> St -> Prop} : {f : Fr l.Out} -> (l.toTr f).sat Q -> f.satP fun
  | .next _ => False
  | .out y => Q (.exit l.id) (l.E.tpl l.n y)
  | .back z => Q .ret (l.R.tpl l.n z)
  | .pan p => Q (.panic p) ⟨l.n, fun _ => .dead, fun _ => none, fun _ => .dead⟩
 | .val (.next _), h => h.1
 | .val (.out _y), h => h
 | .val (.back _z), h => h
 | .val (.pan _), h => h
 | .br _b _x _y, h => ⟨fun hb => l.toTr_sat (h.1 hb), fun hb => l.toTr_sat (h.2 hb)⟩
 | .need _p _x, h => ⟨h.1, l.toTr_sat h.2⟩
theorem Lp.rd_sat (l : Lp) {Q : l.Round -> Prop} : {t : Tr} -> {f : Fr l.Round} -> l.rdOf Γ t = some f -> f.satP Q -> t.sat fun e s => match e with
  | .normal => s.n = l.n /\ ∃ x n, l.L.ext Γ s = some (x, n) /\ conj n /\ Q (.next x)
  | .exit i => i = l.id /\ s.n = l.n /\ ∃ x n, l.E.ext Γ s = some (x, n) /\ conj n /\ Q (.out x)
  | .ret => s.n = l.n /\ ∃ x n, l.R.ext Γ s = some (x, n) /\ conj n /\ Q (.back x)
  | .panic p => s.n = l.n /\ Q (.pan p)
  | .val _ => False
  | .jump _ => False
 | .leaf .normal s, f, h, hq => by
  simp only [Lp.rdOf] at h
  split at h <;> try (cases h; done)
  rename_i hn
  split at h <;> try (cases h; done)
  rename_i x n hx
  simp only [Option.some.injEq] at h
  subst h
  obtain ⟨h1, h2⟩ := Fr.needL_satP hq
  exact ⟨hn, x, n, hx, h1, h2⟩
 | .leaf (.exit i) s, f, h, hq => by
  simp only [Lp.rdOf] at h
  split at h <;> try (cases h; done)
  rename_i hn
  split at h <;> try (cases h; done)
  rename_i x n hx
  simp only [Option.some.injEq] at h
  subst h
  obtain ⟨h1, h2⟩ := Fr.needL_satP hq
  exact ⟨hn.1, hn.2, x, n, hx, h1, h2⟩
 | .leaf .ret s, f, h, hq => by
  simp only [Lp.rdOf] at h
  split at h <;> try (cases h; done)
  rename_i hn
  split at h <;> try (cases h; done)
  rename_i x n hx
  simp only [Option.some.injEq] at h
  subst h
  obtain ⟨h1, h2⟩ := Fr.needL_satP hq
  exact ⟨hn, x, n, hx, h1, h2⟩
 | .leaf (.panic p) s, f, h, hq => by
  simp only [Lp.rdOf] at h
  split at h <;> try (cases h; done)
  rename_i hn
  simp only [Option.some.injEq] at h
  subst h
  exact ⟨hn, hq⟩
 | .leaf (.val _) s, f, h, hq => by simp [Lp.rdOf] at h
 | .leaf (.jump _) s, f, h, hq => by simp [Lp.rdOf] at h
 | .br b x y, f, h, hq => by
  simp only [Lp.rdOf] at h
  split at h <;> try (cases h; done)
  rename_i x' y' hx hy
  simp only [Option.some.injEq] at h
  subst h
  exact ⟨fun hb => l.rd_sat hx (hq.1 hb), fun hb => l.rd_sat hy (hq.2 hb)⟩
 | .need p x, f, h, hq => by
  simp only [Lp.rdOf] at h
  split at h <;> try (cases h; done)
  rename_i x' hx
  simp only [Option.some.injEq] at h
  subst h
  have := l.rd_sat hx hq.2
  exact ⟨hq.1, this⟩
 | .two p x y, f, h, hq => by
  simp only [Lp.rdOf] at h
  split at h <;> try (cases h; done)
  rename_i x' y' hx hy
  simp only [Option.some.injEq] at h
  subst h
  refine ⟨fun hp => l.rd_sat hx (Fr.satP_of (hq.1 hp).1 ?_), l.rd_sat hy hq.2⟩
  rw [(hq.1 hp).2]
  exact (Fr.satP_get hq.2).2
end
end Go.Ab

namespace Go.Ab
open Go Go.RowKit
inductive Oc (α : Type) where
 | ok (x : α)
 | pan (p : PV)
def dfltL : (ts : List Ty) -> denL ts
 | [] => ()
 | t :: r => (t.dflt, dfltL r)
def Oc.bad {α : Type} : Oc α -> Bool
 | .ok _ => false
 | .pan _ => true
def Oc.pv {α : Type} : Oc α -> PV
 | .ok _ => ⟨0, .i64, 0⟩
 | .pan p => p
def Oc.val {ts : List Ty} : Oc (denL ts) -> denL ts
 | .ok x => x
 | .pan _ => dfltL ts
def endP (P : Program) (rv : List ResultVar) (rs : List Ty) (s : St) : Option (Fr (Oc (denL rs))) :=
 match resAs P s rv with
 | some (vs, n) => match rsAs s.mem vs with
  | some (xs, _) => match decVs rs xs with
   | some y => some (Fr.needL n (.val (.ok y)))
   | none => none
  | none => none
 | none => none
def frP (P : Program) (rv : List ResultVar) (rs : List Ty) : Tr -> Option (Fr (Oc (denL rs)))
 | .leaf .ret s => endP P rv rs s
 | .leaf .normal s => endP P rv rs s
 | .leaf (.panic p) _ => some (.val (.pan p))
 | .leaf _ _ => none
 | .br b x y => match frP P rv rs x, frP P rv rs y with
  | some x', some y' => some (.br b x' y')
  | _, _ => none
 | .need p x => match frP P rv rs x with
  | some x' => some (.need p x')
  | none => none
 | .two p x y => match frP P rv rs x, frP P rv rs y with
  | some x', some y' => some (.need (p -> x'.ok /\ x'.get = y'.get) y')
  | _, _ => none
def runFp (P : Program) (C : Cx) (Λ : Nat -> St -> Option Tr) (fn : Func) (ps : List PT) (rs : List Ty) (xs : denP ps) : Option (Fr (Oc (denL rs))) :=
 match fn.body with
 | some c => if (fn.name == "runtime.NumGoroutine") = false /\ ps.length <= fn.ntmps then match codeA P C 0 Λ c 0 (startA fn.ntmps (encPs ps xs)) with
   | some t => frP P fn.results.toList rs t
   | none => none
  else none
 | none => none
section
variable {P : Program} {w w' : World} {E : Env} {F F' : Nat -> Prop} {γ γ' : Nat -> Value}
theorem frP_sat {rv : List ResultVar} {rs : List Ty} : {t : Tr} -> {f : Fr (Oc (denL rs))} -> frP P rv rs t = some f -> f.ok -> t.sat fun e s => match e with
  | .panic p => f.get = .pan p
  | .ret => ∃ vs n xs u y, resAs P s rv = some (vs, n) /\ conj n /\ rsAs s.mem vs = some (xs, u) /\ decVs rs xs = some y /\ f.get = .ok y
  | .normal => ∃ vs n xs u y, resAs P s rv = some (vs, n) /\ conj n /\ rsAs s.mem vs = some (xs, u) /\ decVs rs xs = some y /\ f.get = .ok y
  | _ => False
 | .leaf e s, f, h, hok => by
  have key : endP P rv rs s = some f -> ∃ vs n xs u y, resAs P s rv = some (vs, n) /\ conj n /\ rsAs s.mem vs = some (xs, u) /\ decVs rs xs = some y /\ f.get = .ok y := fun h => by
   unfold endP at h
   split at h <;> try (cases h; done)
   rename_i vs n hr
   split at h <;> try (cases h; done)
   rename_i xs u hx
   split at h <;> try (cases h; done)
   rename_i y hy
   simp only [Option.some.injEq] at h
   subst h
   exact ⟨vs, n, xs, u, y, hr, (needL_ok _ hok).1, hx, hy, needL_get _⟩
  cases e with
  | exit i => simp [frP] at h
  | panic p =>
   simp only [frP, Option.some.injEq] at h
   subst h
   rfl
  | val v => simp [frP] at h
  | jump v => simp [frP] at h
  | normal => exact key h
  | ret => exact key h
 | .br b x y, f, h, hok => by
  simp only [frP] at h
  split at h <;> try (cases h; done)
  rename_i x' y' hx hy
  simp only [Option.some.injEq] at h
  subst h
  refine ⟨fun hb => ?_, fun hb => ?_⟩
  ·have := frP_sat hx (hok.1 hb)
   simpa only [Fr.get, hb, if_true] using this
  ·have := frP_sat hy (hok.2 hb)
   simpa only [Fr.get, hb, Bool.false_eq_true, if_false] using this
 | .need p x, f, h, hok => by
  simp only [frP] at h
  split at h <;> try (cases h; done)
  rename_i x' hx
  simp only [Option.some.injEq] at h
  subst h
  have := frP_sat hx hok.2
  exact ⟨hok.1, this⟩
 | .two p x y, f, h, hok => by
  simp only [frP] at h
  split at h <;> try (cases h; done)
  rename_i x' y' hx hy
  simp only [Option.some.injEq] at h
  subst h
  have h2 := frP_sat hy hok.2
  refine ⟨fun hp => ?_, h2⟩
  have := frP_sat hx (hok.1 hp).1
  rwa [(hok.1 hp).2] at this
theorem repPs_len : {ps : List PT} -> {xs : denP ps} -> {vs : List Value} -> RepPs P w F ps xs vs -> vs.length = ps.length
 | [], _, _, h => by cases h; rfl
 | _ :: _, _, _, ⟨_, _, h1, _, h3⟩ => by subst h1; simp [repPs_len h3]
theorem fp_sound {C : Cx} (hC : CxOK P C) {Λ : Nat -> St -> Option Tr} {f : FuncId} {fn : Func} {ps : List PT} {rs : List Ty} {fr : denP ps -> Fr (Oc (denL rs))} (x0 : denP ps)
  (hf : P.funcs[f]? = some fn) (hΛ : ∀ c E, fn.body = some c -> LamOK P E Λ c 0) (hrun : ∀ xs, runFp P C Λ fn ps rs xs = some (fr xs)) :
  SoundPc P f ⟨ps, rs, fun xs => (fr xs).get.val, fun xs => (fr xs).get.bad, fun xs => (fr xs).get.pv, fun xs => [(fr xs).ok]⟩ := by
 have h0 := hrun x0
 unfold runFp at h0
 split at h0 <;> try (cases h0; done)
 rename_i c hb
 split at h0 <;> try (cases h0; done)
 rename_i hc
 refine ⟨enters hf hb hc.1, fun w F xs vs hbd hr hok => calls_of_wp hf hb ?_⟩
 have hr' := hrun xs
 unfold runFp at hr'
 simp only [hb, hc, and_self, if_true] at hr'
 split at hr' <;> try (cases hr'; done)
 rename_i t ht
 have hlen : vs.length = ps.length := repPs_len hr
 have hstart := start_inv (D := []) (n := fn.ntmps) hbd (fun R => encPs_rep (R := R) hr) (by omega)
 have hwp := codeA_sound hC c 0 (hΛ c _ hb) ht (frP_sat hr' hok) hstart
 have hsz : (vs.toArray).size = vs.length := by simp
 rw [hsz]
 refine wp_mono hwp ?_
 rintro e a' w' ⟨xe, s, rfl, ⟨F', γ', hi⟩, hx⟩
 obtain ⟨γ0, h0⟩ := hi.step
 have hfin : (∃ vs n xs' u y, resAs P s fn.results.toList = some (vs, n) /\ conj n /\ rsAs s.mem vs = some (xs', u) /\ decVs rs xs' = some y /\ (fr xs).get = .ok y) ->
   a'.defers = [] /\ ∃ v, (results fn a'.tmps).run P w' = .ok v w' /\ (((fr xs).get.bad = false /\ Post w F rs (fr xs).get.val (.returned v) w') ∨ ((fr xs).get.bad = true /\ Ending.returned v = .panicked [{ v := (fr xs).get.pv.val, recovered := false }] /\ Below w.heap.size w w')) := by
  rintro ⟨vs, n, xs', u, y, hres, hn, hrs, hdec, hget⟩
  obtain ⟨us, hran, hreps⟩ := res_run hi hres hn
  obtain ⟨F'', hs, hm', _, hxs⟩ := rsAs_sound hi.mem (inv_bd hi) (SubM.of fun _ _ h => h) hrs hreps
  have hst := h0.trans hs
  refine ⟨hi.df, _, results_run hran, .inl ⟨by rw [hget]; rfl, _, F'', rfl, ⟨hst.os, hst.tape, hst.output, hst.size, hst.old⟩, hst.hF, fun b hb => ⟨hst.new b hb, hst.bd b hb⟩, ?_⟩⟩
  rw [hget]
  exact repR_of (decVs_rep hdec hxs)
 cases xe with
 | normal => exact hfin hx
 | ret => exact hfin hx
 | panic p =>
  have hx' : (fr xs).get = .pan p := hx
  refine ⟨hi.df, .inr ⟨?_, ?_, ⟨h0.os, h0.tape, h0.output, h0.size, h0.old⟩⟩⟩
  ·show (fr xs).get.bad = true
   rw [hx']
   rfl
  ·show Ending.panicked _ = Ending.panicked [{ v := (fr xs).get.pv.val, recovered := false }]
   rw [hx']
   rfl
 | exit _ => exact hx.elim
 | val _ => exact hx.elim
 | jump _ => exact hx.elim
theorem convP {f : FuncId} {ct : Pc} (h : SoundPc P f ct) (g : denP ct.ps -> denL ct.rs) (bad : denP ct.ps -> Bool) (pv : denP ct.ps -> PV) (ok : denP ct.ps -> List Prop)
  (hg : ∀ w F xs vs, RepPs P w F ct.ps xs vs -> conj (ok xs) -> conj (ct.ok xs) /\ ct.bad xs = bad xs /\ (bad xs = false -> ct.f xs = g xs) /\ (bad xs = true -> ct.pv xs = pv xs)) : SoundPc P f ⟨ct.ps, ct.rs, g, bad, pv, ok⟩ := by
 refine ⟨h.1, fun w F xs vs hb hr hok => ?_⟩
 obtain ⟨h1, h2, h3, h4⟩ := hg w F xs vs hr hok
 refine (h.2 w F xs vs hb hr h1).mono fun e w' he => ?_
 rcases he with ⟨b, hp⟩ | ⟨b, rfl, hbel⟩
 ·have hb' : bad xs = false := h2 ▸ b
  refine .inl ⟨hb', ?_⟩
  show Post w F ct.rs (g xs) e w'
  rw [← h3 hb']
  exact hp
 ·have hb' : bad xs = true := h2 ▸ b
  refine .inr ⟨hb', ?_, hbel⟩
  show Ending.panicked [{ v := (ct.pv xs).val, recovered := false }] = Ending.panicked [{ v := (pv xs).val, recovered := false }]
  rw [h4 hb']
end
end Go.Ab

namespace Go.Ab
open Go Go.RowKit
structure Pt where
 n : Nat
 id : Nat
 M : LS
 E : LS
 R : LS
def Pt.lp (p : Pt) : Lp := ⟨p.n, p.id, p.M, p.E, p.R⟩
abbrev Pt.Out (p : Pt) : Type := Rd p.M.X p.E.X p.R.X
def AfterR (P : Program) (E : Env) (p : Pt) (Q : p.Out -> Prop) (e : Exit) (a : Act) (w : World) : Prop :=
 ∃ r, Q r /\ match r with
  | .next m => e = .normal /\ I P E (p.M.tpl p.n m) a w
  | .out y => e = .exit p.id /\ I P E (p.E.tpl p.n y) a w
  | .back z => e = .ret /\ I P E (p.R.tpl p.n z) a w
  | .pan v => e = .panic [{ v := v.val, recovered := false }] /\ ∃ s, s.n = p.n /\ I P E s a w
def Does (P : Program) (c : Code) (L : LS) (p : Pt) (f : L.X -> Fr p.Out) : Prop :=
 ∀ (E : Env) (a : Act) (w : World) (x : L.X) (Q : p.Out -> Prop), I P E (L.tpl p.n x) a w -> (f x).satP Q -> c.wp P (AfterR P E p Q) a w
def runPiece (P : Program) (C : Cx) (bs : Nat) (Λ : Nat -> St -> Option Tr) (c : Code) (L : LS) (p : Pt) (x : L.X) : Option (Fr p.Out) :=
 match codeA P C bs Λ c 0 (L.tpl p.n x) with
 | some t => p.lp.rdOf C.Γ t
 | none => none
def Fr.bindR {X Y Z W : Type} (k : X -> Fr (Rd W Y Z)) : Fr (Rd X Y Z) -> Fr (Rd W Y Z)
 | .val (.next m) => k m
 | .val (.out y) => .val (.out y)
 | .val (.back z) => .val (.back z)
 | .val (.pan p) => .val (.pan p)
 | .br b x y => .br b (x.bindR k) (y.bindR k)
 | .need p x => .need p (x.bindR k)
def Fr.outR {Y Z W : Type} : Fr (Rd Y Y Z) -> Fr (Rd Y W Z)
 | .val (.next m) => .val (.next m)
 | .val (.out y) => .val (.next y)
 | .val (.back z) => .val (.back z)
 | .val (.pan p) => .val (.pan p)
 | .br b x y => .br b x.outR y.outR
 | .need p x => .need p x.outR
section
variable {P : Program} {E : Env}
theorem Fr.bindR_sat {X Y Z W : Type} {k : X -> Fr (Rd W Y Z)} {Q : Rd W Y Z -> Prop} : {f : Fr (Rd X Y Z)} -> (f.bindR k).satP Q -> f.satP fun
  | .next m => (k m).satP Q
  | .out y => Q (.out y)
  | .back z => Q (.back z)
  | .pan p => Q (.pan p)
 | .val (.next _), h => h
 | .val (.out _), h => h
 | .val (.back _), h => h
 | .val (.pan _), h => h
 | .br _b _x _y, h => ⟨fun hb => bindR_sat (h.1 hb), fun hb => bindR_sat (h.2 hb)⟩
 | .need _p _x, h => ⟨h.1, bindR_sat h.2⟩
theorem Fr.outR_sat {Y Z W : Type} {Q : Rd Y W Z -> Prop} : {f : Fr (Rd Y Y Z)} -> f.outR.satP Q -> f.satP fun
  | .next m => Q (.next m)
  | .out y => Q (.next y)
  | .back z => Q (.back z)
  | .pan p => Q (.pan p)
 | .val (.next _), h => h
 | .val (.out _), h => h
 | .val (.back _), h => h
 | .val (.pan _), h => h
 | .br _b _x _y, h => ⟨fun hb => outR_sat (h.1 hb), fun hb => outR_sat (h.2 hb)⟩
 | .need _p _x, h => ⟨h.1, outR_sat h.2⟩
theorem Fr.satP_mono {α : Type} {Q Q' : α -> Prop} (h : ∀ x, Q x -> Q' x) : {f : Fr α} -> f.satP Q -> f.satP Q'
 | .val _, hq => h _ hq
 | .br _ _ _, hq => ⟨fun hb => satP_mono h (hq.1 hb), fun hb => satP_mono h (hq.2 hb)⟩
 | .need _ _, hq => ⟨hq.1, satP_mono h hq.2⟩
theorem Does.of_run {C : Cx} (hC : CxOK P C) {bs : Nat} {Λ : Nat -> St -> Option Tr} {c : Code} {L : LS} {p : Pt} (hM : p.M.low = true) (hE : p.E.low = true) (hR : p.R.low = true) (hΛ : ∀ E, LamOK P E Λ c 0) {f : L.X -> Fr p.Out}
  (hr : ∀ x, runPiece P C bs Λ c L p x = some (f x)) : Does P c L p f := by
 intro E a w x Q hi hq
 have hrx := hr x
 unfold runPiece at hrx
 split at hrx <;> try (cases hrx; done)
 rename_i t ht
 have hsat := p.lp.rd_sat hrx hq
 refine wp_mono (codeA_sound hC c 0 (hΛ E) ht hsat hi) ?_
 rintro e a' w' ⟨xe, s', rfl, his, hqs⟩
 cases xe with
 | normal =>
  obtain ⟨hn', y, n', hy, hn, hqy⟩ := hqs
  have := ext_sound hC.ct hM his hy hn
  rw [hn'] at this
  exact ⟨.next y, hqy, rfl, this⟩
 | exit i =>
  obtain ⟨rfl, hn', y, n', hy, hn, hqy⟩ := hqs
  have := ext_sound hC.ct hE his hy hn
  rw [hn'] at this
  exact ⟨.out y, hqy, rfl, this⟩
 | ret =>
  obtain ⟨hn', y, n', hy, hn, hqy⟩ := hqs
  have := ext_sound hC.ct hR his hy hn
  rw [hn'] at this
  exact ⟨.back y, hqy, rfl, this⟩
 | panic v => exact ⟨.pan v, hqs.2, rfl, s', hqs.1, his⟩
 | val _ => exact hqs.elim
 | jump _ => exact hqs.elim
theorem Does.conv {c : Code} {L : LS} {p : Pt} {f g : L.X -> Fr p.Out} (h : Does P c L p f) (hg : ∀ x Q, (g x).satP Q -> (f x).satP Q) : Does P c L p g :=
 fun E a w x Q hi hq => h E a w x Q hi (hg x Q hq)
theorem Does.seq {a b : Code} {L M N Eo R : LS} {n id : Nat} {f : L.X -> Fr (Rd M.X Eo.X R.X)} {g : M.X -> Fr (Rd N.X Eo.X R.X)} (hf : Does P a L ⟨n, id, M, Eo, R⟩ f) (hg : Does P b M ⟨n, id, N, Eo, R⟩ g) :
  Does P (.seq a b) L ⟨n, id, N, Eo, R⟩ fun x => (f x).bindR g := by
 intro E ac w x Q hi hq
 refine wp_seq (wp_mono (hf E ac w x _ hi (Fr.bindR_sat hq)) ?_)
 rintro e a' w' ⟨r, hr, hm⟩
 cases r with
 | next m =>
  obtain ⟨rfl, hi'⟩ := hm
  exact hg E a' w' m Q hi' hr
 | out y =>
  obtain ⟨rfl, hi'⟩ := hm
  exact ⟨.out y, hr, rfl, hi'⟩
 | back z =>
  obtain ⟨rfl, hi'⟩ := hm
  exact ⟨.back z, hr, rfl, hi'⟩
 | pan v =>
  obtain ⟨rfl, hi'⟩ := hm
  exact ⟨.pan v, hr, rfl, hi'⟩
theorem Does.block {c : Code} {L M Eo R : LS} {n id id' : Nat} {f : L.X -> Fr (Rd M.X M.X R.X)} (h : Does P c L ⟨n, id, M, M, R⟩ f) : Does P (.block id c) L ⟨n, id', M, Eo, R⟩ fun x => (f x).outR := by
 intro E ac w x Q hi hq
 refine wp_block (wp_mono (h E ac w x _ hi (Fr.outR_sat hq)) ?_)
 rintro e a' w' ⟨r, hr, hm⟩
 cases r with
 | next m =>
  obtain ⟨rfl, hi'⟩ := hm
  exact ⟨.next m, hr, rfl, hi'⟩
 | out y =>
  obtain ⟨rfl, hi'⟩ := hm
  show Exit.inBlock id _ (.exit id) a' w'
  unfold Exit.inBlock
  simp only [if_true]
  exact ⟨.next y, hr, rfl, hi'⟩
 | back z =>
  obtain ⟨rfl, hi'⟩ := hm
  exact ⟨.back z, hr, rfl, hi'⟩
 | pan v =>
  obtain ⟨rfl, hi'⟩ := hm
  exact ⟨.pan v, hr, rfl, hi'⟩
theorem Does.loop {c : Code} {L N Eo R : LS} {n id : Nat} {f : L.X -> Fr (Rd L.X Eo.X R.X)} (h : Does P c L ⟨n, id, L, Eo, R⟩ f) {F : L.X -> Fr (Rd N.X Eo.X R.X)} {inv : L.X -> Prop} {μ : L.X -> Nat}
  (hlaw : ∀ x, inv x -> ∀ Q : Rd N.X Eo.X R.X -> Prop, (F x).satP Q -> (f x).satP fun
   | .next x' => inv x' /\ μ x' < μ x /\ (F x').satP Q
   | .out y => Q (.out y)
   | .back z => Q (.back z)
   | .pan p => Q (.pan p)) (hinv : ∀ x Q, (F x).satP Q -> inv x) : Does P (.loop c) L ⟨n, id, N, Eo, R⟩ F := by
 intro E a w x Q hi hq
 refine wp_loop_by (fun m a w => ∃ x, inv x /\ μ x = m /\ I P E (L.tpl n x) a w /\ (F x).satP Q) ⟨μ x, x, hinv x Q hq, rfl, hi, hq⟩ ?_
 rintro m a w ⟨x, hx, rfl, hix, hFx⟩
 refine wp_mono (h E a w x _ hix (hlaw x hx Q hFx)) ?_
 rintro e a' w' ⟨r, hr, hm⟩
 cases r with
 | next x' =>
  obtain ⟨rfl, hi'⟩ := hm
  exact ⟨μ x', hr.2.1, x', hr.1, rfl, hi', hr.2.2⟩
 | out y =>
  obtain ⟨rfl, hi'⟩ := hm
  exact ⟨.out y, hr, rfl, hi'⟩
 | back z =>
  obtain ⟨rfl, hi'⟩ := hm
  exact ⟨.back z, hr, rfl, hi'⟩
 | pan v =>
  obtain ⟨rfl, hi'⟩ := hm
  exact ⟨.pan v, hr, rfl, hi'⟩
def Pt.toTr (p : Pt) : Fr p.Out -> Tr
 | .val (.next m) => .leaf .normal (p.M.tpl p.n m)
 | .val (.out y) => .leaf (.exit p.id) (p.E.tpl p.n y)
 | .val (.back z) => .leaf .ret (p.R.tpl p.n z)
 | .val (.pan v) => .leaf (.panic v) ⟨p.n, fun _ => .dead, fun _ => none, fun _ => .dead⟩
 | .br b x y => .br b (p.toTr x) (p.toTr y)
 | .need q x => .need q (p.toTr x)
def Pt.han (Γ : FuncId -> Option Ct) (L : LS) (p : Pt) (F : L.X -> Fr p.Out) (s : St) : Option Tr :=
 if s.n = p.n then match L.ext Γ s with
  | some (x, n) => some (needL n (p.toTr (F x)))
  | none => none
 else none
theorem Pt.toTr_sat (p : Pt) {Q : XE -> St -> Prop} : {f : Fr p.Out} -> (p.toTr f).sat Q -> f.satP fun
  | .next m => Q .normal (p.M.tpl p.n m)
  | .out y => Q (.exit p.id) (p.E.tpl p.n y)
  | .back z => Q .ret (p.R.tpl p.n z)
  | .pan v => Q (.panic v) ⟨p.n, fun _ => .dead, fun _ => none, fun _ => .dead⟩
 | .val (.next _), h => h
 | .val (.out _), h => h
 | .val (.back _), h => h
 | .val (.pan _), h => h
 | .br _b _x _y, h => ⟨fun hb => p.toTr_sat (h.1 hb), fun hb => p.toTr_sat (h.2 hb)⟩
 | .need _q _x, h => ⟨h.1, p.toTr_sat h.2⟩
theorem Does.han {C : Cx} (hC : CxOK P C) {c : Code} {L : LS} {p : Pt} {F : L.X -> Fr p.Out} (hL : L.low = true) (h : Does P (.loop c) L p F) : LoopOK P E c (p.han C.Γ L F) := by
 intro s t hs Q hq a w hi
 unfold Pt.han at hs
 split at hs <;> try (cases hs; done)
 rename_i hsn
 split at hs <;> try (cases hs; done)
 rename_i x n hx
 simp only [Option.some.injEq] at hs
 subst hs
 obtain ⟨hq1, hq2⟩ := needL_sat _ hq
 have hi' := ext_sound hC.ct hL hi hx hq1
 rw [hsn] at hi'
 refine wp_mono (h E a w x _ hi' (p.toTr_sat hq2)) ?_
 rintro e a' w' ⟨r, hr, hm⟩
 cases r with
 | next m =>
  obtain ⟨rfl, hi'⟩ := hm
  exact ⟨.normal, _, rfl, hi', hr⟩
 | out y =>
  obtain ⟨rfl, hi'⟩ := hm
  exact ⟨.exit p.id, _, rfl, hi', hr⟩
 | back z =>
  obtain ⟨rfl, hi'⟩ := hm
  exact ⟨.ret, _, rfl, hi', hr⟩
 | pan v =>
  obtain ⟨rfl, s', hn', hi'⟩ := hm
  have hdead : I P E ⟨p.n, fun _ => .dead, fun _ => none, fun _ => .dead⟩ a' w' := by
   have := ext_sound hC.ct (L := ⟨[], []⟩) rfl hi' (x := ((), ())) (n := []) rfl trivial
   rw [hn'] at this
   obtain ⟨F', γ', h⟩ := this
   exact ⟨F', γ', h.n, h.df, h.step, h.mem, fun t => trivial, fun t g want v ht => (nomatch ht), fun t => trivial⟩
  exact ⟨.panic v, _, rfl, hdead, hr⟩
end
end Go.Ab

namespace Go.Ab
open Go Go.RowKit
def envF {α : Type} : List (FuncId × α) -> FuncId -> Option α
 | [], _ => none
 | (g, c) :: r, f => if f = g then some c else envF r f
def AllCt (P : Program) : List (FuncId × Ct) -> Prop
 | [] => True
 | (f, c) :: r => SoundCt P f c /\ AllCt P r
def AllPc (P : Program) : List (FuncId × Pc) -> Prop
 | [] => True
 | (f, c) :: r => SoundPc P f c /\ AllPc P r
theorem AllCt.get {P : Program} : {l : List (FuncId × Ct)} -> AllCt P l -> ∀ f c, envF l f = some c -> SoundCt P f c
 | [], _, f, c, h => by simp [envF] at h
 | (g, c0) :: r, ha, f, c, h => by
  unfold envF at h
  split at h
  ·rename_i hfg
   simp only [Option.some.injEq] at h
   subst h hfg
   exact ha.1
  ·exact AllCt.get ha.2 f c h
theorem AllPc.get {P : Program} : {l : List (FuncId × Pc)} -> AllPc P l -> ∀ f c, envF l f = some c -> SoundPc P f c
 | [], _, f, c, h => by simp [envF] at h
 | (g, c0) :: r, ha, f, c, h => by
  unfold envF at h
  split at h
  ·rename_i hfg
   simp only [Option.some.injEq] at h
   subst h hfg
   exact ha.1
  ·exact AllPc.get ha.2 f c h
def cx (cs : List (FuncId × Ct)) (ps : List (FuncId × Pc)) : Cx := ⟨envF cs, envF ps, fun _ _ _ _ => none⟩
def cxK (cs : List (FuncId × Ct)) (ps : List (FuncId × Pc)) (K : Nat -> FuncId -> List AV -> St -> Option Tr) : Cx := ⟨envF cs, envF ps, K⟩
theorem cx_ok {P : Program} (hm : P.follows .mixedOrders = true) {cs : List (FuncId × Ct)} {ps : List (FuncId × Pc)} (h : AllCt P cs) (k : AllPc P ps) : CxOK P (cx cs ps) :=
 ⟨hm, h.get, k.get, fun _ _ _ _ _ h => (nomatch h)⟩
theorem cxK_ok {P : Program} (hm : P.follows .mixedOrders = true) {cs : List (FuncId × Ct)} {ps : List (FuncId × Pc)} {K : Nat -> FuncId -> List AV -> St -> Option Tr} (h : AllCt P cs) (k : AllPc P ps) (hK : InlOK P K) : CxOK P (cxK cs ps K) :=
 ⟨hm, h.get, k.get, hK⟩
def lam0 : Nat -> St -> Option Tr := fun _ _ => none
theorem lam0_ok {P : Program} {E : Env} : (c : Code) -> (k : Nat) -> LamOK P E lam0 c k
 | .seq a b, k => ⟨lam0_ok a k, lam0_ok b _⟩
 | .cond _ a b, k => ⟨lam0_ok a k, lam0_ok b _⟩
 | .block _ c, k => lam0_ok c k
 | .scope c, k => lam0_ok c k
 | .loop _, _ => fun _ _ h => nomatch h
 | .skip, _ => trivial
 | .ret, _ => trivial
 | .exit _, _ => trivial
 | .region _ _ _, _ => trivial
 | .label _, _ => trivial
 | .goto _, _ => trivial
 | .rangeFunc _ _ _ _, _ => trivial
 | .refuse _, _ => trivial
def loopB : Code -> Nat -> Option Code
 | .loop c, 0 => some c
 | .seq a b, k => if k < loopsIn a then loopB a k else loopB b (k - loopsIn a)
 | .cond _ a b, k => if k < loopsIn a then loopB a k else loopB b (k - loopsIn a)
 | .block _ c, k => loopB c k
 | .scope c, k => loopB c k
 | _, _ => none
def loopF (f : Func) (k : Nat) : Code := (f.body.bind (loopB · k)).getD .skip
theorem loopB_lt : {c : Code} -> {k : Nat} -> {b : Code} -> loopB c k = some b -> k < loopsIn c
 | .loop _, 0, _, _ => Nat.zero_lt_one
 | .loop _, _ + 1, _, h => by simp [loopB] at h
 | .seq x y, k, b, h => by
  simp only [loopB] at h
  simp only [loopsIn]
  split at h
  ·omega
  ·have := loopB_lt h
   omega
 | .cond _ x y, k, b, h => by
  simp only [loopB] at h
  simp only [loopsIn]
  split at h
  ·omega
  ·have := loopB_lt h
   omega
 | .block _ c, k, b, h => loopB_lt (c := c) h
 | .scope c, k, b, h => loopB_lt (c := c) h
 | .skip, _, _, h => by simp [loopB] at h
 | .region _ _ _, _, _, h => by simp [loopB] at h
 | .ret, _, _, h => by simp [loopB] at h
 | .exit _, _, _, h => by simp [loopB] at h
 | .label _, _, _, h => by simp [loopB] at h
 | .goto _, _, _, h => by simp [loopB] at h
 | .rangeFunc _ _ _ _, _, _, h => by simp [loopB] at h
 | .refuse _, _, _, h => by simp [loopB] at h
theorem lamAll {P : Program} {E : Env} {Λ : Nat -> St -> Option Tr} : (c : Code) -> (k : Nat) -> (∀ i b, loopB c i = some b -> LoopOK P E b (Λ (k + i))) -> LamOK P E Λ c k
 | .loop b, k, h => h 0 b rfl
 | .seq x y, k, h => ⟨lamAll x k fun i b hb => h i b (by simp only [loopB]; rw [if_pos (loopB_lt hb)]; exact hb), lamAll y _ fun i b hb => by
   have := h (loopsIn x + i) b (by simp only [loopB]; rw [if_neg (by omega), Nat.add_sub_cancel_left]; exact hb)
   rwa [← Nat.add_assoc] at this⟩
 | .cond _ x y, k, h => ⟨lamAll x k fun i b hb => h i b (by simp only [loopB]; rw [if_pos (loopB_lt hb)]; exact hb), lamAll y _ fun i b hb => by
   have := h (loopsIn x + i) b (by simp only [loopB]; rw [if_neg (by omega), Nat.add_sub_cancel_left]; exact hb)
   rwa [← Nat.add_assoc] at this⟩
 | .block _ c, k, h => lamAll c k h
 | .scope c, k, h => lamAll c k h
 | .skip, _, _ => trivial
 | .ret, _, _ => trivial
 | .exit _, _, _ => trivial
 | .region _ _ _, _, _ => trivial
 | .label _, _, _ => trivial
 | .goto _, _, _ => trivial
 | .rangeFunc _ _ _ _, _, _ => trivial
 | .refuse _, _, _ => trivial
theorem lam1 {P : Program} {E : Env} {Λ : Nat -> St -> Option Tr} {c b : Code} (hn : loopsIn c = 1) (hb : loopB c 0 = some b) (h : LoopOK P E b (Λ 0)) : LamOK P E Λ c 0 := by
 refine lamAll c 0 fun i b' hb' => ?_
 have h1 := loopB_lt hb'
 have hi : i = 0 := by omega
 subst hi
 rw [hb] at hb'
 cases hb'
 exact h
theorem lam1f {P : Program} {E : Env} {Λ : Nat -> St -> Option Tr} {fn : Func} {c b : Code} (hc : fn.body = some c) (hn : (fn.body.map loopsIn) = some 1) (hb : fn.body.bind (loopB · 0) = some b) (h : LoopOK P E b (Λ 0)) : LamOK P E Λ c 0 := by
 rw [hc] at hn hb
 exact lam1 (by simpa using hn) (by simpa using hb) h
theorem lam2f {P : Program} {E : Env} {Λ : Nat -> St -> Option Tr} {fn : Func} {c b0 b1 : Code} (hc : fn.body = some c) (hn : (fn.body.map loopsIn) = some 2) (hb0 : fn.body.bind (loopB · 0) = some b0) (hb1 : fn.body.bind (loopB · 1) = some b1)
  (h0 : LoopOK P E b0 (Λ 0)) (h1 : LoopOK P E b1 (Λ 1)) : LamOK P E Λ c 0 := by
 rw [hc] at hn hb0 hb1
 simp only [Option.map_some, Option.some.injEq] at hn
 simp only [Option.bind_some] at hb0 hb1
 refine lamAll c 0 fun i b' hb' => ?_
 have hlt := loopB_lt hb'
 have hi : i = 0 ∨ i = 1 := by omega
 rcases hi with rfl | rfl
 ·rw [hb0] at hb'
  cases hb'
  exact h0
 ·rw [hb1] at hb'
  cases hb'
  exact h1
theorem flat {P : Program} {C : Cx} (hC : CxOK P C) {f : FuncId} {fn : Func} {ps : List PT} {rs : List Ty} {fr : denP ps -> Fr (denL rs)} (x0 : denP ps) (hf : P.funcs[f]? = some fn)
  (hrun : ∀ xs, runFn P C lam0 fn ps rs xs = some (fr xs)) (g : denP ps -> denL rs) (ok : denP ps -> List Prop)
  (hg : ∀ w F xs vs, RepPs P w F ps xs vs -> conj (ok xs) -> (fr xs).ok /\ (fr xs).get = g xs) : SoundCt P f ⟨ps, rs, g, ok⟩ :=
 conv (fn_sound hC x0 hf (fun c _E _ => lam0_ok c 0) hrun) g ok hg
def hanK (P : Program) (Γ : FuncId -> Option Ct) (f : FuncId) (fn : Func) (L : LS) (p : Pt) (F : L.X -> Fr p.Out) (_d : Nat) (g : FuncId) (args : List AV) (s : St) : Option Tr :=
 if g = f /\ args.length <= fn.ntmps /\ p.n = fn.ntmps then
  match L.ext Γ ⟨fn.ntmps, fun i => args.getD i .dead, s.mem, s.at⟩ with
  | some (x, n) => match endK P fn.results.toList s.n (p.toTr (F x)) with
   | some t => some (needL n t)
   | none => none
  | none => none
 else none
theorem hanK_ok {P : Program} {C : Cx} (hC : CxOK P C) {f : FuncId} {fn : Func} {c : Code} (hf : P.funcs[f]? = some fn) (hb : fn.body = some c) (hn : (fn.name == "runtime.NumGoroutine") = false) {L : LS} (hL : L.low = true) {p : Pt} {F : L.X -> Fr p.Out} (h : Does P c L p F) :
  InlOK P (hanK P C.Γ f fn L p F) := by
 intro d g args s t ht
 unfold hanK at ht
 split at ht <;> try (cases ht; done)
 rename_i hcond
 obtain ⟨rfl, hlen0, hpn⟩ := hcond
 split at ht <;> try (cases ht; done)
 rename_i x n hx
 split at ht <;> try (cases ht; done)
 rename_i t1 ht1
 simp only [Option.some.injEq] at ht
 subst ht
 refine ⟨enters hf hb hn, fun E a w F0 γ vs Q hi hr hq => calls_of_wp hf hb ?_⟩
 have hlen : vs.length = args.length := hr.length
 have hstart := startK (n := fn.ntmps) hi hr (by omega)
 obtain ⟨hq1, hq2⟩ := needL_sat _ hq
 have hi' := ext_sound hC.ct hL hstart hx hq1
 have hsat := endK_sat ht1 hq2
 have hsz : (vs.toArray).size = vs.length := by simp
 rw [hsz]
 have hi2 : I P ⟨E.w0, E.F0, tmA a E, [], E.B, E.hB⟩ (L.tpl p.n x) { tmps := vs.toArray ++ Array.replicate (fn.ntmps - vs.length) undef, defers := [] } w := by
  rw [hpn]
  exact hi'
 refine wp_mono (h _ _ w x _ hi2 (p.toTr_sat hsat)) ?_
 rintro e a' w' ⟨r, hr', hm⟩
 have hfin : ∀ s' : St, I P ⟨E.w0, E.F0, tmA a E, [], E.B, E.hB⟩ s' a' w' -> (∃ vs ns, resAs P s' fn.results.toList = some (vs, ns) /\ conj ns /\ Q (.val (resV vs)) (s'.back s.n)) -> a'.defers = [] /\ ∃ v, (results fn a'.tmps).run P w' = .ok v w' /\ EndK P E a Q (.returned v) w' := by
  rintro s' ⟨F', γ', hi'⟩ ⟨vs, ns, hres, hns, hqv⟩
  obtain ⟨us, hran, hreps⟩ := res_run hi' hres hns
  exact ⟨hi'.df, _, results_run hran, _, _, F', γ', hqv, inv_back hi hi', _, rfl, resV_rep hreps⟩
 cases r with
 | next m =>
  obtain ⟨rfl, hi3⟩ := hm
  exact hfin _ hi3 hr'
 | out y => exact hr'.elim
 | back z =>
  obtain ⟨rfl, hi3⟩ := hm
  exact hfin _ hi3 hr'
 | pan v =>
  obtain ⟨rfl, s', hn', hi3⟩ := hm
  have hdead : I P ⟨E.w0, E.F0, tmA a E, [], E.B, E.hB⟩ ⟨p.n, fun _ => .dead, fun _ => none, fun _ => .dead⟩ a' w' := by
   have := ext_sound hC.ct (L := ⟨[], []⟩) rfl hi3 (x := ((), ())) (n := []) rfl trivial
   rw [hn'] at this
   obtain ⟨F', γ', h⟩ := this
   exact ⟨F', γ', h.n, h.df, h.step, h.mem, fun t => trivial, fun t g want v ht => (nomatch ht), fun t => trivial⟩
  obtain ⟨F', γ', h4⟩ := hdead
  exact ⟨h4.df, .panic v, _, F', γ', hr', inv_back hi h4, rfl⟩
def orK (K K' : Nat -> FuncId -> List AV -> St -> Option Tr) (d : Nat) (f : FuncId) (args : List AV) (s : St) : Option Tr :=
 match K d f args s with
 | some t => some t
 | none => K' d f args s
theorem orK_ok {P : Program} {K K' : Nat -> FuncId -> List AV -> St -> Option Tr} (h : InlOK P K) (h' : InlOK P K') : InlOK P (orK K K') := by
 intro d f args s t ht
 unfold orK at ht
 split at ht
 ·rename_i t' hk
  cases ht
  exact h d f args s _ hk
 ·exact h' d f args s t ht
end Go.Ab

namespace Go.Ab
open Go Go.RowKit
structure TolOK (P : Program) (g : FuncId) (T : TypeId) (k : IntKind) : Prop where
 enter : ∀ args w, (callFunc g args).run P w = .ok (.enter g args) w
 idle : ∀ (p : Addr) (w : World), CallsD P g #[.pointer (some p)] .returning w fun e u' w' => (∃ v, e = .returned v) /\ u' = .returning /\ w' = w
 told : ∀ (b : Nat) (ty : TypeId) (old : Value) (n : Int) (w : World), w.heap[b]? = some (.cells #[old] ty (0, 0)) ->
  CallsD P g #[.pointer (some ⟨b, 0, none⟩)] (.panicking [{ v := .iface T (.int k n), recovered := false }]) w fun e u' w' =>
   (∃ v, e = .returned v) /\ u' = .panicking [{ v := .iface T (.int k n), recovered := true }] /\ w' = w.setRow b #[.int k n]
def toldS (T : TypeId) (k : IntKind) (p : PV) (s : St) : Option St :=
 match s.gs 0 with
 | .c (.ptr id 0) => match s.mem id with
  | some (.box e [_]) => if p.ty = T /\ p.k = k then some ⟨s.n, s.sl, upd s.mem id (.box e [.int k p.n]), s.gs⟩ else none
  | _ => none
 | _ => none
def frD (P : Program) (T : TypeId) (k : IntKind) (rv : List ResultVar) (rs : List Ty) : Tr -> Option (Fr (denL rs))
 | .leaf .ret s => endA P rv rs s
 | .leaf .normal s => endA P rv rs s
 | .leaf (.panic p) s => match toldS T k p s with
  | some s' => match endA P rv rs s' with
   | some f => some (.need (inR k p.n) f)
   | none => none
  | none => none
 | .leaf _ _ => none
 | .br b x y => match frD P T k rv rs x, frD P T k rv rs y with
  | some x', some y' => some (.br b x' y')
  | _, _ => none
 | .need p x => match frD P T k rv rs x with
  | some x' => some (.need p x')
  | none => none
 | .two p x y => match frD P T k rv rs x, frD P T k rv rs y with
  | some x', some y' => some (.need (p -> x'.ok /\ x'.get = y'.get) y')
  | _, _ => none
def runDf (P : Program) (C : Cx) (Λ : Nat -> St -> Option Tr) (g : FuncId) (T : TypeId) (k : IntKind) (fn : Func) (ps : List PT) (rs : List Ty) (xs : denP ps) : Option (Fr (denL rs)) :=
 match fn.body with
 | some (.seq A (.seq (.region _ ops false) c)) => if (fn.name == "runtime.NumGoroutine") = false /\ ps.length <= fn.ntmps then
   match ops.toList with
   | [⟨none, .defer ⟨.value (.func f), args, _⟩, _, _, _, none⟩] => match args.toList with
    | [.tmp tp] => if f = g then
      match codeA P C 0 Λ A 0 (startA fn.ntmps (encPs ps xs)) with
      | some (.leaf .normal s1) => match s1.sl tp with
       | .c (.ptr id 0) => match codeA P C 0 Λ c (loopsIn A) ⟨s1.n, s1.sl, s1.mem, fun t => if t = 0 then .c (.ptr id 0) else .dead⟩ with
        | some t => frD P T k fn.results.toList rs t
        | none => none
       | _ => none
      | _ => none
     else none
    | _ => none
   | _ => none
  else none
 | _ => none
section
variable {P : Program} {w w' : World} {E : Env} {F F' : Nat -> Prop} {γ γ' : Nat -> Value}
theorem endA_get {rv : List ResultVar} {rs : List Ty} {s : St} {f : Fr (denL rs)} (h : endA P rv rs s = some f) (hok : f.ok) : ∃ n, endA P rv rs s = some (Fr.needL n (.val f.get)) /\ conj n := by
 have h0 := h
 unfold endA at h
 split at h <;> try (cases h; done)
 split at h <;> try (cases h; done)
 split at h <;> try (cases h; done)
 rename_i y _
 simp only [Option.some.injEq] at h
 subst h
 refine ⟨_, ?_, (needL_ok _ hok).1⟩
 rw [needL_get]
 exact h0
theorem frD_sat {T : TypeId} {k : IntKind} {rv : List ResultVar} {rs : List Ty} : {t : Tr} -> {f : Fr (denL rs)} -> frD P T k rv rs t = some f -> f.ok -> t.sat fun e s => match e with
  | .ret => ∃ n, endA P rv rs s = some (Fr.needL n (.val f.get)) /\ conj n
  | .normal => ∃ n, endA P rv rs s = some (Fr.needL n (.val f.get)) /\ conj n
  | .panic p => ∃ s' n, toldS T k p s = some s' /\ inR k p.n /\ endA P rv rs s' = some (Fr.needL n (.val f.get)) /\ conj n
  | _ => False
 | .leaf e s, f, h, hok => by
  cases e with
  | exit i => simp [frD] at h
  | val i => simp [frD] at h
  | jump i => simp [frD] at h
  | normal => exact endA_get h hok
  | ret => exact endA_get h hok
  | panic p =>
   simp only [frD] at h
   split at h <;> try (cases h; done)
   rename_i s' hs'
   split at h <;> try (cases h; done)
   rename_i f' hf'
   simp only [Option.some.injEq] at h
   subst h
   obtain ⟨n, h1, h2⟩ := endA_get hf' hok.2
   exact ⟨s', n, hs', hok.1, h1, h2⟩
 | .br b x y, f, h, hok => by
  simp only [frD] at h
  split at h <;> try (cases h; done)
  rename_i x' y' hx hy
  simp only [Option.some.injEq] at h
  subst h
  refine ⟨fun hb => ?_, fun hb => ?_⟩
  ·have := frD_sat hx (hok.1 hb)
   simpa only [Fr.get, hb, if_true] using this
  ·have := frD_sat hy (hok.2 hb)
   simpa only [Fr.get, hb, Bool.false_eq_true, if_false] using this
 | .need p x, f, h, hok => by
  simp only [frD] at h
  split at h <;> try (cases h; done)
  rename_i x' hx
  simp only [Option.some.injEq] at h
  subst h
  have := frD_sat hx hok.2
  exact ⟨hok.1, this⟩
 | .two p x y, f, h, hok => by
  simp only [frD] at h
  split at h <;> try (cases h; done)
  rename_i x' y' hx hy
  simp only [Option.some.injEq] at h
  subst h
  have h2 := frD_sat hy hok.2
  refine ⟨fun hp => ?_, h2⟩
  have := frD_sat hx (hok.1 hp).1
  rwa [(hok.1 hp).2] at this
theorem endA_post {fn : Func} {rs : List Ty} {s : St} {a : Act} {y : denL rs} {n : List Prop} (hi : InvG P E s a w [] F γ) (hEB : E.B = E.w0.heap.size) (h : endA P fn.results.toList rs s = some (Fr.needL n (.val y))) (hn : conj n) :
  ∃ v, (results fn a.tmps).run P w = .ok v w /\ Post E.w0 E.F0 rs y (.returned v) w := by
 unfold endA at h
 split at h <;> try (cases h; done)
 rename_i avs n' hres
 split at h <;> try (cases h; done)
 rename_i axs u hrs
 split at h <;> try (cases h; done)
 rename_i y' hdec
 simp only [Option.some.injEq] at h
 obtain ⟨hn', hy⟩ := needL_inj h hn
 subst hy
 obtain ⟨us, hran, hreps⟩ := res_run hi hres hn'
 obtain ⟨F'', hs, hm', _, hxs⟩ := rsAs_sound hi.mem (inv_bd hi) (SubM.of fun _ _ h => h) hrs hreps
 obtain ⟨γ0, h0⟩ := hi.step
 rw [hEB] at hs h0
 have hst := h0.trans hs
 exact ⟨_, results_run hran, _, F'', rfl, ⟨hst.os, hst.tape, hst.output, hst.size, hst.old⟩, hst.hF, fun b hb => ⟨hst.new b hb, hst.bd b hb⟩, repR_of (decVs_rep hdec hxs)⟩
theorem one_of_size {arr : Array Value} (h : arr.size = 1) : ∃ v, arr = #[v] := by
 refine ⟨arr[0]'(by omega), ?_⟩
 apply Array.ext
 ·simp [h]
 ·intro i h1 h2
  have : i = 0 := by omega
  subst this
  rfl
theorem told_inv {T : TypeId} {k : IntKind} {p : PV} {s s' : St} {a : Act} (hi : InvG P E s a w [] F γ) (h : toldS T k p s = some s') (hr : inR k p.n) :
  p.ty = T /\ p.k = k /\ ∃ b ty old, E.G 0 = .pointer (some ⟨b, 0, none⟩) /\ w.heap[b]? = some (.cells #[old] ty (0, 0)) /\ InvG P E s' a (w.setRow b #[.int k p.n]) [] F γ := by
 unfold toldS at h
 split at h <;> try (cases h; done)
 rename_i id hgs
 split at h <;> try (cases h; done)
 rename_i e c0 hM
 split at h <;> try (cases h; done)
 rename_i hp
 simp only [Option.some.injEq] at h
 subst h
 have hg := hi.gh 0
 rw [hgs] at hg
 obtain ⟨b, arr, e1, e2, e3, e4, e5, e6, e7⟩ := box_at hi.mem hM hg.2
 obtain ⟨old, rfl⟩ := one_of_size (by simpa using e6)
 have hov : overlay #[old] 0 [.int k p.n] = #[.int k p.n] := by simp [overlay]
 obtain ⟨s1, s2⟩ := set_box (off := 0) (cs' := [.int k p.n]) (vs := [.int k p.n]) hi.mem (inv_bd hi) hM e1 e3 e4 e5 (by simp) rfl ⟨⟨.int k p.n, by rw [hov]; rfl, rfl, rfl, hr⟩, trivial⟩
 rw [hov] at s1 s2
 refine ⟨hp.1, hp.2, b, e, old, e2, e3, ⟨hi.n, hi.df, ?_, s2, fun t => (hi.sl t).mono s1.hF s1.hw s1.hR, hi.hg, fun t => s1.repA (hi.gh t)⟩⟩
 obtain ⟨γ0, h0⟩ := hi.step
 exact ⟨γ0, h0.trans s1⟩
theorem df_sound {C : Cx} (hC : CxOK P C) {Λ : Nat -> St -> Option Tr} {f g : FuncId} {T : TypeId} {k : IntKind} {fn : Func} {ps : List PT} {rs : List Ty} {fr : denP ps -> Fr (denL rs)} (x0 : denP ps)
  (hf : P.funcs[f]? = some fn) (hT : TolOK P g T k) (hΛ : ∀ c E, fn.body = some c -> LamOK P E Λ c 0) (hrun : ∀ xs, runDf P C Λ g T k fn ps rs xs = some (fr xs)) : SoundCt P f ⟨ps, rs, fun xs => (fr xs).get, fun xs => [(fr xs).ok]⟩ := by
 have h0 := hrun x0
 unfold runDf at h0
 split at h0 <;> try (cases h0; done)
 rename_i A rid ops c hb
 split at h0 <;> try (cases h0; done)
 rename_i hc
 refine ⟨enters hf hb hc.1, fun w F xs vs hbd hr hok => calls_of_wp_defers hf hb ?_⟩
 have hr' := hrun xs
 unfold runDf at hr'
 simp only [hb, hc, and_self, if_true] at hr'
 split at hr' <;> try (cases hr'; done)
 rename_i f0 args ats ty pos aft hops
 split at hr' <;> try (cases hr'; done)
 rename_i tp hargs
 split at hr' <;> try (cases hr'; done)
 rename_i hfg
 subst hfg
 split at hr' <;> try (cases hr'; done)
 rename_i s1 ht1
 split at hr' <;> try (cases hr'; done)
 rename_i id hsl
 split at hr' <;> try (cases hr'; done)
 rename_i t ht2
 have hlam := fun E => hΛ _ E hb
 have hlen : vs.length = ps.length := repPs_len hr
 have hstart := start_inv (D := []) (n := fn.ntmps) hbd (fun R => encPs_rep (R := R) hr) (by omega)
 have hsz : (vs.toArray).size = vs.length := by simp
 rw [hsz]
 refine wp_seq (wp_mono (codeA_sound hC A 0 (hlam _).1 ht1 (Q := fun e s => e = .normal /\ s = s1) ⟨rfl, rfl⟩ hstart) ?_)
 rintro e a1 w1 ⟨xe, s, rfl, ⟨F1, γ1, hi⟩, rfl, rfl⟩
 obtain ⟨ol⟩ := ops
 simp only at hops
 subst hops
 have hv0 := inv_rep hi tp
 rw [hsl] at hv0
 obtain ⟨_, b0, hR0, hv0⟩ := hv0
 refine wp_seq (wp_region ?_)
 have hargs' : args = #[.tmp tp] := by
  obtain ⟨l⟩ := args
  simp only at hargs
  rw [hargs]
 subst hargs'
 have hev : a1.eval (.tmp tp) = .pointer (some ⟨b0, 0, none⟩) := hv0
 have hexec : (execOp a1.eval ⟨none, .defer ⟨.value (.func f0), #[.tmp tp], ats⟩, ty, pos, aft, none⟩).run P w1 = .ok (.defer { target := .fn (.func f0) #[], args := #[.pointer (some ⟨b0, 0, none⟩)] }) w1 := by
  have hef : a1.eval (.func f0) = .func (.func f0) #[] #[] := rfl
  simp [execOp, resolve, hev, hef, Deferred.ofValue]
 have hrange : List.range (#[(⟨none, .defer ⟨.value (.func f0), #[.tmp tp], ats⟩, ty, pos, aft, none⟩ : Oper)] : Array Oper).size = [0] := rfl
 rw [hrange]
 show wpOps P _ _ [0] a1 w1
 unfold wpOps
 simp only [List.getElem?_toArray, List.getElem?_cons_zero]
 have hw : Region.wanted (⟨none, .defer ⟨.value (.func f0), #[.tmp tp], ats⟩, ty, pos, aft, none⟩ : Oper) (yielded #[(⟨none, .defer ⟨.value (.func f0), #[.tmp tp], ats⟩, ty, pos, aft, none⟩ : Oper)] a1.tmps) = true := rfl
 rw [if_pos hw]
 refine .inl ?_
 unfold Oper.wp
 rw [hexec]
 rw [Oper.upon_defer]
 simp only [wpOps]
 show Code.wp P c (bodyPostD P fn (Post w F rs (fr xs).get)) { a1 with defers := { target := .fn (.func f0) #[], args := #[.pointer (some ⟨b0, 0, none⟩)] } :: a1.defers } w1
 have hi' : InvG P ⟨w, F, fun _ => .pointer (some ⟨b0, 0, none⟩), [{ target := .fn (.func f0) #[], args := #[.pointer (some ⟨b0, 0, none⟩)] }], w.heap.size, Nat.le_refl _⟩ ⟨s.n, s.sl, s.mem, fun t => if t = 0 then .c (.ptr id 0) else .dead⟩ { a1 with defers := { target := .fn (.func f0) #[], args := #[.pointer (some ⟨b0, 0, none⟩)] } :: a1.defers } w1 [] F1 γ1 := by
  refine ⟨hi.n, ?_, hi.step, hi.mem, hi.sl, hi.hg, fun t => ?_⟩
  ·show _ :: a1.defers = [_]
   rw [hi.df]
  ·show RepA P w1 F1 _ (if t = 0 then .c (.ptr id 0) else .dead) _
   split
   ·exact ⟨rfl, b0, hR0, rfl⟩
   ·trivial
 have hwp := codeA_sound hC c (loopsIn A) (by have := (hlam ⟨w, F, fun _ => .pointer (some ⟨b0, 0, none⟩), [{ target := .fn (.func f0) #[], args := #[.pointer (some ⟨b0, 0, none⟩)] }], w.heap.size, Nat.le_refl _⟩).2.2; simpa [loopsIn] using this) ht2 (frD_sat hr' hok) ⟨F1, γ1, hi'⟩
 refine wp_mono hwp ?_
 rintro e a2 w2 ⟨xe, s2, rfl, ⟨F2, γ2, hi2⟩, hx⟩
 have hinv : ∀ W, (invoke (.fn (.func f0) #[]) #[.pointer (some ⟨b0, 0, none⟩)]).run P W = .ok (.enter f0 #[.pointer (some ⟨b0, 0, none⟩)]) W := fun W => by
  have := hT.enter #[.pointer (some ⟨b0, 0, none⟩)] W
  simp [invoke, this]
 have hfin : (∃ n, endA P fn.results.toList rs s2 = some (Fr.needL n (.val (fr xs).get)) /\ conj n) -> Leaves P fn a2.tmps (Post w F rs (fr xs).get) a2.defers .returning w2 := by
  rintro ⟨n, hend, hn⟩
  rw [hi2.df]
  refine leaves_cons (by simp) (hinv w2) ((hT.idle _ w2).mono ?_)
  rintro e u' w' ⟨⟨v, rfl⟩, rfl, rfl⟩
  exact endA_post hi2 rfl hend hn
 cases xe with
 | normal => exact hfin hx
 | ret => exact hfin hx
 | exit _ => exact hx.elim
 | val _ => exact hx.elim
 | jump _ => exact hx.elim
 | panic p =>
  obtain ⟨s', n, hs', hin, hend, hn⟩ := hx
  obtain ⟨hty, hk, b, tyb, old, hG, hheap, hi3⟩ := told_inv hi2 hs' hin
  have hG' : (Value.pointer (some ⟨b0, 0, none⟩)) = .pointer (some ⟨b, 0, none⟩) := hG
  simp only [Value.pointer.injEq, Option.some.injEq, Addr.mk.injEq, and_true] at hG'
  subst hG'
  show Leaves P fn a2.tmps _ a2.defers (.panicking [{ v := .iface p.ty (.int p.k p.n), recovered := false }]) w2
  rw [hi2.df, hty, hk]
  refine leaves_cons (by simp) (hinv w2) ((hT.told b0 tyb old p.n w2 hheap).mono ?_)
  rintro e u' w' ⟨⟨v, rfl⟩, rfl, rfl⟩
  exact endA_post hi3 rfl hend hn
end
end Go.Ab

namespace Go.Ab
open Go Go.RowKit Go.WideShapes Go.ChangeShapes
def okFs (r : TypeId -> Ty -> Bool) : List Field -> Ty -> Nat -> Bool
 | [], .unit, _ => true
 | f :: fs, .pair a b, off => (f.offset == off) && (r f.type a && okFs r fs b (off + a.size))
 | _, _, _ => false
def okAr (r : Ty -> Bool) : Nat -> Ty -> Bool
 | 0, .unit => true
 | k + 1, .pair a b => r a && okAr r k b
 | _, _ => false
def okTy (P : Program) : Nat -> TypeId -> Ty -> Bool
 | 0, _, _ => false
 | n + 1, t, ty => (P.cellsOf t == ty.size) && match P.underlying t, ty with
  | some .bool, .bool => true
  | some (.int k), .int k' => decide (k = k')
  | some .string, .str => true
  | some (.slice e), .sl te => decide (0 < te.size) && okTy P n e te
  | some (.struct fs), ty => ty.wide && okFs (okTy P n) fs.toList ty 0
  | some (.array k e), ty => ty.wide && okAr (okTy P n e) k ty
  | _, _ => false
section
variable {H : Type} {enc : TypeId × Value -> H} {P : Program} {w : World} {sp : Nat -> Bool} {held : Bool}
theorem add_add (a : Addr) (k j : Nat) : (a.add k).add j = a.add (k + j) := by
 unfold Addr.add
 by_cases hk : k = 0
 ·subst hk
  simp
 ·by_cases hj : j = 0
  ·subst hj
   simp [hk]
  ·have : ¬ k + j = 0 := by omega
   simp [hk, hj, Nat.add_assoc]
theorem list_of {α : Type} {Q : Nat -> α -> Prop} : (n : Nat) -> (∀ i, i < n -> ∃ y, Q i y) -> ∃ l : List α, l.length = n /\ ∀ (i : Nat) (y : α), l[i]? = some y -> Q i y
 | 0, _ => ⟨[], rfl, fun i y h => by simp at h⟩
 | n + 1, h => by
  obtain ⟨l, hl, hq⟩ := list_of n (fun i hi => h i (by omega))
  obtain ⟨y, hy⟩ := h n (by omega)
  refine ⟨l ++ [y], by simp [hl], fun i z hz => ?_⟩
  rcases Nat.lt_or_ge i l.length with hi | hi
  ·rw [List.getElem?_append_left hi] at hz
   exact hq i z hz
  ·rw [List.getElem?_append_right hi] at hz
   have : i - l.length = 0 := by
    rcases Nat.eq_zero_or_pos (i - l.length) with h0 | h0
    ·exact h0
    ·rw [List.getElem?_eq_none (by simp; omega)] at hz
     cases hz
   rw [this] at hz
   simp only [List.getElem?_cons_zero, Option.some.injEq] at hz
   subst hz
   have : i = n := by omega
   subst this
   exact hy
theorem cells_get {a : Addr} {n : Nat} {cs : List Value} (h : w.cells? 0 a n = some cs) : cs.length = n /\ ∀ j, j < n -> w.cell? (a.add j) = cs[j]? := by
 unfold World.cells? at h
 rw [if_pos (Nat.zero_le _)] at h
 refine ⟨by simpa using mapM_some_length h, fun j hj => ?_⟩
 exact mapM_some_get h j j (by simp [hj])
theorem cell_lt {a : Addr} {v : Value} (h : w.cell? a = some v) : a.block < w.heap.size := by
 unfold World.cell? at h
 split at h
 ·rename_i hb
  exact (Array.getElem?_eq_some_iff.1 hb).1
 ·cases h
theorem wf_inR {k : IntKind} {n : Int} (h : (Lit.int k n).wf = true) : inR k n := by
 simpa [Lit.wf, inR] using h
abbrev oldF (w : World) : Nat -> Prop := fun b => b < w.heap.size
theorem okFs_rep {n fuel : Nat} (ih : ∀ (t : TypeId) (ty : Ty) (fuel : Nat) (cs : List Value) (x : DataW H × List MemPlace), okTy P n t ty = true -> DataW.trod enc P w 0 sp held fuel t cs = some x -> cs.length = ty.size /\ ∃ y, RepT w (oldF w) ty y (fun j u => cs[j]? = some u))
  {cs : List Value} : (l : List Field) -> (ty : Ty) -> (off : Nat) -> okFs (okTy P n) l ty off = true -> (∀ f ∈ l, ∃ x, DataW.trod enc P w 0 sp held fuel f.type ((cs.drop f.offset).take (P.cellsOf f.type)) = some x) -> ∃ y, RepT w (oldF w) ty y (fun j u => cs[off + j]? = some u)
 | [], .unit, _, _, _ => ⟨(), trivial⟩
 | f :: fs, .pair a b, off, h, hx => by
  simp only [okFs, Bool.and_eq_true, beq_iff_eq] at h
  obtain ⟨h1, h2, h3⟩ := h
  obtain ⟨x, hx1⟩ := hx f (by simp)
  obtain ⟨hl, y, hy⟩ := ih _ _ _ _ _ h2 hx1
  obtain ⟨y', hy'⟩ := okFs_rep ih fs b (off + a.size) h3 (fun g hg => hx g (by simp [hg]))
  refine ⟨(y, y'), RepT.mono (fun _ h => h) (fun _ _ => rfl) (fun j u hj hu => ?_) hy, RepT.mono (fun _ h => h) (fun _ _ => rfl) (fun j u hj hu => ?_) hy'⟩
  ·rw [List.getElem?_take] at hu
   split at hu
   ·rw [List.getElem?_drop, h1] at hu
    exact hu
   ·cases hu
  ·rw [Nat.add_assoc] at hu
   exact hu
 | [], .int _, _, h, _ => by simp [okFs] at h
 | [], .bool, _, h, _ => by simp [okFs] at h
 | [], .str, _, h, _ => by simp [okFs] at h
 | [], .sl _, _, h, _ => by simp [okFs] at h
 | [], .pair _ _, _, h, _ => by simp [okFs] at h
 | [], .fm _, _, h, _ => by simp [okFs] at h
 | _ :: _, .fm _, _, h, _ => by simp [okFs] at h
 | _ :: _, .int _, _, h, _ => by simp [okFs] at h
 | _ :: _, .bool, _, h, _ => by simp [okFs] at h
 | _ :: _, .str, _, h, _ => by simp [okFs] at h
 | _ :: _, .sl _, _, h, _ => by simp [okFs] at h
 | _ :: _, .unit, _, h, _ => by simp [okFs] at h
theorem okAr_rep {n fuel : Nat} {e : TypeId} (ih : ∀ (t : TypeId) (ty : Ty) (fuel : Nat) (cs : List Value) (x : DataW H × List MemPlace), okTy P n t ty = true -> DataW.trod enc P w 0 sp held fuel t cs = some x -> cs.length = ty.size /\ ∃ y, RepT w (oldF w) ty y (fun j u => cs[j]? = some u))
  {cs : List Value} : (k : Nat) -> (ty : Ty) -> (i0 : Nat) -> okAr (okTy P n e) k ty = true -> (∀ i, i < k -> ∃ x, DataW.trod enc P w 0 sp held fuel e ((cs.drop ((i0 + i) * P.cellsOf e)).take (P.cellsOf e)) = some x) -> ∃ y, RepT w (oldF w) ty y (fun j u => cs[i0 * P.cellsOf e + j]? = some u)
 | 0, .unit, _, _, _ => ⟨(), trivial⟩
 | k + 1, .pair a b, i0, h, hx => by
  simp only [okAr, Bool.and_eq_true] at h
  obtain ⟨h2, h3⟩ := h
  obtain ⟨x, hx1⟩ := hx 0 (by omega)
  obtain ⟨hl, y, hy⟩ := ih _ _ _ _ _ h2 hx1
  have hsz : P.cellsOf e = a.size := by
   cases n with
   | zero => simp [okTy] at h2
   | succ n =>
    simp only [okTy, Bool.and_eq_true, beq_iff_eq] at h2
    exact h2.1
  obtain ⟨y', hy'⟩ := okAr_rep ih k b (i0 + 1) h3 (fun i hi => by
   have := hx (i + 1) (by omega)
   rwa [show i0 + 1 + i = i0 + (i + 1) by omega])
  refine ⟨(y, y'), RepT.mono (fun _ h => h) (fun _ _ => rfl) (fun j u hj hu => ?_) hy, RepT.mono (fun _ h => h) (fun _ _ => rfl) (fun j u hj hu => ?_) hy'⟩
  ·rw [List.getElem?_take] at hu
   split at hu
   ·rw [List.getElem?_drop] at hu
    simpa using hu
   ·cases hu
  ·rw [Nat.add_mul, Nat.one_mul, hsz, Nat.add_assoc] at hu
   rw [hsz]
   exact hu
 | 0, .int _, _, h, _ => by simp [okAr] at h
 | 0, .bool, _, h, _ => by simp [okAr] at h
 | 0, .str, _, h, _ => by simp [okAr] at h
 | 0, .sl _, _, h, _ => by simp [okAr] at h
 | 0, .pair _ _, _, h, _ => by simp [okAr] at h
 | 0, .fm _, _, h, _ => by simp [okAr] at h
 | _ + 1, .fm _, _, h, _ => by simp [okAr] at h
 | _ + 1, .int _, _, h, _ => by simp [okAr] at h
 | _ + 1, .bool, _, h, _ => by simp [okAr] at h
 | _ + 1, .str, _, h, _ => by simp [okAr] at h
 | _ + 1, .sl _, _, h, _ => by simp [okAr] at h
 | _ + 1, .unit, _, h, _ => by simp [okAr] at h
theorem trod_arr {t e : TypeId} {k fuel : Nat} {cs : List Value} {x : DataW H × List MemPlace} (ht : P.underlying t = some (.array k e)) (h : DataW.trod enc P w 0 sp held fuel t cs = some x) :
  ∃ n, ∀ i, i < k -> ∃ y, DataW.trod enc P w 0 sp held n e ((cs.drop (i * P.cellsOf e)).take (P.cellsOf e)) = some y := by
 cases fuel with
 | zero => simp [DataW.trod] at h
 | succ n =>
  unfold DataW.trod at h
  rw [ht] at h
  split at h <;> simp_all
  obtain ⟨hl, xs, hp, hd⟩ := h
  refine ⟨n, fun i hi => ?_⟩
  have h1 := mapM_some_get hp i i (by simp [hi])
  have h2 := mapM_some_length hp
  rw [List.getElem?_eq_getElem (by simp at h2; omega)] at h1
  exact ⟨_, _, h1⟩
theorem trod_rep : (n : Nat) -> (t : TypeId) -> (ty : Ty) -> (fuel : Nat) -> (cs : List Value) -> (x : DataW H × List MemPlace) -> okTy P n t ty = true -> DataW.trod enc P w 0 sp held fuel t cs = some x -> cs.length = ty.size /\ ∃ y, RepT w (oldF w) ty y (fun j u => cs[j]? = some u)
 | 0, t, ty, fuel, cs, x, h, _ => by simp [okTy] at h
 | n + 1, t, ty, fuel, cs, x, h, hx => by
  simp only [okTy, Bool.and_eq_true, beq_iff_eq] at h
  obtain ⟨hsz, h⟩ := h
  split at h
  ·rename_i ht
   obtain ⟨b, rfl, _⟩ := DataW.trod_bool ht hx
   exact ⟨rfl, b, rfl⟩
  ·rename_i k k' ht
   have hk : k = k' := by simpa using h
   subst hk
   obtain ⟨m, rfl, _, hw⟩ := DataW.trod_int ht hx
   exact ⟨rfl, m, rfl, wf_inR hw⟩
  ·rename_i ht
   obtain ⟨s, rfl, _, hs⟩ := DataW.trod_string ht hx
   exact ⟨rfl, s, rfl, hs⟩
  ·rename_i e te ht
   simp only [Bool.and_eq_true, decide_eq_true_eq] at h
   obtain ⟨hpos, hte⟩ := h
   have hse : P.cellsOf e = te.size := by
    cases n with
    | zero => simp [okTy] at hte
    | succ n =>
     simp only [okTy, Bool.and_eq_true, beq_iff_eq] at hte
     exact hte.1
   rcases DataW.trod_slice ht hx with ⟨rfl, _⟩ | ⟨a, len, cap, elems, rest, m, rfl, rfl, _, _, h1, h2, hel, hget, _⟩
   ·exact ⟨rfl, [], none, 0, rfl, Nat.le_refl _, by simp [maxLen], fun i y hy => by simp at hy⟩
   ·have hall : ∀ i, i < len -> ∃ y, RepT w (oldF w) te y (fun j u => w.cell? (a.add (i * te.size + j)) = some u) /\ a.block < w.heap.size := fun i hi => by
     have hg := hget i hi
     rw [List.getElem?_eq_getElem (by omega)] at hg
     rw [Option.bind_eq_some_iff] at hg
     obtain ⟨ci, hci, htr⟩ := hg
     rw [hse] at hci
     obtain ⟨hl, y, hy⟩ := trod_rep n e te m ci _ hte htr
     obtain ⟨hcl, hcg⟩ := cells_get hci
     have hc : ∀ j, j < te.size -> w.cell? (a.add (i * te.size + j)) = ci[j]? := fun j hj => by
      rw [← add_add]
      exact hcg j hj
     refine ⟨y, RepT.mono (fun _ h => h) (fun _ _ => rfl) (fun j u hj hu => (hc j hj).trans hu) hy, ?_⟩
     have h0 := hc 0 hpos
     rw [List.getElem?_eq_getElem (by omega)] at h0
     have hlt := cell_lt h0
     have : (a.add (i * te.size + 0)).block = a.block := by unfold Addr.add; split <;> rfl
     rwa [this] at hlt
    obtain ⟨l, hl, hq⟩ := list_of (Q := fun i (y : te.den) => RepT w (oldF w) te y (fun j u => w.cell? (a.add (i * te.size + j)) = some u) /\ a.block < w.heap.size) len hall
    subst hl
    exact ⟨rfl, l, some a, cap, rfl, h1, h2, fun i y hy => ⟨a, rfl, (hq i y hy).2, (hq i y hy).1⟩⟩
  ·rename_i ty' fs ht
   simp only [Bool.and_eq_true] at h
   obtain ⟨xs, m, rfl, rfl, hl, hxl, hget⟩ := DataW.trod_struct ht hx
   refine ⟨by omega, ?_⟩
   have := okFs_rep (fuel := m) (fun t ty fuel cs x => trod_rep n t ty fuel cs x) (cs := cs) fs.toList _ 0 h.2 (fun f hf => by
    obtain ⟨i, hi⟩ := List.mem_iff_getElem?.1 hf
    have hi' : fs[i]? = some f := by simpa using hi
    have hlt : i < fs.size := (Array.getElem?_eq_some_iff.1 hi').1
    have hg := hget i f hi'
    rw [List.getElem?_eq_getElem (by omega)] at hg
    exact ⟨_, hg⟩)
   simpa using this
  ·rename_i ty' k e ht
   simp only [Bool.and_eq_true] at h
   obtain ⟨m, hm⟩ := trod_arr ht hx
   have hl : cs.length = P.cellsOf t := by
    cases fuel with
    | zero => simp [DataW.trod] at hx
    | succ m =>
     unfold DataW.trod at hx
     rw [ht] at hx
     split at hx <;> simp_all
   refine ⟨by omega, ?_⟩
   have := okAr_rep (fuel := m) (fun t ty fuel cs x => trod_rep n t ty fuel cs x) (cs := cs) k _ 0 h.2 (fun i hi => by simpa using hm i hi)
   simpa using this
  ·cases h
theorem read_rep {n : Nat} {t : TypeId} {ty : Ty} {v : Value} {d : DataW H} {ps : List MemPlace} {r : Reach} {base : Nat} (h : okTy P n t ty = true) (hv : Value.okWide P w r base t v) (hd : DataW.Trod enc P w 0 sp held t v d ps) : ∃ y, RepV w (oldF w) ty y v := by
 obtain ⟨fuel, hf⟩ := hd
 obtain ⟨hl, y, hy⟩ := trod_rep n t ty fuel _ _ h hf
 refine ⟨y, by simpa using hl, ?_, RepT.mono (fun _ h => h) (fun _ _ => rfl) (fun j u hj hu => by simpa using hu) hy⟩
 cases n with
 | zero => simp [okTy] at h
 | succ n =>
  simp only [okTy, Bool.and_eq_true] at h
  replace h := h.2
  unfold Value.okWide at hv
  split at h
  ·rename_i ht
   rw [ht] at hv
   simp only [Cell.okWide, ht, Cell.ok] at hv
   refine ⟨fun hw => (by cases hw), fun ⟨cs, hc⟩ => ?_⟩
   subst hc
   exact hv.elim
  ·rename_i k k' ht
   rw [ht] at hv
   simp only [Cell.okWide, ht, Cell.ok] at hv
   refine ⟨fun hw => (by cases hw), fun ⟨cs, hc⟩ => ?_⟩
   subst hc
   exact hv.elim
  ·rename_i ht
   rw [ht] at hv
   simp only [Cell.okWide, ht, Cell.ok] at hv
   refine ⟨fun hw => (by cases hw), fun ⟨cs, hc⟩ => ?_⟩
   subst hc
   exact hv.elim
  ·rename_i e te ht
   rw [ht] at hv
   simp only [Cell.okWide, ht, Cell.ok] at hv
   refine ⟨fun hw => (by cases hw), fun ⟨cs, hc⟩ => ?_⟩
   subst hc
   exact hv.elim
  ·rename_i ty' fs ht
   rw [ht] at hv
   simp only [Bool.and_eq_true] at h
   obtain ⟨cs, hc, _⟩ := hv
   exact ⟨fun _ => ⟨cs, hc⟩, fun _ => h.1⟩
  ·rename_i ty' k e ht
   rw [ht] at hv
   simp only [Bool.and_eq_true] at h
   obtain ⟨cs, hc, _⟩ := hv
   exact ⟨fun _ => ⟨cs, hc⟩, fun _ => h.1⟩
  ·cases h
def okTys (P : Program) : List TypeId -> List PT -> Bool
 | [], [] => true
 | t :: ts, .d ty :: ps => okTy P 12 t ty && okTys P ts ps
 | _, _ => false
theorem reads_rep {r : Reach} {base : Nat} : {ts : List TypeId} -> {ps : List PT} -> {vs : List Value} -> {ds : List (DataW H)} -> {pl : List MemPlace} -> okTys P ts ps = true -> DataW.TrodAll enc P w 0 sp held ts vs ds pl ->
  (∀ (j : Nat) t v, ts[j]? = some t -> vs[j]? = some v -> Value.okWide P w r base t v) -> ∃ xs, RepPs P w (oldF w) ps xs vs
 | [], [], [], [], _, _, _, _ => ⟨(), rfl⟩
 | t :: ts, .d ty :: ps, v :: vs, d :: ds, _, h, ht, hv => by
  simp only [okTys, Bool.and_eq_true] at h
  obtain ⟨p, q, h1, h2, _⟩ := ht
  obtain ⟨y, hy⟩ := read_rep h.1 (hv 0 t v rfl rfl) h1
  obtain ⟨ys, hys⟩ := reads_rep h.2 h2 (fun j t v a b => hv (j + 1) t v a b)
  exact ⟨(y, ys), v, vs, rfl, hy, hys⟩
 | [], _ :: _, _, _, _, h, _, _ => by simp [okTys] at h
 | _ :: _, [], _, _, _, h, _, _ => by simp [okTys] at h
 | _ :: _, .ptr _ :: _, _, _, _, h, _, _ => by simp [okTys] at h
 | _ :: _, .fn _ _ :: _, _, _, _, h, _, _ => by simp [okTys] at h
 | _ :: _, .pf _ _ :: _, _, _, _, h, _, _ => by simp [okTys] at h
 | [], [], _ :: _, _, _, _, h, _ => h.elim
 | [], [], [], _ :: _, _, _, h, _ => h.elim
 | _ :: _, .d _ :: _, [], _, _, _, h, _ => h.elim
 | _ :: _, .d _ :: _, _ :: _, [], _, _, h, _ => h.elim
theorem reads_again (hl : laidOutB P = true) {W' : World} {sp' : Nat -> Bool} : {ts : List TypeId} -> {vs : List Value} -> {ds : List (DataW H)} -> {pl : List MemPlace} -> (ts.all fun t => P.readableRec t && decide (t < P.types.size)) = true ->
  DataW.TrodAll enc P w 0 (fun _ => true) true ts vs ds pl -> (∀ p ∈ pl, w.sameAt W' p) -> (∀ p ∈ pl, sp' p.block = true) -> DataW.TrodAll enc P W' 0 sp' true ts vs ds pl
 | [], [], [], _, _, h, _, _ => h
 | t :: ts, v :: vs, d :: ds, _, hr, h, h1, h2 => by
  simp only [List.all_cons, Bool.and_eq_true, decide_eq_true_eq] at hr
  obtain ⟨p, q, a, b, rfl⟩ := h
  exact ⟨p, q, WideElems.Trod_stays hl hr.1.1 hr.1.2 a (fun x hx => h1 x (by simp [hx])) (fun x hx => h2 x (by simp [hx])), reads_again hl (by simpa using hr.2) b (fun x hx => h1 x (by simp [hx])) (fun x hx => h2 x (by simp [hx])), rfl⟩
 | [], _ :: _, _, _, _, h, _, _ => h.elim
 | [], [], _ :: _, _, _, h, _, _ => h.elim
 | _ :: _, [], _, _, _, h, _, _ => h.elim
 | _ :: _, _ :: _, [], _, _, h, _, _ => h.elim
theorem post_of_below {f : Func} {s : ChangeSpec} {apart fresh handsOn again : Bool} {W W' : World} {args : Array Value} {v : Value} {ds gs : List (DataW H)} {before pa pv : List MemPlace}
  (hW : DataW.Whole enc P f.params.toList s.vars apart W args.toList ds gs before)
  (hres : ∀ (b : Nat) (sp : Nat -> Bool) (hd : Bool), DataW.TrodAll enc P W' b sp hd f.resultTypes.toList (v.resultList f.resultTypes.size) (s.fn H (ds ++ gs)).results [])
  (hargs : ∀ sp : Nat -> Bool, (∀ p ∈ before, sp p.block = true) -> DataW.TrodAll enc P W' 0 sp true f.params.toList args.toList (s.fn H (ds ++ gs)).args pa)
  (hvars : ∀ sp : Nat -> Bool, (∀ p ∈ before, sp p.block = true) -> DataW.TrodVars enc P W' sp s.vars (s.fn H (ds ++ gs)).vars pv)
  (hps : before = pa ++ pv) (hb : Below W.heap.size W W')
  (hok : ∀ (j : Nat) (t : TypeId) (r : Value), f.resultTypes[j]? = some t -> (v.resultList f.resultTypes.size)[j]? = some r -> Value.okWide P W' .any 0 t r) :
  s.post enc P f apart fresh handsOn again W args v W' := by
 have hlt : ∀ p ∈ before, p.block < W.heap.size := fun p hp => hW.lt p hp
 have hold : ∀ p ∈ before, (fun b => decide (b < W.heap.size)) p.block = true := fun p hp => by simpa using hlt p hp
 refine ⟨ds, gs, before, [], pa, pv, hW, hres _ _ _, hargs _ hold, hvars _ hold, World.keptBut_mono (fun p hp => ⟨hp, ?_⟩) (hb.frame (· ∈ before)), fun _ => ?_⟩
 ·rw [hps, List.mem_append] at hp
  exact Or.inr hp
 ·obtain ⟨_, _, _, _, _, hz, hn⟩ := hW
  refine ⟨hok, _, _, ([] ++ pa) ++ pv, ⟨[] ++ pa, pv, trodAll_append (hargs _ (fun _ _ => rfl)) (hres _ _ _), hvars _ (fun _ _ => rfl), rfl, ?_, ?_⟩, ?_⟩
  ·intro b off hp
   have hin : MemPlace.cell b off ∈ before := by rw [hps]; simpa using hp
   rw [hb.frozen (hlt _ hin)]
   exact hz b off hin
  ·intro ha
   have := hn ha
   rw [hps] at this
   simpa using this
  ·intro p hp _
   rw [hps]
   simpa using hp
theorem law_contract {fid : FuncId} {f : Func} {s : ChangeSpec} {ps : List PT} {apart fresh handsOn again : Bool} {tb : TypeId} (hl : laidOutB P = true) (hr : (f.params.toList.all fun t => P.readableRec t && decide (t < P.types.size)) = true) (hty : okTys P f.params.toList ps = true)
  (hvars : s.vars = []) (hrt : f.resultTypes = #[tb]) (htb : P.underlying tb = some .bool) (hs : ∀ ds : List (DataW H), ds.length = f.params.size -> s.fn H ds = { results := [.lit (.bool true)], args := ds })
  (hc : SoundCt P fid ⟨ps, [.bool], fun _ => (true, ()), fun _ => []⟩) (W : World) (base : Nat) (args : Array Value) (ds gs : List (DataW H)) (before : List MemPlace)
  (hval : ∀ (j : Nat) t v, f.params[j]? = some t -> args[j]? = some v -> Value.okWide P W .any base t v)
  (hW : DataW.Whole enc P f.params.toList s.vars apart W args.toList ds gs before) :
  Calls P fid args W fun e W' => ∃ v, e = .returned v /\ s.post enc P f apart fresh handsOn again W args v W' := by
 have hW' := hW
 obtain ⟨p, q, hA, hV, rfl, hfz, hnd⟩ := hW
 rw [hvars] at hV
 obtain ⟨rfl, rfl⟩ := trodVars_none hV
 obtain ⟨xs, hxs⟩ := reads_rep (r := .any) (base := base) hty hA (fun j t v a b => hval j t v (by simpa using a) (by simpa using b))
 have hcalls := hc.2 W (oldF W) xs args.toList (fun b hb => hb) hxs trivial
 refine hcalls.mono ?_
 rintro e W' ⟨v, F', rfl, hbel, _, _, hv⟩
 have hv' : RepA P W' F' (fun _ _ => True) (encV .bool true) v := encV_rep hv
 have hvb : v = .bool true := hv'.2
 subst hvb
 refine ⟨_, rfl, ?_⟩
 have hlen : (ds ++ []).length = f.params.size := by
  have := trodAll_length hA
  simp [this.2]
 have hsf := hs (ds ++ []) hlen
 have hlt : ∀ x ∈ p, x.block < W.heap.size := fun x hx => hW'.lt x (by simp [hx])
 refine post_of_below (pa := p) (pv := []) hW' (fun b sp hd => ?_) (fun sp hsp => ?_) (fun sp _ => ?_) (by simp) hbel (ok_one hrt rfl (okWide_bool_mk htb true))
 ·rw [hrt, hsf]
  exact trodAll_mk1 (shut_bool htb true)
 ·rw [hsf]
  simp only [List.append_nil]
  exact reads_again hl hr hA (fun x hx => hbel.same (hlt x hx)) (fun x hx => hsp x (by simp [hx]))
 ·rw [hvars, hsf]
  rfl
end
end Go.Ab
namespace Go.Proofs.YtplkgghjldndkaaGreat
open Go Go.Ab Go.RowKit Go.Proofs
abbrev i64 : Ty := .int .i64
abbrev u64 : Ty := .int .u64
abbrev ints : Ty := .sl i64
abbrev spanT : Ty := .pair i64 (.pair i64 .unit)
abbrev stepT : Ty := .pair ints (.pair ints .unit)
abbrev riskT : Ty := .pair i64 (.pair i64 (.pair i64 (.pair i64 .unit)))
abbrev coverT : Ty := .pair i64 (.pair i64 (.pair i64 (.pair i64 (.pair i64 .unit))))
abbrev sliceT : Ty := .pair spanT (.pair .bool (.pair riskT (.pair (.sl coverT) (.pair i64 .unit))))
def noΛ : Nat -> St -> Option Tr := fun _ _ => none
def C0 : Cx := ⟨fun _ => none, fun _ => none, fun _ _ _ _ => none⟩
theorem mixed : Tryz.prog.follows .mixedOrders = true := by kernel_rfl
theorem C0_ok : CxOK Tryz.prog C0 := ⟨mixed, fun _ _ h => (nomatch h), fun _ _ h => (nomatch h), fun _ _ _ _ _ h => (nomatch h)⟩
theorem noΛ_ok {E : Env} : (c : Code) -> (k : Nat) -> LamOK Tryz.prog E noΛ c k
 | .seq a b, k => ⟨noΛ_ok a k, noΛ_ok b _⟩
 | .cond _ a b, k => ⟨noΛ_ok a k, noΛ_ok b _⟩
 | .block _ c, k => noΛ_ok c k
 | .loop _, _ => fun _ _ h => nomatch h
 | .skip, _ => trivial
 | .ret, _ => trivial
 | .exit _, _ => trivial
 | .region _ _ _, _ => trivial
 | .label _, _ => trivial
 | .goto _, _ => trivial
 | .scope c, k => noΛ_ok c k
 | .rangeFunc _ _ _ _, _ => trivial
 | .refuse _, _ => trivial
theorem plain {C : Cx} (hC : CxOK Tryz.prog C) {f : FuncId} {fn : Func} {ps : List PT} {rs : List Ty} {fr : denP ps -> Fr (denL rs)} (x0 : denP ps) (hf : Tryz.prog.funcs[f]? = some fn)
  (hrun : ∀ xs, runFn Tryz.prog C noΛ fn ps rs xs = some (fr xs)) (g : denP ps -> denL rs) (ok : denP ps -> List Prop)
  (hg : ∀ w F xs vs, RepPs Tryz.prog w F ps xs vs -> conj (ok xs) -> (fr xs).ok /\ (fr xs).get = g xs) : SoundCt Tryz.prog f ⟨ps, rs, g, ok⟩ :=
 conv (fn_sound hC x0 hf (fun c E _ => noΛ_ok c 0) hrun) g ok hg
def money (v : Int) : Bool := decide (v ≥ -4000000000000000000) && decide (v <= 4000000000000000000)
def cMoney : Ct := ⟨[.d i64], [.bool], fun x => (money x.1, ()), fun _ => []⟩
theorem money_ok : SoundCt Tryz.prog 156 cMoney :=
 plain (ps := [.d i64]) (rs := [.bool]) C0_ok (fn := Tryz.f156) (fr := fun x => Fr.val (bif decide (x.1 ≥ -4000000000000000000) then decide (x.1 <= 4000000000000000000) else false, ())) (0, ()) (by kernel_rfl) (fun x => by kernel_rfl) _ _
  (fun _ _ x _ _ _ => ⟨trivial, by simp only [Fr.get, money]; cases decide (x.1 ≥ -4000000000000000000) <;> rfl⟩)
def fullS (s : spanT.den) : Bool := decide (s.1 ≥ 1) && (decide (s.1 < s.2.1) && decide (s.2.1 <= 292195))
def rightS (s : spanT.den) : Bool := decide (s.1 ≥ 1) && (decide (s.1 <= s.2.1) && decide (s.2.1 <= 292195))
def cFullS : Ct := ⟨[.d spanT], [.bool], fun x => (fullS x.1, ()), fun _ => []⟩
def cRightS : Ct := ⟨[.d spanT], [.bool], fun x => (rightS x.1, ()), fun _ => []⟩
theorem three (a b c : Bool) : (bif bif a then b else false then c else false) = (a && (b && c)) := by cases a <;> cases b <;> rfl
theorem fullS_ok : SoundCt Tryz.prog 135 cFullS :=
 plain (ps := [.d spanT]) (rs := [.bool]) C0_ok (fn := Tryz.f135) (fr := fun x => Fr.val (bif bif decide (x.1.1 ≥ 1) then decide (x.1.1 < x.1.2.1) else false then decide (x.1.2.1 <= 292195) else false, ())) ((0, 0, ()), ()) (by kernel_rfl) (fun x => by kernel_rfl) _ _
  (fun _ _ x _ _ _ => ⟨trivial, by simp only [Fr.get, fullS, three]⟩)
theorem full04_ok : SoundCt Tryz.prog 115 cFullS :=
 plain (ps := [.d spanT]) (rs := [.bool]) C0_ok (fn := Tryz.f115) (fr := fun x => Fr.val (bif bif decide (x.1.1 ≥ 1) then decide (x.1.1 < x.1.2.1) else false then decide (x.1.2.1 <= 292195) else false, ())) ((0, 0, ()), ()) (by kernel_rfl) (fun x => by kernel_rfl) _ _
  (fun _ _ x _ _ _ => ⟨trivial, by simp only [Fr.get, fullS, three]⟩)
theorem rightS_ok : SoundCt Tryz.prog 58 cRightS :=
 plain (ps := [.d spanT]) (rs := [.bool]) C0_ok (fn := Tryz.f58) (fr := fun x => Fr.val (bif bif decide (x.1.1 ≥ 1) then decide (x.1.1 <= x.1.2.1) else false then decide (x.1.2.1 <= 292195) else false, ())) ((0, 0, ()), ()) (by kernel_rfl) (fun x => by kernel_rfl) _ _
  (fun _ _ x _ _ _ => ⟨trivial, by simp only [Fr.get, rightS, three]⟩)
theorem right03_ok : SoundCt Tryz.prog 83 cRightS :=
 plain (ps := [.d spanT]) (rs := [.bool]) C0_ok (fn := Tryz.f83) (fr := fun x => Fr.val (bif bif decide (x.1.1 ≥ 1) then decide (x.1.1 <= x.1.2.1) else false then decide (x.1.2.1 <= 292195) else false, ())) ((0, 0, ()), ()) (by kernel_rfl) (fun x => by kernel_rfl) _ _
  (fun _ _ x _ _ _ => ⟨trivial, by simp only [Fr.get, rightS, three]⟩)
def fullSl (s : sliceT.den) (e : Int) : Bool := decide (s.1.1 ≥ e) && (decide (s.1.1 < s.1.2.1) && (decide (s.1.2.1 <= 292195) && (decide (s.2.2.2.2.1 ≥ 0) && decide (s.2.2.2.2.1 <= 4000000000000000000))))
def cFullSl : Ct := ⟨[.d sliceT, .d i64], [.bool], fun x => (fullSl x.1 x.2.1, ()), fun _ => []⟩
theorem five (a b c d e : Bool) : (bif bif bif bif a then b else false then c else false then d else false then e else false) = (a && (b && (c && (d && e)))) := by cases a <;> cases b <;> cases c <;> cases d <;> rfl
theorem fullSl_ok : SoundCt Tryz.prog 96 cFullSl :=
 plain (ps := [.d sliceT, .d i64]) (rs := [.bool]) C0_ok (fn := Tryz.f96) (fr := fun x => Fr.val (bif bif bif bif decide (x.1.1.1 ≥ x.2.1) then decide (x.1.1.1 < x.1.1.2.1) else false then decide (x.1.1.2.1 <= 292195) else false then decide (x.1.2.2.2.2.1 ≥ 0) else false then decide (x.1.2.2.2.2.1 <= 4000000000000000000) else false, ()))
  (sliceT.dflt, 0, ()) (by kernel_rfl) (fun x => by kernel_rfl) _ _ (fun _ _ x _ _ _ => ⟨trivial, by simp only [Fr.get, fullSl, five]⟩)
def cNaN : Ct := ⟨[.d i64], [.bool], fun _ => (false, ()), fun _ => []⟩
theorem nan1_ok : SoundCt Tryz.prog 171 cNaN :=
 plain (ps := [.d i64]) (rs := [.bool]) C0_ok (fn := Tryz.f171) (fr := fun x => Fr.val (x.1 != x.1, ())) (0, ()) (by kernel_rfl) (fun x => by kernel_rfl) _ _ (fun _ _ x _ _ _ => ⟨trivial, by simp [Fr.get]⟩)
theorem nan2_ok : SoundCt Tryz.prog 145 cNaN :=
 plain (ps := [.d i64]) (rs := [.bool]) C0_ok (fn := Tryz.f145) (fr := fun x => Fr.val (x.1 != x.1, ())) (0, ()) (by kernel_rfl) (fun x => by kernel_rfl) _ _ (fun _ _ x _ _ _ => ⟨trivial, by simp [Fr.get]⟩)
def Γ1 : FuncId -> Option Ct := fun f => if f = 171 then some cNaN else if f = 145 then some cNaN else none
def C1 : Cx := ⟨Γ1, fun _ => none, fun _ _ _ _ => none⟩
theorem onlyCt {Γ : FuncId -> Option Ct} (h : ∀ f ct, Γ f = some ct -> SoundCt Tryz.prog f ct) : CxOK Tryz.prog ⟨Γ, fun _ => none, fun _ _ _ _ => none⟩ :=
 ⟨mixed, h, fun _ _ h => (nomatch h), fun _ _ _ _ _ h => (nomatch h)⟩
theorem C1_ok : CxOK Tryz.prog C1 := onlyCt fun f ct h => by
 simp only [Γ1] at h
 split at h
 ·rename_i hf; subst hf; cases h; exact nan1_ok
 ·split at h
  ·rename_i hf; subst hf; cases h; exact nan2_ok
  ·cases h
def cLess : Ct := ⟨[.d i64, .d i64], [.bool], fun x => (decide (x.1 < x.2.1), ()), fun _ => []⟩
theorem less_ok : SoundCt Tryz.prog 166 cLess :=
 plain (ps := [.d i64, .d i64]) (rs := [.bool]) C1_ok (fn := Tryz.f166) (fr := fun x => Fr.val (bif bif (cNaN.f (x.1, ())).1 then !(cNaN.f (x.2.1, ())).1 else false then true else decide (x.1 < x.2.1), ())) (0, 0, ()) (by kernel_rfl) (fun x => by kernel_rfl) _ _
  (fun _ _ x _ _ _ => ⟨trivial, rfl⟩)
def bodyOf : Code -> Nat -> Option Code
 | .loop c, 0 => some c
 | .seq a b, k => if k < loopsIn a then bodyOf a k else bodyOf b (k - loopsIn a)
 | .cond _ a b, k => if k < loopsIn a then bodyOf a k else bodyOf b (k - loopsIn a)
 | .block _ c, k => bodyOf c k
 | .scope c, k => bodyOf c k
 | _, _ => none
def loopOf (f : Func) (k : Nat) : Code := (f.body.bind (bodyOf · k)).getD .skip
def Γ2 : FuncId -> Option Ct := fun f => if f = 171 then some cNaN else if f = 166 then some cLess else none
def C2 : Cx := ⟨Γ2, fun _ => none, fun _ _ _ _ => none⟩
theorem C2_ok : CxOK Tryz.prog C2 := onlyCt fun f ct h => by
 simp only [Γ2] at h
 split at h
 ·rename_i hf; subst hf; cases h; exact nan1_ok
 ·split at h
  ·rename_i hf; subst hf; cases h; exact less_ok
  ·cases h
def cnt (l : List Int) (x : Int) : Nat := l.countP fun y => decide (y < x)
theorem cnt_at {l : List Int} {x : Int} {i : Nat} (h1 : ∀ k y, k < i -> l[k]? = some y -> y < x) (h2 : ∀ k y, i <= k -> l[k]? = some y -> ¬ y < x) (hi : i <= l.length) : cnt l x = i := by
 unfold cnt
 rw [← List.take_append_drop i l, List.countP_append]
 have e1 : (l.take i).countP (fun y => decide (y < x)) = (l.take i).length := by
  rw [List.countP_eq_length]
  intro y hy
  obtain ⟨k, hk⟩ := List.mem_iff_getElem?.1 hy
  rw [List.getElem?_take] at hk
  split at hk
  ·rename_i hlt
   simpa using h1 k y hlt hk
  ·cases hk
 have e2 : (l.drop i).countP (fun y => decide (y < x)) = 0 := by
  rw [List.countP_eq_zero]
  intro y hy
  obtain ⟨k, hk⟩ := List.mem_iff_getElem?.1 hy
  rw [List.getElem?_drop] at hk
  simpa using h2 (i + k) y (by omega) hk
 rw [e1, e2, List.length_take]
 omega
abbrev ptB : Pt := ⟨54, 0, ⟨[(0, .d ints), (1, .d i64), (6, .d i64), (7, .d i64), (8, .d i64)], []⟩, ⟨[(0, .d ints), (1, .d i64), (6, .d i64), (7, .d i64)], []⟩, ⟨[], []⟩⟩
def mid (i j : Int) : Int := IntKind.i64.wrap ((IntKind.u64.wrap (IntKind.i64.wrap (i + j))).fdiv (2 ^ min (Int.toNat 1) IntKind.u64.bits))
def frB (x : ptB.M.X) : Fr ptB.Out :=
 Fr.br (decide (x.1.2.2.2.1 < x.1.2.2.2.2.1))
  (Fr.need (¬ (1 : Int) < 0)
   (Fr.need (0 <= mid x.1.2.2.2.1 x.1.2.2.2.2.1 /\ mid x.1.2.2.2.1 x.1.2.2.2.2.1 < x.1.1.length)
    (Fr.br (cLess.f (x.1.1.getD (mid x.1.2.2.2.1 x.1.2.2.2.2.1).toNat i64.dflt, x.1.2.1, ())).1
     (Fr.val (Rd.next ((x.1.1, x.1.2.1, x.1.2.2.1, IntKind.i64.wrap (mid x.1.2.2.2.1 x.1.2.2.2.2.1 + 1), x.1.2.2.2.2.1, ()), ())))
     (Fr.val (Rd.next ((x.1.1, x.1.2.1, x.1.2.2.1, x.1.2.2.2.1, mid x.1.2.2.2.1 x.1.2.2.2.2.1, ()), ()))))))
  (Fr.val (Rd.out ((x.1.1, x.1.2.1, x.1.2.2.1, x.1.2.2.2.1, ()), ())))
theorem semB : Does Tryz.prog (loopOf Tryz.f167 0) ptB.M ptB frB :=
 Does.of_run C2_ok (bs := 0) (Λ := noΛ) rfl rfl rfl (fun E => noΛ_ok _ 0) (fun x => by kernel_rfl)
theorem mid_eq {i j : Int} (hi : 0 <= i) (hij : i <= j) (hj : j <= 9223372036854775807) : mid i j = (i + j) / 2 := by
 unfold mid
 have h1 : IntKind.u64.wrap (IntKind.i64.wrap (i + j)) = i + j := by
  rw [IntKind.wrap_i64, IntKind.wrap_u64]
  omega
 have h2 : (2 : Int) ^ min (Int.toNat 1) IntKind.u64.bits = 2 := by decide
 rw [h1, h2, Int.fdiv_eq_ediv_of_nonneg _ (by decide), IntWalk.i64_in _ (by omega)]
structure InvB (l : List Int) (x i j : Int) : Prop where
 lo : 0 <= i
 le : i <= j
 hi : j <= l.length
 big : (l.length : Int) <= 9223372036854775807
 up : l.Pairwise (· < ·)
 below : ∀ (k : Nat) (y : Int), (k : Int) < i -> l[k]? = some y -> y < x
 above : ∀ (k : Nat) (y : Int), j <= k -> l[k]? = some y -> ¬ y < x
def FB (x : ptB.M.X) : Fr ptB.Out :=
 Fr.need (InvB x.1.1 x.1.2.1 x.1.2.2.2.1 x.1.2.2.2.2.1) (Fr.val (Rd.out ((x.1.1, x.1.2.1, x.1.2.2.1, (cnt x.1.1 x.1.2.1 : Int), ()), ())))
theorem up_get {l : List Int} (h : l.Pairwise (· < ·)) {a b : Nat} {y z : Int} (hab : a < b) (ha : l[a]? = some y) (hb : l[b]? = some z) : y < z := by
 obtain ⟨h1, rfl⟩ := List.getElem?_eq_some_iff.1 ha
 obtain ⟨h2, rfl⟩ := List.getElem?_eq_some_iff.1 hb
 exact (List.pairwise_iff_getElem.1 h) a b h1 h2 hab
theorem lawB (l : List Int) (x n i j : Int) (hinv : InvB l x i j) (Q : ptB.Out -> Prop) (hQ : Q (Rd.out ((l, x, n, (cnt l x : Int), ()), ()))) :
  (frB ((l, x, n, i, j, ()), ())).satP fun
   | .next x' => InvB x'.1.1 x'.1.2.1 x'.1.2.2.2.1 x'.1.2.2.2.2.1 /\ (x'.1.2.2.2.2.1 - x'.1.2.2.2.1).toNat < (j - i).toNat /\ (FB x').satP Q
   | .out y => Q (.out y)
   | .back z => Q (.back z)
   | .pan p => Q (.pan p) := by
 obtain ⟨h1, h2, h3, h4, h5, h6, h7⟩ := hinv
 simp only [frB, Fr.satP, decide_eq_true_eq, decide_eq_false_iff_not]
 refine ⟨fun hij => ?_, fun hij => ?_⟩
 ·have hij : i < j := hij
  have hm := mid_eq h1 h2 (by omega)
  have hmid : 0 <= (i + j) / 2 /\ (i + j) / 2 < l.length := by omega
  rw [hm]
  refine ⟨by omega, hmid, ?_⟩
  obtain ⟨y, hy⟩ : ∃ y, l[((i + j) / 2).toNat]? = some y := by
   have : ((i + j) / 2).toNat < l.length := by omega
   exact ⟨_, List.getElem?_eq_getElem this⟩
  have hget : l.getD ((i + j) / 2).toNat i64.dflt = y := by
   rw [List.getD_eq_getElem?_getD, hy]
   rfl
  rw [hget]
  show (decide (y < x) = true -> _) /\ (decide (y < x) = false -> _)
  simp only [decide_eq_true_eq, decide_eq_false_iff_not]
  refine ⟨fun hyx => ?_, fun hyx => ?_⟩
  ·have hyx : y < x := hyx
   have hw : IntKind.i64.wrap ((i + j) / 2 + 1) = (i + j) / 2 + 1 := IntWalk.i64_in _ (by omega)
   rw [hw]
   have hn : InvB l x ((i + j) / 2 + 1) j := ⟨by omega, by omega, h3, h4, h5, fun k z hk hz => by
    by_cases hk2 : k < ((i + j) / 2).toNat
    ·exact Int.lt_trans (up_get h5 hk2 hz hy) hyx
    ·have : k = ((i + j) / 2).toNat := by omega
     subst this
     rw [hy] at hz
     cases hz
     exact hyx, h7⟩
   exact ⟨hn, by show (j - ((i + j) / 2 + 1)).toNat < (j - i).toNat; omega, hn, hQ⟩
  ·have hyx : ¬ y < x := hyx
   have hn : InvB l x i ((i + j) / 2) := ⟨h1, by omega, by omega, h4, h5, h6, fun k z hk hz => by
    by_cases hk2 : ((i + j) / 2).toNat < k
    ·have := up_get h5 hk2 hy hz
     omega
    ·have : k = ((i + j) / 2).toNat := by omega
     subst this
     rw [hy] at hz
     cases hz
     exact hyx⟩
   exact ⟨hn, by show ((i + j) / 2 - i).toNat < (j - i).toNat; omega, hn, hQ⟩
 ·have hij : ¬ i < j := hij
  have hij' : i = j := by omega
  subst hij'
  have hc : cnt l x = i.toNat := cnt_at (fun k y hk hy => h6 k y (by omega) hy) (fun k y hk hy => h7 k y (by omega) hy) (by omega)
  rw [hc] at hQ
  have : ((i.toNat : Nat) : Int) = i := by omega
  rw [this] at hQ
  exact hQ
theorem loopB : Does Tryz.prog (.loop (loopOf Tryz.f167 0)) ptB.M ptB FB := by
 refine Does.loop (n := 54) (id := 0) semB (inv := fun x => InvB x.1.1 x.1.2.1 x.1.2.2.2.1 x.1.2.2.2.2.1) (μ := fun x => (x.1.2.2.2.2.1 - x.1.2.2.2.1).toNat) ?_ (fun x Q h => h.1)
 rintro ⟨⟨l, x, n, i, j, _⟩, _⟩ hinv Q hq
 exact lawB l x n i j hinv Q hq.2
theorem bodyOf_lt : {c : Code} -> {k : Nat} -> {b : Code} -> bodyOf c k = some b -> k < loopsIn c
 | .loop _, 0, _, _ => Nat.zero_lt_one
 | .loop _, _ + 1, _, h => by simp [bodyOf] at h
 | .seq x y, k, b, h => by
  simp only [bodyOf] at h
  simp only [loopsIn]
  split at h
  ·omega
  ·have := bodyOf_lt h
   omega
 | .cond _ x y, k, b, h => by
  simp only [bodyOf] at h
  simp only [loopsIn]
  split at h
  ·omega
  ·have := bodyOf_lt h
   omega
 | .block _ c, k, b, h => bodyOf_lt (c := c) h
 | .scope c, k, b, h => bodyOf_lt (c := c) h
 | .skip, _, _, h => by simp [bodyOf] at h
 | .region _ _ _, _, _, h => by simp [bodyOf] at h
 | .ret, _, _, h => by simp [bodyOf] at h
 | .exit _, _, _, h => by simp [bodyOf] at h
 | .label _, _, _, h => by simp [bodyOf] at h
 | .goto _, _, _, h => by simp [bodyOf] at h
 | .rangeFunc _ _ _ _, _, _, h => by simp [bodyOf] at h
 | .refuse _, _, _, h => by simp [bodyOf] at h
theorem lam_of {E : Env} {Λ : Nat -> St -> Option Tr} : (c : Code) -> (k : Nat) -> (∀ i b, bodyOf c i = some b -> LoopOK Tryz.prog E b (Λ (k + i))) -> LamOK Tryz.prog E Λ c k
 | .loop b, k, h => h 0 b rfl
 | .seq x y, k, h => ⟨lam_of x k fun i b hb => h i b (by simp only [bodyOf]; rw [if_pos (bodyOf_lt hb)]; exact hb), lam_of y _ fun i b hb => by
   have := h (loopsIn x + i) b (by simp only [bodyOf]; rw [if_neg (by omega), Nat.add_sub_cancel_left]; exact hb)
   rwa [← Nat.add_assoc] at this⟩
 | .cond _ x y, k, h => ⟨lam_of x k fun i b hb => h i b (by simp only [bodyOf]; rw [if_pos (bodyOf_lt hb)]; exact hb), lam_of y _ fun i b hb => by
   have := h (loopsIn x + i) b (by simp only [bodyOf]; rw [if_neg (by omega), Nat.add_sub_cancel_left]; exact hb)
   rwa [← Nat.add_assoc] at this⟩
 | .block _ c, k, h => lam_of c k h
 | .skip, _, _ => trivial
 | .ret, _, _ => trivial
 | .exit _, _, _ => trivial
 | .region _ _ _, _, _ => trivial
 | .label _, _, _ => trivial
 | .goto _, _, _ => trivial
 | .scope c, k, h => lam_of c k h
 | .rangeFunc _ _ _ _, _, _ => trivial
 | .refuse _, _, _ => trivial
theorem lam_one {E : Env} {Λ : Nat -> St -> Option Tr} {fn : Func} {c b : Code} (hc : fn.body = some c) (hn : (fn.body.map loopsIn) = some 1) (hb : fn.body.bind (bodyOf · 0) = some b) (h : LoopOK Tryz.prog E b (Λ 0)) : LamOK Tryz.prog E Λ c 0 := by
 refine lam_of c 0 fun i b' hb' => ?_
 have h1 := bodyOf_lt hb'
 rw [hc] at hn hb
 simp only [Option.map_some, Option.some.injEq] at hn
 have hi : i = 0 := by omega
 subst hi
 simp only [Option.bind_some] at hb
 rw [hb] at hb'
 cases hb'
 exact h
def ΛB : Nat -> St -> Option Tr := fun _ => ptB.han Γ2 ptB.M FB
def frS (x : denP [.d ints, .d i64]) : Fr (denL [i64, .bool]) :=
 Fr.need (InvB x.1 x.2.1 0 x.1.length)
  (Fr.need (decide ((cnt x.1 x.2.1 : Int) < x.1.length) = true -> 0 <= (cnt x.1 x.2.1 : Int) /\ (cnt x.1 x.2.1 : Int) < x.1.length)
  (Fr.need ((x.1.getD (Int.toNat (cnt x.1 x.2.1 : Int)) i64.dflt == x.2.1) = false -> decide ((cnt x.1 x.2.1 : Int) < x.1.length) = true -> 0 <= (cnt x.1 x.2.1 : Int) /\ (cnt x.1 x.2.1 : Int) < x.1.length)
   (Fr.val
    ((cnt x.1 x.2.1 : Int),
     bif decide ((cnt x.1 x.2.1 : Int) < x.1.length) then
      bif x.1.getD (Int.toNat (cnt x.1 x.2.1 : Int)) i64.dflt == x.2.1 then true
      else
       bif (cNaN.f (x.1.getD (Int.toNat (cnt x.1 x.2.1 : Int)) i64.dflt, ())).1 then (cNaN.f (x.2.1, ())).1 else false
     else false,
     ()))))
theorem search_fr : SoundCt Tryz.prog 167 ⟨[.d ints, .d i64], [i64, .bool], fun xs => (frS xs).get, fun xs => [(frS xs).ok]⟩ :=
 fn_sound C2_ok (Λ := ΛB) (fn := Tryz.f167) ([], 0, ()) (by kernel_rfl) (fun c E hc => lam_one hc (by kernel_rfl) (b := loopOf Tryz.f167 0) (by kernel_rfl) (Does.han C2_ok rfl loopB)) (fun xs => by kernel_rfl)
theorem cnt_spec {x : Int} : {l : List Int} -> l.Pairwise (· < ·) -> (∀ k y, k < cnt l x -> l[k]? = some y -> y < x) /\ ∀ k y, cnt l x <= k -> l[k]? = some y -> ¬ y < x
 | [], _ => ⟨fun k y _ h => by simp at h, fun k y _ h => by simp at h⟩
 | a :: r, h => by
  obtain ⟨h1, h2⟩ := List.pairwise_cons.1 h
  obtain ⟨i1, i2⟩ := cnt_spec (x := x) h2
  by_cases ha : a < x
  ·have hc : cnt (a :: r) x = cnt r x + 1 := by simp [cnt, List.countP_cons, ha]
   rw [hc]
   refine ⟨fun k y hk hy => ?_, fun k y hk hy => ?_⟩
   ·cases k with
    | zero => simp at hy; omega
    | succ k => exact i1 k y (by omega) (by simpa using hy)
   ·cases k with
    | zero => omega
    | succ k => exact i2 k y (by omega) (by simpa using hy)
  ·have hz : cnt (a :: r) x = 0 := by
    unfold cnt
    rw [List.countP_eq_zero]
    intro y hy
    rcases List.mem_cons.1 hy with rfl | hy
    ·simpa using ha
    ·have := h1 y hy
     simp
     omega
   rw [hz]
   refine ⟨fun k y hk _ => by omega, fun k y _ hy => ?_⟩
   cases k with
   | zero => simp at hy; omega
   | succ k =>
    have hm : y ∈ r := List.mem_of_getElem? (by simpa using hy)
    have := h1 y hm
    omega
theorem cnt_mem {l : List Int} {x : Int} (h : l.Pairwise (· < ·)) : x ∈ l ↔ l[cnt l x]? = some x := by
 obtain ⟨h1, h2⟩ := cnt_spec (x := x) h
 constructor
 ·intro hm
  obtain ⟨k, hk⟩ := List.mem_iff_getElem?.1 hm
  by_cases hlt : k < cnt l x
  ·have := h1 k x hlt hk
   omega
  ·by_cases he : k = cnt l x
   ·rw [← he]; exact hk
   ·have hkl := (List.getElem?_eq_some_iff.1 hk).1
    have hy : l[cnt l x]? = some (l[cnt l x]'(by omega)) := List.getElem?_eq_getElem (by omega)
    have a1 := up_get h (by omega) hy hk
    have a2 := h2 _ _ (Nat.le_refl _) hy
    omega
 ·exact fun hk => List.mem_of_getElem? hk
theorem cnt_le (l : List Int) (x : Int) : cnt l x <= l.length := List.countP_le_length
theorem invB_start {l : List Int} {x : Int} (h : l.Pairwise (· < ·)) (hl : (l.length : Int) <= 9223372036854775807) : InvB l x 0 l.length :=
 ⟨Int.le_refl _, by omega, Int.le_refl _, hl, h, fun k y hk _ => by omega, fun k y hk hy => by
  have := (List.getElem?_eq_some_iff.1 hy).1
  omega⟩
theorem frS_val {l : List Int} {x : Int} (h : l.Pairwise (· < ·)) (hl : (l.length : Int) <= 9223372036854775807) : (frS (l, x, ())).ok /\ (frS (l, x, ())).get = ((cnt l x : Int), l.contains x, ()) := by
 have hle := cnt_le l x
 refine ⟨⟨invB_start h hl, fun hd => ?_, fun _ hd => ?_, trivial⟩, ?_⟩
 ·have hd' : (cnt l x : Int) < l.length := by simpa using hd
  exact ⟨by omega, hd'⟩
 ·have hd' : (cnt l x : Int) < l.length := by simpa using hd
  exact ⟨by omega, hd'⟩
 ·show ((cnt l x : Int), (bif decide ((cnt l x : Int) < l.length) then bif l.getD (cnt l x) i64.dflt == x then true else (bif false then false else false) else false), ()) = _
  have hb : (bif decide ((cnt l x : Int) < l.length) then bif l.getD (cnt l x) i64.dflt == x then true else (bif false then false else false) else false) = l.contains x := by
   have hm := cnt_mem (x := x) h
   by_cases hlt : cnt l x < l.length
   ·have h1 : decide ((cnt l x : Int) < l.length) = true := by simpa using hlt
    have hg : l[cnt l x]? = some (l[cnt l x]'hlt) := List.getElem?_eq_getElem hlt
    have hd : l.getD (cnt l x) i64.dflt = l[cnt l x]'hlt := by rw [List.getD_eq_getElem?_getD, hg]; rfl
    rw [h1, hd]
    simp only [cond_true]
    by_cases he : l[cnt l x]'hlt = x
    ·have : x ∈ l := hm.2 (by rw [hg, he])
     simp [he, this]
    ·have : ¬ x ∈ l := fun hx => he (by have := hm.1 hx; rw [hg] at this; simpa using this)
     simp [he, this]
   ·have h1 : decide ((cnt l x : Int) < l.length) = false := by simpa using hlt
    have : ¬ x ∈ l := fun hx => by
     have := hm.1 hx
     rw [List.getElem?_eq_none (by omega)] at this
     cases this
    rw [h1]
    simp [this]
  rw [hb]
def cSearch : Ct := ⟨[.d ints, .d i64], [i64, .bool], fun x => ((cnt x.1 x.2.1 : Int), x.1.contains x.2.1, ()), fun x => [x.1.Pairwise (· < ·)]⟩
theorem search_ok : SoundCt Tryz.prog 167 cSearch :=
 conv search_fr _ _ fun w F xs vs hr hok => by
  obtain ⟨l, x, _⟩ := xs
  obtain ⟨v, vs', rfl, hv, _⟩ := hr
  have hwf := RepT.wf hv.2.2
  have hlen : (l.length : Int) <= 9223372036854775807 := by
   have := hwf.1
   simp only [maxLen] at this
   omega
  exact frS_val hok hlen
def cntLe (l : List Int) (x : Int) : Nat := l.countP fun y => decide (y <= x)
theorem cntLe_eq {x : Int} : {l : List Int} -> l.Pairwise (· < ·) -> cntLe l x = cnt l x + (if l.contains x then 1 else 0)
 | [], _ => rfl
 | a :: r, h => by
  obtain ⟨h1, h2⟩ := List.pairwise_cons.1 h
  have ih := cntLe_eq (x := x) h2
  have hnot : a = x -> ¬ x ∈ r := fun he hm => by have := h1 x hm; omega
  unfold cntLe cnt at *
  rw [List.countP_cons, List.countP_cons, ih]
  rcases Int.lt_trichotomy a x with hlt | heq | hgt
  ·have : ¬ x = a := by omega
   simp [hlt, Int.le_of_lt hlt, this]
   omega
  ·subst heq
   have := hnot rfl
   simp [this]
  ·have h3 : ¬ a <= x := by omega
   have h4 : ¬ a < x := by omega
   have h5 : ¬ x = a := by omega
   simp [h3, h4, h5]
def valAt (f : stepT.den) (d : Int) : Int := match cntLe f.1 d with
 | 0 => 0
 | k + 1 => f.2.1.getD k 0
def Γ3 : FuncId -> Option Ct := fun f => if f = 167 then some cSearch else if f = 156 then some cMoney else none
def C3 : Cx := ⟨Γ3, fun _ => none, fun _ _ _ _ => none⟩
theorem C3_ok : CxOK Tryz.prog C3 := onlyCt fun f ct h => by
 simp only [Γ3] at h
 split at h
 ·rename_i hf; subst hf; cases h; exact search_ok
 ·split at h
  ·rename_i hf; subst hf; cases h; exact money_ok
  ·cases h
def frV (x : denP [.d stepT, .d i64]) : Fr (denL [i64]) :=
 let r := cSearch.f (x.1.1, x.2.1, ())
 Fr.need (x.1.1.Pairwise (· < ·))
  (Fr.br (!r.2.1)
   (Fr.br (decide (IntKind.i64.wrap (r.1 - 1) < 0)) (Fr.val (0, ()))
    (Fr.need (0 <= IntKind.i64.wrap (r.1 - 1) /\ IntKind.i64.wrap (r.1 - 1) < x.1.2.1.length) (Fr.val (x.1.2.1.getD (IntKind.i64.wrap (r.1 - 1)).toNat i64.dflt, ()))))
   (Fr.br (decide (r.1 < 0)) (Fr.val (0, ()))
    (Fr.need (0 <= r.1 /\ r.1 < x.1.2.1.length) (Fr.val (x.1.2.1.getD r.1.toNat i64.dflt, ())))))
theorem value_fr : SoundCt Tryz.prog 158 ⟨[.d stepT, .d i64], [i64], fun xs => (frV xs).get, fun xs => [(frV xs).ok]⟩ :=
 fn_sound C3_ok (Λ := noΛ) (fn := Tryz.f158) (([], [], ()), 0, ()) (by kernel_rfl) (fun c E _ => noΛ_ok c 0) (fun xs => by kernel_rfl)
theorem frV_val {at_ val : List Int} {d : Int} (h : at_.Pairwise (· < ·)) (hl : (at_.length : Int) <= 9223372036854775807) (hlen : at_.length = val.length) :
  (frV ((at_, val, ()), d, ())).ok /\ (frV ((at_, val, ()), d, ())).get = (valAt (at_, val, ()) d, ()) := by
 have hle := cnt_le at_ d
 have hcl := cntLe_eq (x := d) h
 have hmem := cnt_mem (x := d) h
 by_cases hc : d ∈ at_
 ·have hcb : at_.contains d = true := by simpa using hc
  have hlt : cnt at_ d < at_.length := (List.getElem?_eq_some_iff.1 (hmem.1 hc)).1
  have hv : valAt (at_, val, ()) d = val.getD (cnt at_ d) 0 := by
   unfold valAt
   simp only [hcl, hcb, if_true]
  refine ⟨⟨h, fun hb => ?_, fun _ => ⟨fun hb => ?_, fun _ => ⟨⟨by show (0 : Int) <= (cnt at_ d : Int); omega, by show (cnt at_ d : Int) < val.length; omega⟩, trivial⟩⟩⟩, ?_⟩
  ·have hb' : (!at_.contains d) = true := hb
   rw [hcb] at hb'
   cases hb'
  ·trivial
  ·show (if (!at_.contains d) = true then _ else if decide ((cnt at_ d : Int) < 0) = true then ((0 : Int), ()) else (val.getD (Int.toNat (cnt at_ d : Int)) i64.dflt, ())) = _
   have h0 : decide ((cnt at_ d : Int) < 0) = false := by simp
   rw [hcb, h0, hv]
   rfl
 ·have hcb : at_.contains d = false := by simpa using hc
  have hw : IntKind.i64.wrap ((cnt at_ d : Int) - 1) = (cnt at_ d : Int) - 1 := IntWalk.i64_in _ (by omega)
  have hv : valAt (at_, val, ()) d = (match cnt at_ d with | 0 => 0 | k + 1 => val.getD k 0) := by
   unfold valAt
   simp only [hcl, hcb, Bool.false_eq_true, if_false, Nat.add_zero]
  refine ⟨⟨h, fun _ => ⟨fun _ => trivial, fun hb => ?_⟩, fun hb => ?_⟩, ?_⟩
  ·have hb' : decide (IntKind.i64.wrap ((cnt at_ d : Int) - 1) < 0) = false := hb
   rw [hw] at hb'
   have hb2 : ¬ ((cnt at_ d : Int) - 1 < 0) := by simpa using hb'
   refine ⟨?_, trivial⟩
   show 0 <= IntKind.i64.wrap ((cnt at_ d : Int) - 1) /\ IntKind.i64.wrap ((cnt at_ d : Int) - 1) < val.length
   rw [hw]
   omega
  ·have hb' : (!at_.contains d) = false := hb
   rw [hcb] at hb'
   cases hb'
  ·show (if (!at_.contains d) = true then (if decide (IntKind.i64.wrap ((cnt at_ d : Int) - 1) < 0) = true then ((0 : Int), ()) else (val.getD (IntKind.i64.wrap ((cnt at_ d : Int) - 1)).toNat i64.dflt, ())) else _) = _
   rw [hcb, hw, hv]
   cases hk : cnt at_ d with
   | zero => rfl
   | succ k =>
    have h0 : decide (((k + 1 : Nat) : Int) - 1 < 0) = false := by simp
    have h1 : (((k + 1 : Nat) : Int) - 1).toNat = k := by omega
    rw [h0, h1]
    rfl
def cValue : Ct := ⟨[.d stepT, .d i64], [i64], fun x => (valAt x.1 x.2.1, ()), fun x => [x.1.1.Pairwise (· < ·), x.1.1.length = x.1.2.1.length]⟩
theorem value_ok : SoundCt Tryz.prog 158 cValue :=
 conv value_fr _ _ fun w F xs vs hr hok => by
  obtain ⟨⟨at_, val, _⟩, d, _⟩ := xs
  obtain ⟨v, vs', rfl, hv, _⟩ := hr
  have hwf := RepT.wf hv.2.2
  have hlen : (at_.length : Int) <= 9223372036854775807 := by
   have := hwf.1.1
   simp only [maxLen] at this
   omega
  exact frV_val hok.1 hlen hok.2
def rises : List Int -> List Int -> Int -> Int -> Bool
 | d :: l, v :: r, day, last => (decide (day < d) && (decide (d <= 292194) && (!(v == last) && money v))) && rises l r d v
 | _, _, _, _ => true
abbrev ptR : Pt := ⟨48, 0, ⟨[(18, .d i64), (17, .d i64), (16, .d ints), (3, .d i64), (4, .d i64)], [.x 1 97 stepT, .r 1 1 0]⟩, ⟨[], []⟩, ⟨[(2, .d .bool)], []⟩⟩
def frR (x : ptR.M.X) : Fr ptR.Out :=
 Fr.br (decide (x.1.1 < x.1.2.1))
  (Fr.need (0 <= x.1.1 /\ x.1.1 < x.1.2.2.1.length)
   (Fr.need (0 <= x.1.1 /\ x.1.1 < x.2.1.2.1.length)
    (Fr.br
     (bif bif bif decide (x.1.2.2.1.getD x.1.1.toNat i64.dflt <= x.1.2.2.2.1) then true else decide (x.1.2.2.1.getD x.1.1.toNat i64.dflt > 292194) then true
       else x.2.1.2.1.getD x.1.1.toNat i64.dflt == x.1.2.2.2.2.1 then true
      else !(cMoney.f (x.2.1.2.1.getD x.1.1.toNat i64.dflt, ())).1)
     (Fr.val (Rd.back ((false, ()), ())))
     (Fr.val (Rd.next ((IntKind.i64.wrap (x.1.1 + 1), x.1.2.1, x.1.2.2.1, x.1.2.2.1.getD x.1.1.toNat i64.dflt, x.2.1.2.1.getD x.1.1.toNat i64.dflt, ()), (x.2.1.1, x.2.1.2.1, ()), ()))))))
  (Fr.val (Rd.out ((), ())))
theorem semR : Does Tryz.prog (loopOf Tryz.f134 0) ptR.M ptR frR :=
 Does.of_run C3_ok (bs := 0) (Λ := noΛ) rfl rfl rfl (fun E => noΛ_ok _ 0) (fun x => by kernel_rfl)
theorem not_true_of {b : Bool} (h : (!b) = true) : b = false := by cases b <;> first | rfl | cases h
theorem not_false_of {b : Bool} (h : (!b) = false) : b = true := by cases b <;> first | rfl | cases h
structure InvR (i n : Int) (l at_ val : List Int) : Prop where
 same : l = at_
 len : n = l.length
 both : at_.length = val.length
 lo : 0 <= i
 hi : i <= n
 big : (l.length : Int) <= 9223372036854775807
def FR (x : ptR.M.X) : Fr ptR.Out :=
 Fr.need (InvR x.1.1 x.1.2.1 x.1.2.2.1 x.2.1.1 x.2.1.2.1)
  (Fr.br (rises (x.1.2.2.1.drop x.1.1.toNat) (x.2.1.2.1.drop x.1.1.toNat) x.1.2.2.2.1 x.1.2.2.2.2.1) (Fr.val (Rd.out ((), ()))) (Fr.val (Rd.back ((false, ()), ()))))
theorem lawR (i n : Int) (l : List Int) (d v : Int) (at_ val : List Int) (hinv : InvR i n l at_ val) (Q : ptR.Out -> Prop)
  (hq : (Fr.br (rises (l.drop i.toNat) (val.drop i.toNat) d v) (Fr.val (Rd.out ((), ()))) (Fr.val (Rd.back ((false, ()), ()))) : Fr ptR.Out).satP Q) :
  (frR ((i, n, l, d, v, ()), (at_, val, ()), ())).satP fun
   | .next x' => InvR x'.1.1 x'.1.2.1 x'.1.2.2.1 x'.2.1.1 x'.2.1.2.1 /\ (x'.1.2.1 - x'.1.1).toNat < (n - i).toNat /\ (FR x').satP Q
   | .out y => Q (.out y)
   | .back z => Q (.back z)
   | .pan p => Q (.pan p) := by
 obtain ⟨rfl, rfl, h3, h4, h5, h6⟩ := hinv
 refine ⟨fun hi => ?_, fun hi => ?_⟩
 ·have hi' : i < l.length := by simpa using hi
  have hl : i.toNat < l.length := by omega
  have hv : i.toNat < val.length := by omega
  have e1 : l.drop i.toNat = l[i.toNat] :: l.drop (i.toNat + 1) := List.drop_eq_getElem_cons hl
  have e2 : val.drop i.toNat = val[i.toNat] :: val.drop (i.toNat + 1) := List.drop_eq_getElem_cons hv
  have g1 : l.getD i.toNat i64.dflt = l[i.toNat] := by rw [List.getD_eq_getElem?_getD, List.getElem?_eq_getElem hl]; rfl
  have g2 : val.getD i.toNat i64.dflt = val[i.toNat] := by rw [List.getD_eq_getElem?_getD, List.getElem?_eq_getElem hv]; rfl
  rw [e1, e2] at hq
  generalize hx : l[i.toNat] = x at *
  generalize hy : val[i.toNat] = y at *
  have hw : IntKind.i64.wrap (i + 1) = i + 1 := IntWalk.i64_in _ (by omega)
  have hn : (i + 1).toNat = i.toNat + 1 := by omega
  refine ⟨⟨h4, hi'⟩, ⟨h4, by show i < (val.length : Int); omega⟩, ?_⟩
  show ((bif bif bif decide (l.getD i.toNat i64.dflt <= d) then true else decide (l.getD i.toNat i64.dflt > 292194) then true else val.getD i.toNat i64.dflt == v then true else !(money (val.getD i.toNat i64.dflt))) = true -> Q (Rd.back ((false, ()), ()))) /\
   ((bif bif bif decide (l.getD i.toNat i64.dflt <= d) then true else decide (l.getD i.toNat i64.dflt > 292194) then true else val.getD i.toNat i64.dflt == v then true else !(money (val.getD i.toNat i64.dflt))) = false ->
    InvR (IntKind.i64.wrap (i + 1)) l.length l l val /\ ((l.length : Int) - IntKind.i64.wrap (i + 1)).toNat < ((l.length : Int) - i).toNat /\
     (FR ((IntKind.i64.wrap (i + 1), (l.length : Int), l, l.getD i.toNat i64.dflt, val.getD i.toNat i64.dflt, ()), (l, val, ()), ())).satP Q)
  rw [g1, g2, hw]
  have hcond : (bif bif bif decide (x <= d) then true else decide (x > 292194) then true else y == v then true else !(money y)) = !(decide (d < x) && (decide (x <= 292194) && (!(y == v) && money y))) := by
   have a1 : decide (x <= d) = !decide (d < x) := by by_cases h : x <= d <;> simp [h] <;> omega
   have a2 : decide (x > 292194) = !decide (x <= 292194) := by by_cases h : x <= 292194 <;> simp [h] <;> omega
   rw [a1, a2]
   cases decide (d < x) <;> cases decide (x <= 292194) <;> cases (y == v) <;> cases money y <;> rfl
  rw [hcond]
  have hri : rises (x :: l.drop (i.toNat + 1)) (y :: val.drop (i.toNat + 1)) d v = ((decide (d < x) && (decide (x <= 292194) && (!(y == v) && money y))) && rises (l.drop (i.toNat + 1)) (val.drop (i.toNat + 1)) x y) := rfl
  rw [hri] at hq
  refine ⟨fun hb => ?_, fun hb => ?_⟩
  ·have hb' : (decide (d < x) && (decide (x <= 292194) && (!(y == v) && money y))) = false := not_true_of hb
   rw [hb'] at hq
   exact hq.2 rfl
  ·have hb' : (decide (d < x) && (decide (x <= 292194) && (!(y == v) && money y))) = true := not_false_of hb
   rw [hb', Bool.true_and] at hq
   have hI : InvR (i + 1) l.length l l val := ⟨rfl, rfl, h3, by omega, by omega, h6⟩
   refine ⟨hI, by omega, hI, ?_⟩
   show (Fr.br (rises (l.drop (i + 1).toNat) (val.drop (i + 1).toNat) x y) (Fr.val (Rd.out ((), ()))) (Fr.val (Rd.back ((false, ()), ()))) : Fr ptR.Out).satP Q
   rw [hn]
   exact hq
 ·have hi' : ¬ i < l.length := by simpa using hi
  have hl : l.drop i.toNat = [] := List.drop_eq_nil_of_le (by omega)
  rw [hl] at hq
  exact hq.1 rfl
theorem loopR : Does Tryz.prog (.loop (loopOf Tryz.f134 0)) ptR.M ptR FR := by
 refine Does.loop (n := 48) (id := 0) semR (inv := fun x => InvR x.1.1 x.1.2.1 x.1.2.2.1 x.2.1.1 x.2.1.2.1) (μ := fun x => (x.1.2.1 - x.1.1).toNat) ?_ (fun x Q h => h.1)
 rintro ⟨⟨i, n, l, d, v, _⟩, ⟨at_, val, _⟩, _⟩ hinv Q hq
 exact lawR i n l d v at_ val hinv Q hq.2
def ΛR : Nat -> St -> Option Tr := fun _ => ptR.han Γ3 ptR.M FR
def frRt (x : denP [.d stepT]) : Fr (denL [.bool]) :=
 Fr.br ((x.1.1.length : Int) != (x.1.2.1.length : Int)) (Fr.val (false, ()))
  (Fr.need (InvR 0 x.1.1.length x.1.1 x.1.1 x.1.2.1)
   (Fr.br (rises (x.1.1.drop (Int.toNat 0)) (x.1.2.1.drop (Int.toNat 0)) 0 0) (Fr.val (true, ())) (Fr.val (false, ()))))
theorem right_fr : SoundCt Tryz.prog 134 ⟨[.d stepT], [.bool], fun xs => (frRt xs).get, fun xs => [(frRt xs).ok]⟩ :=
 fn_sound C3_ok (Λ := ΛR) (fn := Tryz.f134) (([], [], ()), ()) (by kernel_rfl) (fun c E hc => lam_one hc (by kernel_rfl) (b := loopOf Tryz.f134 0) (by kernel_rfl) (Does.han C3_ok rfl loopR)) (fun xs => by kernel_rfl)
def rightSt (f : stepT.den) : Bool := decide (f.1.length = f.2.1.length) && rises f.1 f.2.1 0 0
def cRight : Ct := ⟨[.d stepT], [.bool], fun x => (rightSt x.1, ()), fun _ => []⟩
theorem right_ok : SoundCt Tryz.prog 134 cRight :=
 conv right_fr _ _ fun w F xs vs hr _ => by
  obtain ⟨⟨at_, val, _⟩, _⟩ := xs
  obtain ⟨v, vs', rfl, hv, _⟩ := hr
  have hwf := RepT.wf hv.2.2
  have hlen : (at_.length : Int) <= 9223372036854775807 := by
   have := hwf.1.1
   simp only [maxLen] at this
   omega
  by_cases hl : at_.length = val.length
  ·have hne : ((at_.length : Int) != (val.length : Int)) = false := by simp [hl]
   refine ⟨⟨fun hb => ?_, fun _ => ⟨⟨rfl, rfl, hl, Int.le_refl _, by omega, hlen⟩, ⟨fun _ => trivial, fun _ => trivial⟩⟩⟩, ?_⟩
   ·trivial
   ·show (if ((at_.length : Int) != (val.length : Int)) = true then (false, ()) else if rises at_ val 0 0 = true then (true, ()) else (false, ())) = (decide (at_.length = val.length) && rises at_ val 0 0, ())
    rw [hne, decide_eq_true hl]
    cases rises at_ val 0 0 <;> rfl
  ·have hne : ((at_.length : Int) != (val.length : Int)) = true := by simp; omega
   refine ⟨⟨fun _ => trivial, fun hb => ?_⟩, ?_⟩
   ·have hb' : ((at_.length : Int) != (val.length : Int)) = false := hb
    rw [hne] at hb'
    cases hb'
   ·show (if ((at_.length : Int) != (val.length : Int)) = true then (false, ()) else _) = (decide (at_.length = val.length) && rises at_ val 0 0, ())
    rw [hne, decide_eq_false hl]
    rfl
end Go.Proofs.YtplkgghjldndkaaGreat
namespace Go.Proofs.YtplkgghjldndkaaGreat
open Go Go.Ab Go.RowKit Go.Proofs Go.Shelf
attribute [local go_sem] Oper.semAt_some
theorem sl_cells {w : World} {F : Nat -> Prop} {l : List Int} {v : Value} (h : RepT w F ints l (fun _ u => u = v)) :
  ∃ A c, v = .slice A l.length c /\ l.length <= c /\ c <= maxLen /\ (0 < l.length -> ∃ b off, A = some ⟨b, off, none⟩ /\ F b /\ ∀ (i : Nat) (x : Int), l[i]? = some x -> w.cell? ⟨b, off + i, none⟩ = some (.int .i64 x) /\ -9223372036854775808 <= x /\ x <= 9223372036854775807) := by
 obtain ⟨A, c, rfl, h1, h2, h3⟩ := h
 refine ⟨A, c, rfl, h1, h2, fun hp => ?_⟩
 obtain ⟨ad, rfl, hF, hc, _⟩ := h3 0 l[0] (List.getElem?_eq_getElem hp)
 have hs : ad.spot = none := by
  have hc' : w.cell? (ad.add (0 * i64.size + 0)) = some (.int .i64 l[0]) := hc
  have he : ad.add (0 * i64.size + 0) = ad := by simp [Addr.add]
  rw [he] at hc'
  unfold World.cell? at hc'
  split at hc'
  ·split at hc'
   ·cases hc'
   ·rename_i hsp
    cases hsp2 : ad.spot with
    | none => rfl
    | some _ => rw [hsp2] at hsp; exact absurd rfl hsp
  ·cases hc'
 obtain ⟨b, off, sp⟩ := ad
 simp only at hs
 subst hs
 refine ⟨b, off, rfl, hF, fun i x hx => ?_⟩
 obtain ⟨ad, hA, _, hcx, hr⟩ := h3 i x hx
 simp only [Option.some.injEq] at hA
 subst hA
 have hcx' : w.cell? ((⟨b, off, none⟩ : Addr).add (i * 1 + 0)) = some (.int .i64 x) := hcx
 have he : (⟨b, off, none⟩ : Addr).add (i * 1 + 0) = ⟨b, off + i, none⟩ := by
  unfold Addr.add
  split
  ·have : i = 0 := by omega
   subst this
   rfl
  ·simp
 rw [he] at hcx'
 exact ⟨hcx', hr⟩
def piecesGo (f : stepT.den) (e : Int) : List Int -> Int -> List (Int × Int × Int)
 | [], a => [(a, e, valAt f a)]
 | d :: l, a => if d <= a ∨ e <= d then piecesGo f e l a else (a, d, valAt f a) :: piecesGo f e l d
def KpS (n₀ B1 B2 : Nat) (W W' : World) : Prop := Below n₀ W W' /\ W'.heap[B1]? = W.heap[B1]? /\ W'.heap[B2]? = W.heap[B2]?
theorem KpS.refl (n₀ B1 B2 : Nat) (W : World) : KpS n₀ B1 B2 W W := ⟨Below.refl _ _, rfl, rfl⟩
theorem KpS.trans {n₀ B1 B2 : Nat} {A B C : World} (h : KpS n₀ B1 B2 A B) (k : KpS n₀ B1 B2 B C) : KpS n₀ B1 B2 A C := ⟨h.1.trans k.1, k.2.1.trans h.2.1, k.2.2.trans h.2.2⟩
theorem KpS.below {n₀ B1 B2 : Nat} {W W' : World} (h : Below W.heap.size W W') (h0 : n₀ <= W.heap.size) (h1 : B1 < W.heap.size) (h2 : B2 < W.heap.size) : KpS n₀ B1 B2 W W' := ⟨h.mono h0, h.block _ h1, h.block _ h2⟩
theorem abide_below {β : Type} {B : Nat} {J : β -> World -> Prop} (hJ : AbidesFrom B J) {s : β} {W W' : World} (h : J s W) (hb : Below W.heap.size W W') : J s W' :=
 hJ s W W' none h ⟨hb.os, hb.tape, hb.output, hb.size, fun k hk _ => hb.block k hk⟩ (fun r e => nomatch e)
abbrev pieceV (x : Int × Int × Int) : Array Value := #[.agg #[.int .i64 x.1, .int .i64 x.2.1], .int .i64 x.2.2]
def ValCalls (f : stepT.den) (va : Value) (W : World) : Prop := ∀ d : Int, -9223372036854775808 <= d -> d <= 9223372036854775807 -> Calls Tryz.prog 158 #[va, .int .i64 d] W fun e W' => e = .returned (.int .i64 (valAt f d)) /\ Below W.heap.size W W'
theorem valCalls_of {f : stepT.den} {va : Value} {W : World} {F : Nat -> Prop} (hb : ∀ b, F b -> b < W.heap.size) (hr : RepV W F stepT f va) (h1 : f.1.Pairwise (· < ·)) (h2 : f.1.length = f.2.1.length) : ValCalls f va W := fun d hd1 hd2 => by
 have hi : RepV W F i64 d (.int .i64 d) := ⟨rfl, ⟨fun h => (by cases h), fun ⟨cs, h⟩ => (by cases h)⟩, rfl, hd1, hd2⟩
 refine (value_ok.2 W F (f, d, ()) [va, .int .i64 d] hb ⟨va, _, rfl, hr, _, [], rfl, hi, rfl⟩ ⟨h1, h2⟩).mono ?_
 rintro e W' ⟨v, F', rfl, hbel, _, _, hv⟩
 have hv' : RepA Tryz.prog W' F' (fun _ _ => True) (encV i64 (valAt f d)) v := encV_rep hv
 have hv2 : v = .int .i64 (valAt f d) := hv'.2.1
 exact ⟨by rw [hv2], hbel⟩
end Go.Proofs.YtplkgghjldndkaaGreat
namespace Go.Proofs.YtplkgghjldndkaaGreat
open Go Go.Ab Go.RowKit Go.Proofs Go.Shelf
attribute [local go_sem] Oper.semAt_some
theorem cell_of_block {W : World} {b : Nat} {cs : Array Value} {t : TypeId} {x : Nat × Nat} (h : W.heap[b]? = some (.cells cs t x)) (i : Nat) : W.cell? ⟨b, i, none⟩ = cs[i]? := by
 simp [World.cell?, h]
structure RoundAt (n₀ B1 B2 : Nat) (A : Option Addr) (at_ : List Int) (va vb : Value) (e0 e1 : Int) (f : stepT.den) (W : World) : Prop where
 b1 : W.heap[B1]? = some (.cells #[va, vb] 97 (0, 0))
 b2 : W.heap[B2]? = some (.cells #[.int .i64 e0, .int .i64 e1] 23 (0, 0))
 cells : 0 < at_.length -> ∃ b off, A = some ⟨b, off, none⟩ /\ b < n₀ /\ ∀ (i : Nat) (x : Int), at_[i]? = some x -> W.cell? ⟨b, off + i, none⟩ = some (.int .i64 x) /\ -9223372036854775808 <= x /\ x <= 9223372036854775807
 vals : ValCalls f (.agg #[va, vb]) W
section
variable {α : Type} {g : α -> Int × Int × Int}
theorem nextEl {β : Type} {g : α -> β} {all pre : List α} {y : β} {rest : List β} (h : pre.map g ++ y :: rest = all.map g) (hp : pre <+: all) : ∃ x, g x = y /\ pre ++ [x] <+: all := by
 obtain ⟨t, rfl⟩ := hp
 rw [List.map_append] at h
 have h' := List.append_cancel_left h
 cases t with
 | nil => cases h'
 | cons x t =>
  simp only [List.map_cons, List.cons.injEq] at h'
  exact ⟨x, h'.1.symm, t, by simp⟩
def PieceRel (g : α -> Int × Int × Int) (f : stepT.den) (e1 : Int) (at_ : List Int) (all : List α) (k : Nat) (cur : Int) (pre : List α) : Prop := pre <+: all /\ pre.map g ++ piecesGo f e1 (at_.drop k) cur = all.map g
theorem PieceRel.skip {f : stepT.den} {e1 : Int} {at_ : List Int} {all : List α} {k : Nat} {cur : Int} {pre : List α} (h : PieceRel g f e1 at_ all k cur pre) {d : Int} (hd : at_[k]? = some d) (hc : d <= cur ∨ e1 <= d) : PieceRel g f e1 at_ all (k + 1) cur pre := by
 obtain ⟨hk, rfl⟩ := List.getElem?_eq_some_iff.1 hd
 refine ⟨h.1, ?_⟩
 have h2 := h.2
 rw [List.drop_eq_getElem_cons hk] at h2
 rw [← h2]
 conv => rhs; unfold piecesGo
 rw [if_pos hc]
theorem PieceRel.step {f : stepT.den} {e1 : Int} {at_ : List Int} {all : List α} {k : Nat} {cur : Int} {pre : List α} (h : PieceRel g f e1 at_ all k cur pre) {d : Int} (hd : at_[k]? = some d) (hc : ¬ (d <= cur ∨ e1 <= d)) :
  ∃ x, g x = (cur, d, valAt f cur) /\ PieceRel g f e1 at_ all (k + 1) d (pre ++ [x]) /\ pre.length < all.length := by
 obtain ⟨hk, rfl⟩ := List.getElem?_eq_some_iff.1 hd
 have h2 := h.2
 rw [List.drop_eq_getElem_cons hk] at h2
 unfold piecesGo at h2
 rw [if_neg hc] at h2
 obtain ⟨x, hx, hp⟩ := nextEl h2 h.1
 refine ⟨x, hx, ⟨hp, ?_⟩, ?_⟩
 ·rw [← h2]
  simp [hx]
 ·have := hp.length_le
  simp at this
  omega
theorem PieceRel.last {f : stepT.den} {e1 : Int} {at_ : List Int} {all : List α} {k : Nat} {cur : Int} {pre : List α} (h : PieceRel g f e1 at_ all k cur pre) (hk : at_.length <= k) :
  ∃ x, g x = (cur, e1, valAt f cur) /\ pre ++ [x] = all /\ pre.length < all.length := by
 have h2 := h.2
 rw [List.drop_eq_nil_of_le hk] at h2
 obtain ⟨x, hx, hp⟩ := nextEl (y := (cur, e1, valAt f cur)) (rest := []) h2 h.1
 have hl := congrArg List.length h2
 simp [piecesGo] at hl
 refine ⟨x, hx, hp.eq_of_length (by simp; omega), by omega⟩
end
set_option maxRecDepth 100000 in
set_option maxHeartbeats 2000000 in
theorem pieces1_in {α : Type} (g : α -> Int × Int × Int) (all : List α) (n : Nat) (hn : 1 <= n) (l B1 B2 n₀ : Nat) (A : Option Addr) (c : Nat) (at_ : List Int) (vb : Value) (hvb : ∃ A' n' c', vb = .slice A' n' c') (e0 e1 : Int) (f : stepT.den) (hlen : at_.length <= 9223372036854775807) (he0 : -9223372036854775808 <= e0 /\ e0 <= 9223372036854775807)
  (hall : all.map g = piecesGo f e1 at_ e0) (J Jx : List α -> World -> Prop) (W : World) (hJ : AbidesFrom W.heap.size J) (hn0 : n₀ <= W.heap.size)
  (hY : ∀ pre x W1, J pre W1 -> pre.length < all.length -> YieldAt Fence.wide (n - 1) Tryz.prog l (pieceV (g x)) W1 fun e W' =>
   (e = .returned (.bool true) /\ J (pre ++ [x]) W' /\ KpS n₀ B1 B2 W1 W') ∨ (e = .returned (.bool false) /\ Jx (pre ++ [x]) W'))
  (hat : ∀ W', KpS n₀ B1 B2 W W' -> RoundAt n₀ B1 B2 A at_ (.slice A at_.length c) vb e0 e1 f W') (h0 : J [] W) :
  CallsIn Fence.wide n Tryz.prog 157 #[.func (.yield l) #[] #[], .pointer (some ⟨B2, 0, none⟩), .pointer (some ⟨B1, 0, none⟩)] W fun e W' => (∃ v, e = .returned v) /\
   ((∃ xs, xs = all /\ J xs W') ∨ (∃ pre, pre <+: all /\ Jx pre W')) := by
 obtain ⟨A', n', c', rfl⟩ := hvb
 have hro : Fence.wide.round = none := rfl
 refine callsIn_of_wp Tryz.func157 rfl trivial ?_ hro
 simp only [Tryz.ntmps157, List.size_toArray, List.length_cons, List.length_nil, Nat.reduceAdd, Nat.reduceSub, Array.replicate_succ, Array.replicate_zero, List.push_toArray, List.append_toArray, List.nil_append, List.cons_append]
 have r0 := hat W (KpS.refl _ _ _ _)
 have c10 : W.cell? ⟨B1, 0, none⟩ = some (.slice A at_.length c) := cell_of_block r0.b1 0
 have c11 : W.cell? ⟨B1, 1, none⟩ = some (.slice A' n' c') := cell_of_block r0.b1 1
 have c20 : W.cell? ⟨B2, 0, none⟩ = some (.int .i64 e0) := cell_of_block r0.b2 0
 have c21 : W.cell? ⟨B2, 1, none⟩ = some (.int .i64 e1) := cell_of_block r0.b2 1
 have hlen' := hlen
 gi_wp2
 gi_loopw [4, 12] (fun u i wr => ∃ (k : Nat) (cur : Int) (pre : List α), k <= at_.length /\ i = .int .i64 k /\ u = .int .i64 cur /\ (-9223372036854775808 <= cur /\ cur <= 9223372036854775807) /\ PieceRel g f e1 at_ all k cur pre /\ J pre wr /\ KpS n₀ B1 B2 W wr)
  (fun _ i _ => at_.length - (intOf i).toNat)
 case atStart => exact ⟨0, e0, [], Nat.zero_le _, rfl, rfl, he0, ⟨List.nil_prefix, hall.symm⟩, h0, KpS.refl _ _ _ _⟩
 case round =>
  obtain ⟨k, cur, pre, hk, rfl, rfl, hcur, hrel, hJs, hkp⟩ := hrel
  clear c10 c11 c20 c21 r0
  have rr := hat _ hkp
  have c10 : wr.cell? ⟨B1, 0, none⟩ = some (.slice A at_.length c) := cell_of_block rr.b1 0
  have c11 : wr.cell? ⟨B1, 1, none⟩ = some (.slice A' n' c') := cell_of_block rr.b1 1
  have c21 : wr.cell? ⟨B2, 1, none⟩ = some (.int .i64 e1) := cell_of_block rr.b2 1
  by_cases hlt : k < at_.length
  ·obtain ⟨b, off, rfl, hb, hcx⟩ := rr.cells (by omega)
   obtain ⟨d, hd⟩ : ∃ d, at_[k]? = some d := ⟨_, List.getElem?_eq_getElem hlt⟩
   obtain ⟨hcd, hdr⟩ := hcx k d hd
   clear hcx
   have hb1 : B1 < wr.heap.size := (Array.getElem?_eq_some_iff.1 rr.b1).1
   have hb2 : B2 < wr.heap.size := (Array.getElem?_eq_some_iff.1 rr.b2).1
   have hn1 : n₀ <= wr.heap.size := Nat.le_trans hn0 hkp.1.size
   by_cases t1 : d <= cur
   ·have ht1 : decide (d <= cur) = true := by simpa using t1
    have hn := hrel.skip hd (.inl t1)
    gi_wp2
    exact ⟨⟨k + 1, cur, pre, by omega, by simp, rfl, hcur, hn, hJs, hkp⟩, by simp [intOf]; omega⟩
   ·have ht1 : decide (d <= cur) = false := by simpa using t1
    by_cases t2 : e1 <= d
    ·have ht2 : decide (d ≥ e1) = true := by simpa using t2
     have hn := hrel.skip hd (.inr t2)
     gi_wp2
     exact ⟨⟨k + 1, cur, pre, by omega, by simp, rfl, hcur, hn, hJs, hkp⟩, by simp [intOf]; omega⟩
    ·have ht2 : decide (d ≥ e1) = false := by simpa using t2
     obtain ⟨x, hgx, hst, hln⟩ := hrel.step hd (by omega)
     gi_wp2
     refine ⟨trivial, ?_⟩
     refine (callsIn_wide.2 (rr.vals cur hcur.1 hcur.2)).mono ?_
     rintro e w1 ⟨rfl, hbel⟩
     have hk1 := hkp.trans (KpS.below hbel hn1 hb1 hb2)
     obtain ⟨fn, tmps, assign, body, hy, hR⟩ := hY pre x w1 (abide_below hJ hJs hbel) hln
     rw [hgx] at hy
     gi_wp2
     refine hR.mono ?_
     rintro e W3 (⟨rfl, hJ3, hk3⟩ | ⟨rfl, hJx3⟩)
     ·gi_wp2
      go_roundw
      case rel => exact ⟨k + 1, d, pre ++ [x], by omega, by simp, rfl, hdr, hst, hJ3, hk1.trans hk3⟩
      case measure => simp [intOf]; omega
     ·gi_wp2
      refine bodyPost_ret (results_none rfl _ _ _) rfl ?_
      exact ⟨⟨_, rfl⟩, .inr ⟨_, hst.1, hJx3⟩⟩
  ·obtain rfl : k = at_.length := by omega
   obtain ⟨x, hgx, hl, hln⟩ := hrel.last (Nat.le_refl _)
   have hb1 : B1 < wr.heap.size := (Array.getElem?_eq_some_iff.1 rr.b1).1
   have hb2 : B2 < wr.heap.size := (Array.getElem?_eq_some_iff.1 rr.b2).1
   have hn1 : n₀ <= wr.heap.size := Nat.le_trans hn0 hkp.1.size
   have hmx : Tryz.prog.follows .mixedOrders = true := by kernel_rfl
   have hkd : KpS n₀ B1 B2 W wr.drew := hkp.trans ⟨⟨rfl, rfl, rfl, Nat.le_refl _, fun _ _ => rfl⟩, rfl, rfl⟩
   have rd := hat _ hkd
   have hJd : J pre wr.drew := abide_below hJ hJs ⟨rfl, rfl, rfl, Nat.le_refl _, fun _ _ => rfl⟩
   gi_wp2
   gi_region_with_o (first
    | (refine ⟨trivial, ?_⟩; gi_at_call 158; refine (callsIn_wide.2 (rd.vals cur hcur.1 hcur.2)).mono ?_; rintro e w1 ⟨rfl, hbel⟩; have d21 : w1.cell? ⟨B2, 1, none⟩ = some (.int .i64 e1) := cell_of_block (hat _ (hkd.trans (KpS.below hbel hn1 hb1 hb2))).b2 1; obtain ⟨fn, tmps, assign, body, hy, hR⟩ := hY pre x w1 (abide_below hJ hJd hbel) hln; rw [hgx] at hy)
    | (refine (hR.mono (R' := fun e W' => ∃ bv, e = .returned (.bool bv) /\ (if bv = true then J (pre ++ [x]) W' else Jx (pre ++ [x]) W')) (fun e W' h => h.elim (fun h => ⟨true, h.1, h.2.1⟩) (fun h => ⟨false, h.1, h.2⟩))).mono ?_; rintro e W3 ⟨bv, rfl, hJ3⟩))
   all_goals go_end0
   all_goals (refine ⟨⟨_, rfl⟩, ?_⟩; cases bv; exact .inr ⟨_, ⟨[], by rw [List.append_nil]; exact hl⟩, hJ3⟩; exact .inl ⟨_, hl, hJ3⟩)
end Go.Proofs.YtplkgghjldndkaaGreat
namespace Go.Proofs.YtplkgghjldndkaaGreat
open Go Go.Ab Go.RowKit Go.Proofs Go.Shelf
attribute [local go_sem] Oper.semAt_some
theorem money_iff {v : Int} : money v = true ↔ -4000000000000000000 <= v /\ v <= 4000000000000000000 := by simp [money]
theorem rises_spec : {l r : List Int} -> {d v : Int} -> rises l r d v = true -> l.length = r.length -> l.Pairwise (· < ·) /\ (∀ x ∈ l, d < x /\ x <= 292194) /\ ∀ y ∈ r, money y = true
 | [], [], _, _, _, _ => ⟨List.Pairwise.nil, by simp, by simp⟩
 | [], _ :: _, _, _, _, hl => by simp at hl
 | _ :: _, [], _, _, _, hl => by simp at hl
 | a :: l, b :: r, d, v, h, hl => by
  simp only [rises, Bool.and_eq_true, decide_eq_true_eq] at h
  obtain ⟨⟨h1, h2, h3, h4⟩, h5⟩ := h
  obtain ⟨i1, i2, i3⟩ := rises_spec h5 (by simpa using hl)
  refine ⟨List.pairwise_cons.2 ⟨fun x hx => (i2 x hx).1, i1⟩, fun x hx => ?_, fun y hy => ?_⟩
  ·rcases List.mem_cons.1 hx with rfl | hx
   ·exact ⟨h1, h2⟩
   ·exact ⟨Int.lt_trans h1 (i2 x hx).1, (i2 x hx).2⟩
  ·rcases List.mem_cons.1 hy with rfl | hy
   ·exact h4
   ·exact i3 y hy
theorem rightSt_spec {f : stepT.den} (h : rightSt f = true) : f.1.length = f.2.1.length /\ f.1.Pairwise (· < ·) /\ (∀ x ∈ f.1, 0 < x /\ x <= 292194) /\ ∀ y ∈ f.2.1, -4000000000000000000 <= y /\ y <= 4000000000000000000 := by
 simp only [rightSt, Bool.and_eq_true, decide_eq_true_eq] at h
 obtain ⟨h1, h2, h3⟩ := rises_spec h.2 h.1
 exact ⟨h.1, h1, h2, fun y hy => money_iff.1 (h3 y hy)⟩
theorem valAt_bd {f : stepT.den} (h : ∀ y ∈ f.2.1, -4000000000000000000 <= y /\ y <= 4000000000000000000) (d : Int) : -4000000000000000000 <= valAt f d /\ valAt f d <= 4000000000000000000 := by
 unfold valAt
 split
 ·omega
 ·rename_i k _
  rw [List.getD_eq_getElem?_getD]
  cases hk : f.2.1[k]? with
  | none => simp
  | some y =>
   have := h y (List.mem_of_getElem? hk)
   simpa using this
def PieceOk (x : Int × Int × Int) : Prop := 1 <= x.1 /\ x.1 < x.2.1 /\ x.2.1 <= 292195 /\ -4000000000000000000 <= x.2.2 /\ x.2.2 <= 4000000000000000000
theorem piecesGo_ok {f : stepT.den} (h : ∀ y ∈ f.2.1, -4000000000000000000 <= y /\ y <= 4000000000000000000) {e : Int} (he : e <= 292195) : (l : List Int) -> (a : Int) -> 1 <= a -> a < e -> ∀ x ∈ piecesGo f e l a, PieceOk x
 | [], a, h1, h2, x, hx => by
  simp only [piecesGo, List.mem_singleton] at hx
  subst hx
  exact ⟨h1, h2, he, valAt_bd h a⟩
 | d :: l, a, h1, h2, x, hx => by
  unfold piecesGo at hx
  split at hx
  ·exact piecesGo_ok h he l a h1 h2 x hx
  ·rename_i hc
   rcases List.mem_cons.1 hx with rfl | hx
   ·exact ⟨h1, by show a < d; omega, by show d <= 292195; omega, valAt_bd h a⟩
   ·exact piecesGo_ok h he l d (by omega) (by omega) x hx
abbrev PieceT : Type := { x : Int × Int × Int // PieceOk x }
def sumStep (q : Int × Int) (x : Int × Int × Int) : Option (Int × Int) :=
 if max x.2.2 (-x.2.2) > (4000000000000000000 - q.2) / (x.2.1 - x.1) then none else some (q.1 + (x.2.1 - x.1) * x.2.2, q.2 + (x.2.1 - x.1) * max x.2.2 (-x.2.2))
def sumGo : List (Int × Int × Int) -> Int × Int -> Option (Int × Int)
 | [], q => some q
 | x :: l, q => (sumStep q x).bind (sumGo l)
theorem sumGo_append (l m : List (Int × Int × Int)) (q : Int × Int) : sumGo (l ++ m) q = (sumGo l q).bind (sumGo m) := by
 induction l generalizing q with
 | nil => rfl
 | cons x l ih =>
  simp only [List.cons_append, sumGo]
  cases sumStep q x with
  | none => rfl
  | some q' => exact ih q'
def SumInv (q : Int × Int) : Prop := 0 <= q.2 /\ q.2 <= 4000000000000000000 /\ -q.2 <= q.1 /\ q.1 <= q.2
theorem sumStep_inv {q q' : Int × Int} {x : Int × Int × Int} (hx : PieceOk x) (h : sumStep q x = some q') (hq : SumInv q) : SumInv q' /\ (x.2.1 - x.1) * max x.2.2 (-x.2.2) <= 4000000000000000000 - q.2 /\ 0 <= (x.2.1 - x.1) * max x.2.2 (-x.2.2) /\ -((x.2.1 - x.1) * max x.2.2 (-x.2.2)) <= (x.2.1 - x.1) * x.2.2 /\ (x.2.1 - x.1) * x.2.2 <= (x.2.1 - x.1) * max x.2.2 (-x.2.2) := by
 obtain ⟨h1, h2, h3, h4, h5⟩ := hx
 obtain ⟨a, b, v⟩ := x
 obtain ⟨s, t⟩ := q
 obtain ⟨g1, g2, g3, g4⟩ := hq
 simp only at *
 unfold sumStep at h
 split at h
 ·cases h
 ·rename_i hc
  simp only [Option.some.injEq] at h
  subst h
  simp only at *
  have hn : 0 < b - a := by omega
  have hle : max v (-v) <= (4000000000000000000 - t) / (b - a) := by omega
  have e1 : (b - a) * max v (-v) <= 4000000000000000000 - t := by
   have := (Int.le_ediv_iff_mul_le hn).1 hle
   rw [Int.mul_comm]
   exact this
  have e2 : 0 <= (b - a) * max v (-v) := Int.mul_nonneg (by omega) (by omega)
  have e3 : (b - a) * v <= (b - a) * max v (-v) := Int.mul_le_mul_of_nonneg_left (by omega) (by omega)
  have e4 : -((b - a) * max v (-v)) <= (b - a) * v := by
   rw [← Int.mul_neg]
   exact Int.mul_le_mul_of_nonneg_left (by omega) (by omega)
  generalize (b - a) * max v (-v) = m at *
  generalize (b - a) * v = k at *
  refine ⟨⟨?_, ?_, ?_, ?_⟩, e1, e2, e4, e3⟩ <;> simp only <;> omega
def sumSt (f : stepT.den) (s : spanT.den) : Int × Int :=
 if rightSt f = true /\ fullS s = true then match sumGo (piecesGo f s.2.1 f.1 s.1) (0, 0) with
  | some q => (q.1, 0)
  | none => (0, 5)
 else (0, 1)
def cSum : Ct := ⟨[.d stepT, .d spanT], [i64, i64], fun x => ((sumSt x.1 x.2.1).1, (sumSt x.1 x.2.1).2, ()), fun _ => []⟩
set_option maxRecDepth 100000 in
set_option maxHeartbeats 1000000 in
theorem pieces_in (n : Nat) (A A' : Option Addr) (l1 c1 l2 c2 : Nat) (e0 e1 : Int) (w : World) :
  CallsIn Fence.wide n Tryz.prog 136 #[.agg #[.slice A l1 c1, .slice A' l2 c2], .agg #[.int .i64 e0, .int .i64 e1]] w fun e w' =>
   e = .returned (.func (.func 157) #[] #[.pointer (some ⟨w.heap.size + 1, 0, none⟩), .pointer (some ⟨w.heap.size, 0, none⟩)]) /\
   w' = (w.alloc (.cells #[.slice A l1 c1, .slice A' l2 c2] 97)).alloc (.cells #[.int .i64 e0, .int .i64 e1] 23) := by
 refine callsIn_of_wp Tryz.func136 rfl trivial ?_ rfl
 simp only [Tryz.ntmps136, List.size_toArray, List.length_cons, List.length_nil, Nat.reduceAdd, Nat.reduceSub, Array.replicate_succ, Array.replicate_zero, List.push_toArray, List.append_toArray, List.nil_append, List.cons_append]
 gi_wp2
 go_ret
 exact ⟨rfl, rfl⟩
end Go.Proofs.YtplkgghjldndkaaGreat
namespace Go.Proofs.YtplkgghjldndkaaGreat
open Go Go.Ab Go.RowKit Go.Proofs Go.Shelf
attribute [local go_sem] Oper.semAt_some
theorem boolCall {f : FuncId} {ps : List PT} {g : denP ps -> Bool} {ok : denP ps -> List Prop} (h : SoundCt Tryz.prog f ⟨ps, [.bool], fun x => (g x, ()), ok⟩) {w : World} {F : Nat -> Prop} {xs : denP ps} {vs : List Value} (hb : ∀ b, F b -> b < w.heap.size) (hr : RepPs Tryz.prog w F ps xs vs) (hok : conj (ok xs)) :
  Calls Tryz.prog f vs.toArray w fun e w' => e = .returned (.bool (g xs)) /\ Below w.heap.size w w' := by
 refine (h.2 w F xs vs hb hr hok).mono ?_
 rintro e w' ⟨v, F', rfl, hbel, _, _, hv⟩
 have hv' : RepA Tryz.prog w' F' (fun _ _ => True) (encV .bool (g xs)) v := encV_rep hv
 have hv2 : v = .bool (g xs) := hv'.2
 exact ⟨by rw [hv2], hbel⟩
structure Four (W : World) (z : Nat) (va vb x0 x1 x4 x5 : Value) : Prop where
 b0 : W.heap[z]? = some (.cells #[va, vb] 97 (0, 0))
 b1 : W.heap[z + 1]? = some (.cells #[x0, x1] 23 (0, 0))
 b2 : Boxed W (z + 1 + 1) 3 x4
 b3 : Boxed W (z + 1 + 1 + 1) 41 x5
theorem Four.below {W W' : World} {z m : Nat} {va vb x0 x1 x4 x5 : Value} (h : Four W z va vb x0 x1 x4 x5) (hb : Below m W W') (hm : z + 3 < m) : Four W' z va vb x0 x1 x4 x5 :=
 ⟨(hb.block _ (by omega)).trans h.b0, (hb.block _ (by omega)).trans h.b1, (hb.block _ (by omega)).trans h.b2, (hb.block _ (by omega)).trans h.b3⟩
theorem Four.start (w : World) (va vb x0 x1 x4 x5 : Value) :
  Four ((((w.alloc (.cells #[va, vb] 97)).alloc (.cells #[x0, x1] 23)).alloc (.cells #[x4] 3)).alloc (.cells #[x5] 41)) w.heap.size va vb x0 x1 x4 x5 := by
 have h0 := World.alloc_heap_new w (.cells #[va, vb] 97)
 have h1 := World.alloc_heap_new (w.alloc (.cells #[va, vb] 97)) (.cells #[x0, x1] 23)
 have h2 := World.alloc_heap_new ((w.alloc (.cells #[va, vb] 97)).alloc (.cells #[x0, x1] 23)) (.cells #[x4] 3)
 have h3 := World.alloc_heap_new (((w.alloc (.cells #[va, vb] 97)).alloc (.cells #[x0, x1] 23)).alloc (.cells #[x4] 3)) (.cells #[x5] 41)
 simp only [World.size_alloc] at h1 h2 h3
 exact ⟨(Below.heap_alloc _ _ _ (by simp only [World.size_alloc]; omega)).trans ((Below.heap_alloc _ _ _ (by simp only [World.size_alloc]; omega)).trans ((Below.heap_alloc _ _ _ (by simp only [World.size_alloc]; omega)).trans h0)),
  (Below.heap_alloc _ _ _ (by simp only [World.size_alloc]; omega)).trans ((Below.heap_alloc _ _ _ (by simp only [World.size_alloc]; omega)).trans h1),
  (Below.heap_alloc _ _ _ (by simp only [World.size_alloc]; omega)).trans h2, h3⟩
theorem Four.cells {W : World} {z : Nat} {va vb x0 x1 x4 x5 : Value} (h : Four W z va vb x0 x1 x4 x5) :
  W.cell? ⟨z, 0, none⟩ = some va /\ W.cell? ⟨z, 1, none⟩ = some vb /\ W.cell? ⟨z + 1, 0, none⟩ = some x0 /\ W.cell? ⟨z + 1, 1, none⟩ = some x1 /\
   W.cell? ⟨z + 1 + 1, 0, none⟩ = some x4 /\ W.frozen? ⟨z + 1 + 1, 0, none⟩ = false /\ W.cell? ⟨z + 1 + 1 + 1, 0, none⟩ = some x5 /\ W.frozen? ⟨z + 1 + 1 + 1, 0, none⟩ = false :=
 ⟨cell_of_block h.b0 0, cell_of_block h.b0 1, cell_of_block h.b1 0, cell_of_block h.b1 1, h.b2.cell, h.b2.frozen, h.b3.cell, h.b3.frozen⟩
set_option maxRecDepth 100000 in
set_option maxHeartbeats 4000000 in
theorem sum_no (f : stepT.den) (A A' : Option Addr) (l1 c1 l2 c2 : Nat) (e0 e1 : Int) (w : World)
  (hR : ∀ W, Below w.heap.size w W -> Calls Tryz.prog 134 #[.agg #[.slice A l1 c1, .slice A' l2 c2]] W fun e w' => e = .returned (.bool (rightSt f)) /\ Below W.heap.size W w')
  (hF : ∀ W, Calls Tryz.prog 135 #[.agg #[.int .i64 e0, .int .i64 e1]] W fun e w' => e = .returned (.bool (fullS (e0, e1, ()))) /\ Below W.heap.size W w')
  (hno : ¬ (rightSt f = true /\ fullS (e0, e1, ()) = true)) :
  CallsIn Fence.wide 8 Tryz.prog 97 #[.agg #[.slice A l1 c1, .slice A' l2 c2], .agg #[.int .i64 e0, .int .i64 e1]] w fun e w' => e = .returned (.tuple #[.int .i64 0, .int .i64 1]) /\ Below w.heap.size w w' := by
 refine callsIn_of_wp Tryz.func97 rfl trivial ?_ rfl
 simp only [Tryz.ntmps97, List.size_toArray, List.length_cons, List.length_nil, Nat.reduceAdd, Nat.reduceSub, Array.replicate_succ, Array.replicate_zero, List.push_toArray, List.append_toArray, List.nil_append, List.cons_append]
 generalize hb1 : rightSt f = b1 at *
 generalize hb2 : fullS (e0, e1, ()) = b2 at *
 have hB4 : Below w.heap.size w ((((w.alloc (.cells #[.slice A l1 c1, .slice A' l2 c2] 97)).alloc (.cells #[.int .i64 e0, .int .i64 e1] 23)).alloc (.cells #[.int .i64 0] 3)).alloc (.cells #[.int .i64 0] 41)) :=
  ((((Below.refl _ w).alloc (Nat.le_refl _) _).alloc (by simp) _).alloc (by simp; omega) _).alloc (by simp; omega) _
 have hS := Four.start w (.slice A l1 c1) (.slice A' l2 c2) (.int .i64 e0) (.int .i64 e1) (.int .i64 0) (.int .i64 0)
 have hz : w.heap.size + 3 < ((((w.alloc (.cells #[.slice A l1 c1, .slice A' l2 c2] 97)).alloc (.cells #[.int .i64 e0, .int .i64 e1] 23)).alloc (.cells #[.int .i64 0] 3)).alloc (.cells #[.int .i64 0] 41)).heap.size := by simp
 have HS := Lib.hid hS
 have HZ := Lib.hid hz
 clear hS hz
 cases b1
 ·gi_wp2_with (refine ⟨trivial, ?_⟩; gi_at_call 134; refine (callsIn_wide.2 (hR _ hB4)).mono ?_; rintro e w1 ⟨rfl, hb⟩; obtain ⟨k0, k1, k2, k3, k4, k5, k6, k7⟩ := (HS.out.below hb HZ.out).cells)
  refine ⟨trivial, ?_⟩
  gi_wp2
  refine bodyPost_ret (v := .tuple #[.int .i64 0, .int .i64 1]) (by simp [results, Tryz.results97, go_sem, k4, k6]) rfl ⟨rfl, ?_⟩
  exact (((hB4.trans (hb.mono (by simp; omega))).setCell (p := ⟨w.heap.size + 1 + 1, 0, none⟩) (by simp; omega) _).setCell (p := ⟨w.heap.size + 1 + 1 + 1, 0, none⟩) (by simp; omega) _)
 ·cases b2
  ·gi_wp2_with (first | (refine ⟨trivial, ?_⟩; gi_at_call 134; refine (callsIn_wide.2 (hR _ hB4)).mono ?_; rintro e w1 ⟨rfl, hb⟩; obtain ⟨k0, k1, k2, k3, k4, k5, k6, k7⟩ := (HS.out.below hb HZ.out).cells) | (refine ⟨trivial, ?_⟩; gi_at_call 135; refine (callsIn_wide.2 (hF _)).mono ?_; rintro e w2 ⟨rfl, hb2⟩; obtain ⟨m0, m1, m2, m3, m4, m5, m6, m7⟩ := ((HS.out.below hb HZ.out).below hb2 (Nat.lt_of_lt_of_le HZ.out hb.size)).cells))
   refine bodyPost_ret (v := .tuple #[.int .i64 0, .int .i64 1]) (by simp [results, Tryz.results97, go_sem, m4, m6]) rfl ⟨rfl, ?_⟩
   exact ((((hB4.trans (hb.mono (by simp; omega))).trans (hb2.mono (Nat.le_trans (hB4.trans (hb.mono (by simp; omega))).size (Nat.le_refl _)))).setCell (p := ⟨w.heap.size + 1 + 1, 0, none⟩) (by simp; omega) _).setCell (p := ⟨w.heap.size + 1 + 1 + 1, 0, none⟩) (by simp; omega) _)
  ·exact absurd ⟨rfl, rfl⟩ hno
theorem pieces_stops (m : Nat) (hm : 1 <= m) (f : stepT.den) (A A' : Option Addr) (c1 l2 c2 : Nat) (e0 e1 : Int) (all : List PieceT) (hall : all.map Subtype.val = piecesGo f e1 f.1 e0) (hlen : f.1.length <= 9223372036854775807) (he0 : -9223372036854775808 <= e0 /\ e0 <= 9223372036854775807) (w : World) (B1 B2 : Nat) (W0 : World) (h0 : Below w.heap.size w W0)
  (hb1 : W0.heap[B1]? = some (.cells #[.slice A f.1.length c1, .slice A' l2 c2] 97 (0, 0))) (hb2 : W0.heap[B2]? = some (.cells #[.int .i64 e0, .int .i64 e1] 23 (0, 0)))
  (hcells : ∀ W, Below w.heap.size w W -> 0 < f.1.length -> ∃ b off, A = some ⟨b, off, none⟩ /\ b < w.heap.size /\ ∀ (i : Nat) (x : Int), f.1[i]? = some x -> W.cell? ⟨b, off + i, none⟩ = some (.int .i64 x) /\ -9223372036854775808 <= x /\ x <= 9223372036854775807)
  (hvals : ∀ W, Below w.heap.size w W -> ValCalls f (.agg #[.slice A f.1.length c1, .slice A' l2 c2]) W) :
  SeqStopsK Fence.wide m Tryz.prog 157 #[.pointer (some ⟨B2, 0, none⟩), .pointer (some ⟨B1, 0, none⟩)] (fun x : PieceT => pieceV x.1) (KpS w.heap.size B1 B2) (fun xs => xs = all) (fun pre => pre <+: all) all.length W0 := fun l J Jx W hW hJ hJx hY hJ0 => by
 have g1 : B1 < W0.heap.size := (Array.getElem?_eq_some_iff.1 hb1).1
 have g2 : B2 < W0.heap.size := (Array.getElem?_eq_some_iff.1 hb2).1
 have hB : Below w.heap.size w W := h0.trans (hW.mono h0.size)
 refine pieces1_in Subtype.val all m hm l B1 B2 w.heap.size A c1 f.1 (.slice A' l2 c2) ⟨_, _, _, rfl⟩ e0 e1 f hlen he0 hall J Jx W hJ hB.size hY (fun W' hk => ?_) hJ0
 have hB' := hB.trans hk.1
 exact ⟨hk.2.1.trans ((hW.block _ g1).trans hb1), hk.2.2.trans ((hW.block _ g2).trans hb2), hcells W' hB', hvals W' hB'⟩
def SumEnd (o : Option (Int × Int)) (e : Ending) : Prop := match o with
 | some q => e = .returned (.tuple #[.int .i64 q.1, .int .i64 0])
 | none => e = .returned (.tuple #[.int .i64 0, .int .i64 5])
structure SumI (w : World) (z0 b4 b5 b6 b7 : Nat) (pre : List PieceT) (W : World) (q : Int × Int) : Prop where
 sum : sumGo (pre.map Subtype.val) (0, 0) = some q
 inv : SumInv q
 x6 : Boxed W b6 3 (.int .i64 q.1)
 x7 : Boxed W b7 3 (.int .i64 q.2)
 x4 : Boxed W b4 3 (.int .i64 0)
 x5 : Boxed W b5 41 (.int .i64 0)
 bel : Below w.heap.size w W
 sz : z0 <= W.heap.size
structure SumX (w : World) (b4 b5 : Nat) (c : Code) (pre : List PieceT) (W : World) : Prop where
 ret : c = .ret
 sum : sumGo (pre.map Subtype.val) (0, 0) = none
 x4 : Boxed W b4 3 (.int .i64 0)
 x5 : Boxed W b5 41 (.int .i64 5)
 bel : Below w.heap.size w W
theorem box_abides {X Y : World} {row : Option Nat} {B b : Nat} {t : TypeId} {v : Value} (h : Boxed X b t v) (hg : X.grownBy Y row) (hr : ∀ r, row = some r -> B <= r /\ ∃ o : Obj, X.heap[r]? = some o /\ o.isCells = false) : Boxed Y b t v :=
 boxed_own b t (fun (_ : Unit) => v) () X Y row h hg (fun r e => (hr r e).2)
theorem sumI_own {w : World} {z0 b4 b5 b6 b7 B : Nat} (hB : w.heap.size <= B) : OwnFrom B (fun pre W => ∃ q, SumI w z0 b4 b5 b6 b7 pre W q) := fun pre X Y row hs hg hr => by
 obtain ⟨q, h⟩ := hs
 exact ⟨q, h.sum, h.inv, box_abides h.x6 hg hr, box_abides h.x7 hg hr, box_abides h.x4 hg hr, box_abides h.x5 hg hr, h.bel.grown hg h.bel.size (fun k e => Nat.le_trans hB (hr k e).1), Nat.le_trans h.sz hg.size⟩
theorem sumX_own {w : World} {b4 b5 B : Nat} (hB : w.heap.size <= B) (c : Code) : OwnFrom B (fun pre W => SumX w b4 b5 c pre W) := fun pre X Y row h hg hr =>
 ⟨h.ret, h.sum, box_abides h.x4 hg hr, box_abides h.x5 hg hr, h.bel.grown hg h.bel.size (fun k e => Nat.le_trans hB (hr k e).1)⟩
def SumA (w0 : Nat) (a : Int × Int × Int -> Nat -> Act) (x : PieceT) (a' : Act) (W : World) : Prop := ∃ Bx, w0 <= Bx /\ W.heap[Bx]? = some (.cells #[.int .i64 x.1.1, .int .i64 x.1.2.1] 23 (0, 0)) /\ a' = a x.1 Bx
theorem sumA_own {w0 B : Nat} {a : Int × Int × Int -> Nat -> Act} (x : PieceT) (a' : Act) : OwnFrom B (fun (_ : Unit) W => SumA w0 a x a' W) := fun _ X Y row hs hg hr => by
 obtain ⟨Bx, h1, h2, h3⟩ := hs
 refine ⟨Bx, h1, (hg.block Bx (Array.getElem?_eq_some_iff.1 h2).1 (fun e => ?_)).trans h2, h3⟩
 obtain ⟨_, o, ho, hc⟩ := hr Bx e.symm
 rw [h2] at ho
 cases ho
 cases hc
theorem max_if (v : Int) : max v (-v) = if v < -v then -v else v := by split <;> omega
theorem sum_snoc {pre : List PieceT} {q : Int × Int} (h : sumGo (pre.map Subtype.val) (0, 0) = some q) (x : PieceT) : sumGo ((pre ++ [x]).map Subtype.val) (0, 0) = sumStep q x.1 := by
 rw [List.map_append, sumGo_append, h]
 show (sumStep q x.1).bind (sumGo []) = _
 cases sumStep q x.1 <;> rfl
theorem setCell_block (W : World) {b k : Nat} (v : Value) (h : k ≠ b) : (W.setCell ⟨b, 0, none⟩ v).heap[k]? = W.heap[k]? := by
 by_cases hk : k < W.heap.size
 ·exact (grownBy_setCell' W b v).block k hk (fun e => h (by cases e; rfl))
 ·rw [Array.getElem?_eq_none (by rw [World.size_setCell]; omega), Array.getElem?_eq_none (by omega)]
theorem sumBody_stop {w W : World} {z0 b4 b5 b6 b7 : Nat} {pre : List PieceT} {s a x0 x1 v : Int} (hi : SumI w z0 b4 b5 b6 b7 pre W (s, a)) (hx : PieceOk (x0, x1, v)) (hc : (4000000000000000000 - a) / (x1 - x0) < if v < -v then -v else v)
  (h45 : b4 ≠ b5) (h4 : w.heap.size <= b4) (h5 : w.heap.size <= b5) :
  SumX w b4 b5 .ret (pre ++ [⟨(x0, x1, v), hx⟩]) ((W.setCell ⟨b4, 0, none⟩ (.int .i64 0)).setCell ⟨b5, 0, none⟩ (.int .i64 5)) := by
 refine ⟨rfl, ?_, (hi.x4.set _).other h45 _, (hi.x5.other (Ne.symm h45) _).set _, (hi.bel.setCell (p := ⟨b4, 0, none⟩) h4 _).setCell (p := ⟨b5, 0, none⟩) h5 _⟩
 rw [sum_snoc hi.sum]
 unfold sumStep
 rw [if_pos]
 show max v (-v) > (4000000000000000000 - a) / (x1 - x0)
 rw [max_if]
 exact hc
theorem sumBody_next {w W : World} {z0 b4 b5 b6 b7 : Nat} {pre : List PieceT} {s a x0 x1 v m : Int} (hi : SumI w z0 b4 b5 b6 b7 pre W (s, a)) (hx : PieceOk (x0, x1, v)) (hc : (if v < -v then -v else v) <= (4000000000000000000 - a) / (x1 - x0)) (hm : m = if v < -v then -v else v)
  (h46 : b4 ≠ b6) (h47 : b4 ≠ b7) (h56 : b5 ≠ b6) (h57 : b5 ≠ b7) (h67 : b6 ≠ b7) (h6 : w.heap.size <= b6) (h7 : w.heap.size <= b7) :
  SumI w z0 b4 b5 b6 b7 (pre ++ [⟨(x0, x1, v), hx⟩]) ((W.setCell ⟨b6, 0, none⟩ (.int .i64 (wrap64 (s + wrap64 ((x1 - x0) * v))))).setCell ⟨b7, 0, none⟩ (.int .i64 (wrap64 (a + wrap64 ((x1 - x0) * m))))) (s + (x1 - x0) * v, a + (x1 - x0) * max v (-v)) := by
 have hs : sumStep (s, a) (x0, x1, v) = some (s + (x1 - x0) * v, a + (x1 - x0) * max v (-v)) := by
  unfold sumStep
  rw [if_neg]
  show ¬ max v (-v) > (4000000000000000000 - a) / (x1 - x0)
  rw [max_if]
  omega
 have hmm : m = max v (-v) := by rw [max_if]; exact hm
 obtain ⟨hinv, k1, k2, k3, k4⟩ := sumStep_inv hx hs hi.inv
 obtain ⟨j1, j2, j3, j4⟩ := hi.inv
 simp only at k1 k2 k3 k4 j1 j2 j3 j4
 subst hmm
 have e1 : wrap64 (s + wrap64 ((x1 - x0) * v)) = s + (x1 - x0) * v := by
  rw [IntWalk.wrap64_in ((x1 - x0) * v) (by omega), IntWalk.wrap64_in _ (by omega)]
 have e2 : wrap64 (a + wrap64 ((x1 - x0) * max v (-v))) = a + (x1 - x0) * max v (-v) := by
  rw [IntWalk.wrap64_in ((x1 - x0) * max v (-v)) (by omega), IntWalk.wrap64_in _ (by omega)]
 rw [e1, e2]
 exact ⟨by rw [sum_snoc hi.sum]; exact hs, hinv, (hi.x6.set _).other h67 _, (hi.x7.other (Ne.symm h67) _).set _, (hi.x4.other h46 _).other h47 _, (hi.x5.other h56 _).other h57 _,
  (hi.bel.setCell (p := ⟨b6, 0, none⟩) h6 _).setCell (p := ⟨b7, 0, none⟩) h7 _, by rw [World.size_setCell, World.size_setCell]; exact hi.sz⟩
theorem kp_set2 {n₀ B1 B2 b c : Nat} (W : World) (u v : Value) (hb : n₀ <= b) (hc : n₀ <= c) (h1 : B1 ≠ b) (h2 : B1 ≠ c) (h3 : B2 ≠ b) (h4 : B2 ≠ c) : KpS n₀ B1 B2 W ((W.setCell ⟨b, 0, none⟩ u).setCell ⟨c, 0, none⟩ v) :=
 ⟨((Below.refl n₀ W).setCell (p := ⟨b, 0, none⟩) hb _).setCell (p := ⟨c, 0, none⟩) hc _, (setCell_block _ _ h2).trans (setCell_block _ _ h1), (setCell_block _ _ h4).trans (setCell_block _ _ h3)⟩
set_option maxRecDepth 100000 in
set_option maxHeartbeats 4000000 in
theorem sum_yes (f : stepT.den) (A A' : Option Addr) (c1 l2 c2 : Nat) (e0 e1 : Int) (w : World)
  (hR : ∀ W, Below w.heap.size w W -> Calls Tryz.prog 134 #[.agg #[.slice A f.1.length c1, .slice A' l2 c2]] W fun e w' => e = .returned (.bool true) /\ Below W.heap.size W w')
  (hF : ∀ W, Calls Tryz.prog 135 #[.agg #[.int .i64 e0, .int .i64 e1]] W fun e w' => e = .returned (.bool true) /\ Below W.heap.size W w')
  (all : List PieceT) (hall : all.map Subtype.val = piecesGo f e1 f.1 e0) (hlen : f.1.length <= 9223372036854775807) (he0 : -9223372036854775808 <= e0 /\ e0 <= 9223372036854775807)
  (hcells : ∀ W, Below w.heap.size w W -> 0 < f.1.length -> ∃ b off, A = some ⟨b, off, none⟩ /\ b < w.heap.size /\ ∀ (i : Nat) (x : Int), f.1[i]? = some x -> W.cell? ⟨b, off + i, none⟩ = some (.int .i64 x) /\ -9223372036854775808 <= x /\ x <= 9223372036854775807)
  (hvals : ∀ W, Below w.heap.size w W -> ValCalls f (.agg #[.slice A f.1.length c1, .slice A' l2 c2]) W) :
  CallsIn Fence.wide 8 Tryz.prog 97 #[.agg #[.slice A f.1.length c1, .slice A' l2 c2], .agg #[.int .i64 e0, .int .i64 e1]] w fun e w' => SumEnd (sumGo (all.map Subtype.val) (0, 0)) e /\ Below w.heap.size w w' := by
 refine callsIn_of_wp_marks Tryz.func97 rfl trivial ?_ rfl
 simp only [Tryz.ntmps97, List.size_toArray, List.length_cons, List.length_nil, Nat.reduceAdd, Nat.reduceSub, Array.replicate_succ, Array.replicate_zero, List.push_toArray, List.append_toArray, List.nil_append, List.cons_append]
 have hB4 : Below w.heap.size w ((((w.alloc (.cells #[.slice A f.1.length c1, .slice A' l2 c2] 97)).alloc (.cells #[.int .i64 e0, .int .i64 e1] 23)).alloc (.cells #[.int .i64 0] 3)).alloc (.cells #[.int .i64 0] 41)) :=
  ((((Below.refl _ w).alloc (Nat.le_refl _) _).alloc (by simp) _).alloc (by simp; omega) _).alloc (by simp; omega) _
 have hS := Four.start w (.slice A f.1.length c1) (.slice A' l2 c2) (.int .i64 e0) (.int .i64 e1) (.int .i64 0) (.int .i64 0)
 have hz : w.heap.size + 3 < ((((w.alloc (.cells #[.slice A f.1.length c1, .slice A' l2 c2] 97)).alloc (.cells #[.int .i64 e0, .int .i64 e1] 23)).alloc (.cells #[.int .i64 0] 3)).alloc (.cells #[.int .i64 0] 41)).heap.size := by simp
 have HS := Lib.hid hS
 have HZ := Lib.hid hz
 clear hS hz
 gi_wp2_with (first | (refine ⟨trivial, ?_⟩; gi_at_call 134; refine (callsIn_wide.2 (hR _ hB4)).mono ?_; rintro e w1 ⟨rfl, hb⟩; obtain ⟨k0, k1, k2, k3, k4, k5, k6, k7⟩ := (HS.out.below hb HZ.out).cells) | (refine ⟨trivial, ?_⟩; gi_at_call 135; refine (callsIn_wide.2 (hF _)).mono ?_; rintro e w2 ⟨rfl, hb2⟩; have HW2 := Lib.hid ((HS.out.below hb HZ.out).below hb2 (Nat.lt_of_lt_of_le HZ.out hb.size)); have HZ2 := Lib.hid (Nat.lt_of_lt_of_le (Nat.lt_of_lt_of_le HZ.out hb.size) hb2.size); have HW3 := Lib.hid (HW2.out.below (((Below.refl w2.heap.size w2).alloc (Nat.le_refl _) (.cells #[.int .i64 0] 3)).alloc (by simp) (.cells #[.int .i64 0] 3)) HZ2.out); obtain ⟨m0, m1, m2, m3, m4, m5, m6, m7⟩ := HW2.out.cells; obtain ⟨n0, n1, n2, n3, n4, n5, n6, n7⟩ := HW3.out.cells) | (refine ⟨trivial, ?_⟩; gi_at_call 136; refine (pieces_in _ _ _ _ _ _ _ _ _ _).mono ?_; rintro e w3 ⟨rfl, rfl⟩))
 obtain ⟨z2, hz2⟩ : ∃ z2, w2.heap.size = z2 := ⟨_, rfl⟩
 have hbel2 : Below w.heap.size w w2 := (hB4.trans (hb.mono (by simp; omega))).trans (hb2.mono (Nat.le_trans (by simp; omega) hb.size))
 have q0 := World.alloc_heap_new w2 (.cells #[.int .i64 0] 3)
 have q1 := World.alloc_heap_new (w2.alloc (.cells #[.int .i64 0] 3)) (.cells #[.int .i64 0] 3)
 have q2 := World.alloc_heap_new ((w2.alloc (.cells #[.int .i64 0] 3)).alloc (.cells #[.int .i64 0] 3)) (.cells #[.slice A f.1.length c1, .slice A' l2 c2] 97)
 have q3 := World.alloc_heap_new (((w2.alloc (.cells #[.int .i64 0] 3)).alloc (.cells #[.int .i64 0] 3)).alloc (.cells #[.slice A f.1.length c1, .slice A' l2 c2] 97)) (.cells #[.int .i64 e0, .int .i64 e1] 23)
 simp only [World.size_alloc] at q1 q2 q3
 have r0 := (Below.heap_alloc (((w2.alloc (.cells #[.int .i64 0] 3)).alloc (.cells #[.int .i64 0] 3)).alloc (.cells #[.slice A f.1.length c1, .slice A' l2 c2] 97)) (.cells #[.int .i64 e0, .int .i64 e1] 23) w2.heap.size (by simp only [World.size_alloc]; omega)).trans ((Below.heap_alloc _ _ _ (by simp only [World.size_alloc]; omega)).trans ((Below.heap_alloc _ _ _ (by simp only [World.size_alloc]; omega)).trans q0))
 have r1 := (Below.heap_alloc (((w2.alloc (.cells #[.int .i64 0] 3)).alloc (.cells #[.int .i64 0] 3)).alloc (.cells #[.slice A f.1.length c1, .slice A' l2 c2] 97)) (.cells #[.int .i64 e0, .int .i64 e1] 23) (w2.heap.size + 1) (by simp only [World.size_alloc]; omega)).trans ((Below.heap_alloc _ _ _ (by simp only [World.size_alloc]; omega)).trans q1)
 have r2 := (Below.heap_alloc (((w2.alloc (.cells #[.int .i64 0] 3)).alloc (.cells #[.int .i64 0] 3)).alloc (.cells #[.slice A f.1.length c1, .slice A' l2 c2] 97)) (.cells #[.int .i64 e0, .int .i64 e1] 23) (w2.heap.size + 1 + 1) (by simp only [World.size_alloc]; omega)).trans q2
 have hbW : Below w2.heap.size w2 ((((w2.alloc (.cells #[.int .i64 0] 3)).alloc (.cells #[.int .i64 0] 3)).alloc (.cells #[.slice A f.1.length c1, .slice A' l2 c2] 97)).alloc (.cells #[.int .i64 e0, .int .i64 e1] 23)) :=
  ((((Below.refl _ w2).alloc (Nat.le_refl _) _).alloc (by simp) _).alloc (by simp; omega) _).alloc (by simp; omega) _
 have hsz : ((((w2.alloc (.cells #[.int .i64 0] 3)).alloc (.cells #[.int .i64 0] 3)).alloc (.cells #[.slice A f.1.length c1, .slice A' l2 c2] 97)).alloc (.cells #[.int .i64 e0, .int .i64 e1] 23)).heap.size = w2.heap.size + 4 := by simp
 have hW4 := HW2.out.below hbW HZ2.out
 have hzz := HZ2.out
 obtain ⟨W0, hW0⟩ : ∃ W0, (((w2.alloc (.cells #[.int .i64 0] 3)).alloc (.cells #[.int .i64 0] 3)).alloc (.cells #[.slice A f.1.length c1, .slice A' l2 c2] 97)).alloc (.cells #[.int .i64 e0, .int .i64 e1] 23) = W0 := ⟨_, rfl⟩
 rw [hW0] at r0 r1 r2 q3 hbW hsz hW4 ⊢
 clear hW0 HW3 HW2 HZ2 HS HZ hB4 m0 m1 m2 m3 m4 m5 m6 m7 n0 n1 n2 n3 n4 n5 n6 n7 k0 k1 k2 k3 k4 k5 k6 k7 q0 q1 q2
 have hbel0 : Below w.heap.size w W0 := hbel2.trans (hbW.mono hbel2.size)
 clear hbW hb hb2 hz2 hbel2 hR hF
 have hzw : w.heap.size + 3 < W0.heap.size := by omega
 have hsz' : w2.heap.size + 4 <= W0.heap.size := by omega
 clear hsz
 refine wpIn_rangeFunc_ownH rfl (by omega) (gf := 157) (lb := #[.pointer (some ⟨w2.heap.size + 1 + 1 + 1, 0, none⟩), .pointer (some ⟨w2.heap.size + 1 + 1, 0, none⟩)]) rfl trivial (enters_of Tryz.func157 (by kernel_rfl) rfl)
  (pieces_stops 7 (by omega) f A A' c1 l2 c2 e0 e1 all hall hlen he0 w (w2.heap.size + 1 + 1) (w2.heap.size + 1 + 1 + 1) W0 hbel0 r2 q3 hcells hvals)
  (fun h k => h.trans k) (fun W l o o' hl ho hoc how => ⟨belowK_b (w := w) (Nat.le_refl _) W l o o' (by omega) ho hoc how, World.putObj_heap_other (by omega), World.putObj_heap_other (by omega)⟩) (Below.refl _ _) (fun _ => rfl)
  (fun pre W => ∃ q, SumI w W0.heap.size (w.heap.size + 1 + 1) (w.heap.size + 1 + 1 + 1) w2.heap.size (w2.heap.size + 1) pre W q)
  (fun c pre W => SumX w (w.heap.size + 1 + 1) (w.heap.size + 1 + 1 + 1) c pre W)
  (sumI_own (by omega)) (sumX_own (by omega)) ⟨(0, 0), rfl, ⟨by decide, by decide, by decide, by decide⟩, r0, r1, hW4.b2, hW4.b3, hbel0, Nat.le_refl _⟩
  (SumA W0.heap.size (fun x Bx => { tmps := #[.agg #[.slice A f.1.length c1, .slice A' l2 c2], .agg #[.int .i64 e0, .int .i64 e1], .pointer (some ⟨w.heap.size, 0, none⟩), .pointer (some ⟨w.heap.size + 1, 0, none⟩), .pointer (some ⟨w.heap.size + 1 + 1, 0, none⟩), .pointer (some ⟨w.heap.size + 1 + 1 + 1, 0, none⟩), .pointer (some ⟨w2.heap.size, 0, none⟩), .pointer (some ⟨w2.heap.size + 1, 0, none⟩), .pointer (some ⟨Bx, 0, none⟩), .int .i64 x.2.2, undef, undef,
   .agg #[.slice A f.1.length c1, .slice A' l2 c2], .bool true, .bool false, .bool false, .agg #[.int .i64 e0, .int .i64 e1], .bool true, .bool false, .bool false, .agg #[.slice A f.1.length c1, .slice A' l2 c2], .agg #[.int .i64 e0, .int .i64 e1], .func (.func 157) #[] #[.pointer (some ⟨w2.heap.size + 1 + 1 + 1, 0, none⟩), .pointer (some ⟨w2.heap.size + 1 + 1, 0, none⟩)],
   .agg #[.int .i64 x.1, .int .i64 x.2.1], .int .i64 x.2.2, undef, undef, undef, undef, undef, undef, undef, undef, undef, undef, undef, undef, undef, undef, undef, undef, undef, undef, undef, undef, undef, undef, undef, undef, undef, undef], defers := [] }))
  sumA_own ?assign ?body ?done ?stop
 case assign =>
  rintro l pre x W K ⟨q, hi⟩ hK
  obtain ⟨⟨x0, x1, v⟩, hx⟩ := x
  gi_wp2
  have hsz1 := hi.sz
  exact hK _ _ ((KeepsOthers.alloc _ _).from _) (KpS.below ((Below.refl _ W).alloc (Nat.le_refl _) _) hi.bel.size (by omega) (by omega))
   ⟨q, hi.sum, hi.inv, hi.x6.alloc _, hi.x7.alloc _, hi.x4.alloc _, hi.x5.alloc _, hi.bel.alloc hi.bel.size _, by simp; omega⟩ ⟨W.heap.size, hsz1, World.alloc_heap_new W _, rfl⟩
 case body =>
  rintro l pre x a' W hl ⟨r, hr⟩ ⟨q, hi⟩ ⟨Bx, hBx, bX, rfl⟩ hlt
  obtain ⟨⟨x0, x1, v⟩, hx⟩ := x
  obtain ⟨s, a⟩ := q
  have hx' : 1 <= x0 /\ x0 < x1 /\ x1 <= 292195 /\ -4000000000000000000 <= v /\ v <= 4000000000000000000 := hx
  obtain ⟨y1, y2, y3, y4, y5⟩ := hx'
  have hinv : 0 <= a /\ a <= 4000000000000000000 /\ -a <= s /\ s <= a := hi.inv
  obtain ⟨i1, i2, i3, i4⟩ := hinv
  have bX' : W.heap[Bx]? = some (.cells #[.int .i64 x0, .int .i64 x1] 23 (0, 0)) := bX
  have cX0 : W.cell? ⟨Bx, 0, none⟩ = some (.int .i64 x0) := cell_of_block bX' 0
  have cX1 : W.cell? ⟨Bx, 1, none⟩ = some (.int .i64 x1) := cell_of_block bX' 1
  have c6 : W.cell? ⟨w2.heap.size, 0, none⟩ = some (.int .i64 s) := hi.x6.cell
  have c7 : W.cell? ⟨w2.heap.size + 1, 0, none⟩ = some (.int .i64 a) := hi.x7.cell
  have f6 := hi.x6.frozen
  have f7 := hi.x7.frozen
  have c4 := hi.x4.cell
  have f4 := hi.x4.frozen
  have c5 := hi.x5.cell
  have f5 := hi.x5.frozen
  have HB := Lib.hid bX'
  clear bX bX' hr
  gi_wp2
  ·have hc : (4000000000000000000 - a) / (x1 - x0) < if v < -v then -v else v := by assumption
   exact ⟨((KeepsOthers.setCell _ _ _).trans (KeepsOthers.setCell _ _ _)).from _, sumBody_stop hi hx hc (by omega) (by omega) (by omega)⟩
  ·have hc : (4000000000000000000 - a) / (x1 - x0) < if v < -v then -v else v := by assumption
   exact ⟨((KeepsOthers.setCell _ _ _).trans (KeepsOthers.setCell _ _ _)).from _, sumBody_stop hi hx hc (by omega) (by omega) (by omega)⟩
  ·have hc : (if v < -v then -v else v) <= (4000000000000000000 - a) / (x1 - x0) := by assumption
   have hv : v < -v := by assumption
   exact ⟨((KeepsOthers.setCell _ _ _).trans (KeepsOthers.setCell _ _ _)).from _, kp_set2 W _ _ (by omega) (by omega) (by omega) (by omega) (by omega) (by omega), _, _,
    sumBody_next hi hx hc (by rw [if_pos hv]) (by omega) (by omega) (by omega) (by omega) (by omega) (by omega) (by omega)⟩
  ·have hc : (if v < -v then -v else v) <= (4000000000000000000 - a) / (x1 - x0) := by assumption
   have hv : ¬ v < -v := by omega
   exact ⟨((KeepsOthers.setCell _ _ _).trans (KeepsOthers.setCell _ _ _)).from _, kp_set2 W _ _ (by omega) (by omega) (by omega) (by omega) (by omega) (by omega), _, _,
    sumBody_next hi hx hc (by rw [if_neg hv]) (by omega) (by omega) (by omega) (by omega) (by omega) (by omega) (by omega)⟩
 case done =>
  rintro D zs W hD rfl ⟨q, hi⟩ hK
  have c6 := hi.x6.cell
  have c4 := hi.x4.cell
  have f4 := hi.x4.frozen
  have c5 := hi.x5.cell
  have f5 := hi.x5.frozen
  gi_wp2
  have hK' := ((KeepsOthers.setCell W ⟨w.heap.size + 1 + 1, 0, none⟩ (.int .i64 q.1)).trans (KeepsOthers.setCell _ ⟨w.heap.size + 1 + 1 + 1, 0, none⟩ (.int .i64 0))).same D _ hK rfl
  have x4' := (hi.x4.set (.int .i64 q.1)).other (B' := w.heap.size + 1 + 1 + 1) (by omega) (.int .i64 0)
  have x5' := (hi.x5.other (B' := w.heap.size + 1 + 1) (by omega) (.int .i64 q.1)).set (.int .i64 0)
  have d4 := cell_kept x4'.cell (grownBy_putObj' _ D (.deferred none)) (fun r e => by cases e; exact ⟨_, hK', rfl⟩)
  have d5 := cell_kept x5'.cell (grownBy_putObj' _ D (.deferred none)) (fun r e => by cases e; exact ⟨_, hK', rfl⟩)
  have hbb := (hi.bel.setCell (p := ⟨w.heap.size + 1 + 1, 0, none⟩) (by show w.heap.size <= w.heap.size + 1 + 1; omega) (.int .i64 q.1)).setCell (p := ⟨w.heap.size + 1 + 1 + 1, 0, none⟩) (by show w.heap.size <= w.heap.size + 1 + 1 + 1; omega) (.int .i64 0)
  refine ⟨by simp, .inl ⟨_, _, rfl, run_takeDeferred hK', ?_⟩⟩
  refine ⟨.tuple #[.int .i64 q.1, .int .i64 0], ?_, ?_, hbb.trans (belowK_b (w := w) (Nat.le_refl _) _ D _ _ (by omega) hK' rfl rfl)⟩
  ·simp [results, Tryz.results97, go_sem, d4, d5]
  ·rw [hi.sum]
   rfl
 case stop =>
  rintro D c pre W hD ⟨r, rfl⟩ h hK
  obtain rfl := h.ret
  have c4 := h.x4.cell
  have f4 := h.x4.frozen
  have c5 := h.x5.cell
  have f5 := h.x5.frozen
  gi_wp2
  have d4 := cell_kept h.x4.cell (grownBy_putObj' _ D (.deferred none)) (fun r e => by cases e; exact ⟨_, hK, rfl⟩)
  have d5 := cell_kept h.x5.cell (grownBy_putObj' _ D (.deferred none)) (fun r e => by cases e; exact ⟨_, hK, rfl⟩)
  refine ⟨by simp, .inl ⟨_, _, rfl, run_takeDeferred hK, ?_⟩⟩
  refine ⟨.tuple #[.int .i64 0, .int .i64 5], ?_, ?_, h.bel.trans (belowK_b (w := w) (Nat.le_refl _) _ D _ _ (by omega) hK rfl rfl)⟩
  ·simp [results, Tryz.results97, go_sem, d4, d5]
  ·rw [List.map_append, sumGo_append, h.sum]
   rfl
end Go.Proofs.YtplkgghjldndkaaGreat
namespace Go.Proofs.YtplkgghjldndkaaGreat
open Go Go.Ab Go.RowKit Go.Proofs Go.Shelf
theorem arr2 {cs : Array Value} {a b : Value} (hs : cs.size = 2) (h0 : cs[0]? = some a) (h1 : cs[1]? = some b) : cs = #[a, b] := by
 apply Array.ext
 ·simp [hs]
 ·intro i hi hj
  have h2 : i < 2 := by omega
  match i, h2 with
  | 0, _ =>
   have := Array.getElem?_eq_some_iff.1 h0
   simpa using this.2
  | 1, _ =>
   have := Array.getElem?_eq_some_iff.1 h1
   simpa using this.2
theorem step_val {w : World} {F : Nat -> Prop} {f : stepT.den} {v : Value} (h : RepV w F stepT f v) : ∃ a b, v = .agg #[a, b] /\ RepT w F ints f.1 (fun _ u => u = a) /\ RepT w F ints f.2.1 (fun _ u => u = b) := by
 obtain ⟨cs, rfl⟩ := h.2.1.1 rfl
 have hs : cs.size = 2 := h.1
 refine ⟨cs[0]'(by omega), cs[1]'(by omega), ?_, ?_, ?_⟩
 ·congr 1
  exact arr2 hs (Array.getElem?_eq_getElem (by omega)) (Array.getElem?_eq_getElem (by omega))
 ·refine RepT.mono (fun _ h => h) (fun _ _ => rfl) ?_ h.2.2.1
  intro j u hj hu
  have : j = 0 := by have : j < 1 := hj; omega
  subst this
  have hu' : cs[0]? = some u := hu
  rw [Array.getElem?_eq_getElem (by omega)] at hu'
  simpa using hu'.symm
 ·refine RepT.mono (fun _ h => h) (fun _ _ => rfl) ?_ h.2.2.2.1
  intro j u hj hu
  have : j = 0 := by have : j < 1 := hj; omega
  subst this
  have hu' : cs[1]? = some u := hu
  rw [Array.getElem?_eq_getElem (by omega)] at hu'
  simpa using hu'.symm
theorem span_val {w : World} {F : Nat -> Prop} {s : spanT.den} {v : Value} (h : RepV w F spanT s v) : v = .agg #[.int .i64 s.1, .int .i64 s.2.1] /\ (-9223372036854775808 <= s.1 /\ s.1 <= 9223372036854775807) /\ -9223372036854775808 <= s.2.1 /\ s.2.1 <= 9223372036854775807 := by
 obtain ⟨cs, rfl⟩ := h.2.1.1 rfl
 have hs : cs.size = 2 := h.1
 have h0 : cs[0]? = some (.int .i64 s.1) := h.2.2.1.1
 have h1 : cs[1]? = some (.int .i64 s.2.1) := h.2.2.2.1.1
 exact ⟨by rw [arr2 hs h0 h1], h.2.2.1.2, h.2.2.2.1.2⟩
theorem sumGo_inv : {l : List (Int × Int × Int)} -> (∀ x ∈ l, PieceOk x) -> {q q' : Int × Int} -> SumInv q -> sumGo l q = some q' -> SumInv q'
 | [], _, q, q', hq, h => by
  simp only [sumGo, Option.some.injEq] at h
  subst h
  exact hq
 | x :: l, hl, q, q', hq, h => by
  simp only [sumGo] at h
  cases hs : sumStep q x with
  | none => rw [hs] at h; cases h
  | some q1 =>
   rw [hs] at h
   exact sumGo_inv (fun y hy => hl y (by simp [hy])) (sumStep_inv (hl x (by simp)) hs hq).1 h
theorem fullS_iff {a b : Int} {u : Unit} : fullS (a, b, u) = true ↔ 1 <= a /\ a < b /\ b <= 292195 := by
 simp [fullS]
theorem tuple2 {w : World} {F : Nat -> Prop} {a b : Int} (ha : -9223372036854775808 <= a /\ a <= 9223372036854775807) (hb : -9223372036854775808 <= b /\ b <= 9223372036854775807) : RepR w F [i64, i64] (a, b, ()) (.tuple #[.int .i64 a, .int .i64 b]) :=
 ⟨_, rfl, _, _, rfl, ⟨rfl, ⟨fun h => (by cases h), fun ⟨cs, h⟩ => (by cases h)⟩, rfl, ha⟩, _, _, rfl, ⟨rfl, ⟨fun h => (by cases h), fun ⟨cs, h⟩ => (by cases h)⟩, rfl, hb⟩, rfl⟩
theorem asPieces : {l : List (Int × Int × Int)} -> (∀ x ∈ l, PieceOk x) -> ∃ all : List PieceT, all.map Subtype.val = l
 | [], _ => ⟨[], rfl⟩
 | x :: l, h => by
  obtain ⟨all, ha⟩ := asPieces (l := l) (fun y hy => h y (by simp [hy]))
  exact ⟨⟨x, h x (by simp)⟩ :: all, by simp [ha]⟩
theorem sum_ok : SoundCt Tryz.prog 97 cSum := by
 refine ⟨enters (fn := Tryz.f97) (by kernel_rfl) rfl rfl, fun w F xs vs hbd hr _ => ?_⟩
 obtain ⟨f, ⟨e0, e1, u⟩, _⟩ := xs
 obtain ⟨va, vs', rfl, hva, vb, vs'', rfl, hvb, hn⟩ := hr
 cases hn
 have hva' : RepV w F stepT f va := hva
 have hvb' : RepV w F spanT (e0, e1, u) vb := hvb
 obtain ⟨rfl, he0, he1⟩ := span_val hvb'
 obtain ⟨sa, sb, rfl, ha, hb⟩ := step_val hva'
 obtain ⟨A, c1, rfl, hl1, hl2, hcells⟩ := sl_cells ha
 obtain ⟨A', c2, rfl, hl3, hl4, _⟩ := sl_cells hb
 have hmono : ∀ W, Below w.heap.size w W -> RepV W F stepT f (.agg #[.slice A f.1.length c1, .slice A' f.2.1.length c2]) := fun W hW => hva'.mono (fun _ h => h) (fun b hb => hW.block b (hbd b hb))
 have hspan : ∀ (W : World) (F : Nat -> Prop), RepV W F spanT (e0, e1, u) (.agg #[.int .i64 e0, .int .i64 e1]) := fun W F => ⟨rfl, ⟨fun _ => ⟨_, rfl⟩, fun _ => rfl⟩, ⟨rfl, he0⟩, ⟨rfl, he1⟩, trivial⟩
 have hR : ∀ W, Below w.heap.size w W -> Calls Tryz.prog 134 #[.agg #[.slice A f.1.length c1, .slice A' f.2.1.length c2]] W fun e w' => e = .returned (.bool (rightSt f)) /\ Below W.heap.size W w' := fun W hW =>
  boolCall (ps := [.d stepT]) (g := fun x => rightSt x.1) right_ok (F := F) (xs := (f, ())) (vs := [_]) (fun b hb => Nat.lt_of_lt_of_le (hbd b hb) hW.size) ⟨_, [], rfl, hmono W hW, rfl⟩ trivial
 have hF : ∀ W, Calls Tryz.prog 135 #[.agg #[.int .i64 e0, .int .i64 e1]] W fun e w' => e = .returned (.bool (fullS (e0, e1, ()))) /\ Below W.heap.size W w' := fun W =>
  boolCall (ps := [.d spanT]) (g := fun x => fullS x.1) fullS_ok (F := fun _ => False) (xs := ((e0, e1, ()), ())) (vs := [_]) (fun b hb => hb.elim) ⟨_, [], rfl, hspan W _, rfl⟩ trivial
 by_cases hyes : rightSt f = true /\ fullS (e0, e1, ()) = true
 ·obtain ⟨hr1, hr2⟩ := hyes
  obtain ⟨hlen, hup, _, hval⟩ := rightSt_spec hr1
  have hok := piecesGo_ok (f := f) hval (e := e1) (fullS_iff.1 hr2).2.2 f.1 e0 (fullS_iff.1 hr2).1 (fullS_iff.1 hr2).2.1
  obtain ⟨all, hall⟩ := asPieces hok
  rw [hr1] at hR
  rw [hr2] at hF
  have hl0 : f.1.length <= 9223372036854775807 := by
   have := Nat.le_trans hl1 hl2
   unfold maxLen at this
   omega
  have key := sum_yes f A A' c1 f.2.1.length c2 e0 e1 w hR hF all hall hl0 he0 (fun W hW hp => by
   obtain ⟨b, off, h1, h2, h3⟩ := hcells hp
   exact ⟨b, off, h1, hbd b h2, fun i x hx => ⟨(hW.cell (p := ⟨b, off + i, none⟩) (hbd b h2)).trans (h3 i x hx).1, (h3 i x hx).2⟩⟩)
   (fun W hW => valCalls_of (fun b hb => Nat.lt_of_lt_of_le (hbd b hb) hW.size) (hmono W hW) hup hlen)
  refine (callsIn_wide.1 key).mono ?_
  rintro e w' ⟨he, hbel⟩
  rw [hall] at he
  have hS : sumSt f (e0, e1, u) = match sumGo (piecesGo f e1 f.1 e0) (0, 0) with
    | some q => (q.1, 0)
    | none => (0, 5) := by
   unfold sumSt
   rw [if_pos ⟨hr1, hr2⟩]
   try rfl
  cases hq : sumGo (piecesGo f e1 f.1 e0) (0, 0) with
  | none =>
   rw [hq] at he hS
   have he' : e = .returned (.tuple #[.int .i64 0, .int .i64 5]) := he
   refine ⟨_, F, he', hbel, fun _ h => h, fun b hb => ⟨.inl hb, Nat.lt_of_lt_of_le (hbd b hb) hbel.size⟩, ?_⟩
   show RepR w' F [i64, i64] ((sumSt f (e0, e1, u)).1, (sumSt f (e0, e1, u)).2, ()) _
   rw [hS]
   exact tuple2 (by decide) (by decide)
  | some q =>
   rw [hq] at he hS
   have he' : e = .returned (.tuple #[.int .i64 q.1, .int .i64 0]) := he
   refine ⟨_, F, he', hbel, fun _ h => h, fun b hb => ⟨.inl hb, Nat.lt_of_lt_of_le (hbd b hb) hbel.size⟩, ?_⟩
   show RepR w' F [i64, i64] ((sumSt f (e0, e1, u)).1, (sumSt f (e0, e1, u)).2, ()) _
   rw [hS]
   obtain ⟨j1, j2, j3, j4⟩ := sumGo_inv hok (q := (0, 0)) ⟨by decide, by decide, by decide, by decide⟩ hq
   exact tuple2 ⟨by show _ <= q.1; omega, by show q.1 <= _; omega⟩ (b := 0) (by decide)
 ·have key := sum_no f A A' f.1.length c1 f.2.1.length c2 e0 e1 w hR hF hyes
  refine (callsIn_wide.1 key).mono ?_
  rintro e w' ⟨rfl, hbel⟩
  refine ⟨_, F, rfl, hbel, fun _ h => h, fun b hb => ⟨.inl hb, Nat.lt_of_lt_of_le (hbd b hb) hbel.size⟩, ?_⟩
  show RepR w' F [i64, i64] ((sumSt f (e0, e1, u)).1, (sumSt f (e0, e1, u)).2, ()) _
  have hS : sumSt f (e0, e1, u) = (0, 1) := if_neg hyes
  rw [hS]
  exact tuple2 (by decide) (by decide)
end Go.Proofs.YtplkgghjldndkaaGreat
namespace Go.Proofs.YtplkgghjldndkaaGreat
open Go Go.Ab Go.RowKit Go.Proofs
abbrev slsT : Ty := .sl sliceT
theorem bif_and (a b : Bool) : (bif a then b else false) = (a && b) := by cases a <;> rfl
theorem bif_or (a b : Bool) : (bif a then true else b) = (a || b) := by cases a <;> rfl
theorem i64w {n : Int} (h : -9223372036854775808 <= n /\ n <= 9223372036854775807) : IntKind.i64.wrap n = n := IntWalk.i64_in _ h
def cMust : Pc := ⟨[.d i64], [], fun _ => (), fun x => !(x.1 == 0), fun x => ⟨41, .i64, x.1⟩, fun _ => []⟩
theorem must_ok : SoundPc Tryz.prog 59 cMust := by
 refine ⟨enters (fn := Tryz.f59) (by kernel_rfl) rfl rfl, fun w F xs vs hb hr _ => ?_⟩
 obtain ⟨v, vs', rfl, hv, hn⟩ := hr
 cases hn
 obtain ⟨n, _⟩ := xs
 have hv' : v = .int .i64 n := by
  have h : RepA Tryz.prog w F (fun _ _ => True) (encV i64 n) v := encV_rep hv
  exact h.2.1
 subst hv'
 by_cases h0 : n = 0
 ·subst h0
  go_enter Tryz.func59, Tryz.ntmps59
  go_wp2
  go_end0
  refine .inl ⟨rfl, .tuple #[], F, rfl, Below.refl _ _, fun _ h => h, fun b h => ⟨.inl h, hb b h⟩, #[], rfl, rfl⟩
 ·have hne : (n == 0) = false := by simpa using h0
  have hne2 : (n != 0) = true := by simpa using h0
  have hbad : cMust.bad (n, ()) = true := by show (!(n == 0)) = true; rw [hne]; rfl
  go_enter Tryz.func59, Tryz.ntmps59
  go_wp2
  exact ⟨rfl, .inr ⟨hbad, rfl, Below.refl _ _⟩⟩
def m32 (a : Int) : Int := IntKind.u64.wrap ((BitVec.ofInt IntKind.u64.bits a &&& BitVec.ofInt IntKind.u64.bits 4294967295).toNat : Int)
def h32 (a : Int) : Int := a.fdiv (2 ^ min (Int.toNat 32) IntKind.u64.bits)
theorem u64w {n : Int} (h : 0 <= n /\ n <= 18446744073709551615) : IntKind.u64.wrap n = n := IntWalk.u64_in _ h
theorem m32_eq {a : Int} (h : 0 <= a /\ a <= 18446744073709551615) : m32 a = a % 4294967296 := by
 obtain ⟨n, rfl⟩ : ∃ n : Nat, a = n := ⟨a.toNat, by omega⟩
 unfold m32
 have e1 : (BitVec.ofInt IntKind.u64.bits (n : Int) &&& BitVec.ofInt IntKind.u64.bits 4294967295).toNat = n % 4294967296 := by
  have h1 : (BitVec.ofInt IntKind.u64.bits (n : Int)).toNat = n := by
   rw [BitVec.toNat_ofInt]
   show ((n : Int) % ((2 ^ 64 : Nat) : Int)).toNat = n
   omega
  have h2 : (BitVec.ofInt IntKind.u64.bits (4294967295 : Int)).toNat = 2 ^ 32 - 1 := by decide
  rw [BitVec.toNat_and, h1, h2, Nat.and_two_pow_sub_one_eq_mod]
 rw [e1, u64w (by omega)]
 omega
theorem h32_eq {a : Int} : h32 a = a / 4294967296 := by
 unfold h32
 have : (2 : Int) ^ min (Int.toNat 32) IntKind.u64.bits = 4294967296 := by decide
 rw [this, Int.fdiv_eq_ediv_of_nonneg _ (by decide)]
def mulT (x y : Int) : Int := IntKind.u64.wrap (IntKind.u64.wrap (h32 x * m32 y) + h32 (IntKind.u64.wrap (m32 x * m32 y)))
def frMul (x : denP [.d u64, .d u64]) : Fr (denL [u64, u64]) :=
 Fr.need (¬ (32 : Int) < 0) (Fr.need (¬ (32 : Int) < 0) (Fr.need (¬ (32 : Int) < 0) (Fr.need (¬ (32 : Int) < 0) (Fr.need (¬ (32 : Int) < 0)
  (Fr.val (IntKind.u64.wrap (IntKind.u64.wrap (IntKind.u64.wrap (h32 x.1 * h32 x.2.1) + h32 (mulT x.1 x.2.1)) + h32 (IntKind.u64.wrap (m32 (mulT x.1 x.2.1) + IntKind.u64.wrap (m32 x.1 * h32 x.2.1)))),
   IntKind.u64.wrap (x.1 * x.2.1), ()))))))
def cMul : Ct := ⟨[.d u64, .d u64], [u64, u64], fun x => (x.1 * x.2.1 / 18446744073709551616, x.1 * x.2.1 % 18446744073709551616, ()), fun _ => []⟩
theorem prod_bd {a b n : Int} (ha : 0 <= a /\ a <= n) (hb : 0 <= b /\ b <= n) : 0 <= a * b /\ a * b <= n * n :=
 ⟨Int.mul_nonneg ha.1 hb.1, Int.mul_le_mul ha.2 hb.2 hb.1 (by omega)⟩
theorem mul_split (a1 a0 b1 b0 : Int) : (a1 * 4294967296 + a0) * (b1 * 4294967296 + b0) = a1 * b1 * 18446744073709551616 + (a1 * b0 + a0 * b1) * 4294967296 + a0 * b0 := by grind
theorem mul_plain {x y : Int} (hx : 0 <= x /\ x <= 18446744073709551615) (hy : 0 <= y /\ y <= 18446744073709551615) :
  IntKind.u64.wrap (IntKind.u64.wrap (IntKind.u64.wrap (h32 x * h32 y) + h32 (mulT x y)) + h32 (IntKind.u64.wrap (m32 (mulT x y) + IntKind.u64.wrap (m32 x * h32 y)))) = x * y / 18446744073709551616 := by
 have ex : x = x / 4294967296 * 4294967296 + x % 4294967296 := by omega
 have ey : y = y / 4294967296 * 4294967296 + y % 4294967296 := by omega
 have hs := mul_split (x / 4294967296) (x % 4294967296) (y / 4294967296) (y % 4294967296)
 rw [← ex, ← ey] at hs
 rw [hs]
 unfold mulT
 rw [m32_eq hx, m32_eq hy]
 simp only [h32_eq]
 have b1 : 0 <= x / 4294967296 /\ x / 4294967296 <= 4294967295 := by omega
 have b2 : 0 <= x % 4294967296 /\ x % 4294967296 <= 4294967295 := by omega
 have b3 : 0 <= y / 4294967296 /\ y / 4294967296 <= 4294967295 := by omega
 have b4 : 0 <= y % 4294967296 /\ y % 4294967296 <= 4294967295 := by omega
 have p11 := prod_bd b1 b3
 have p10 := prod_bd b1 b4
 have p01 := prod_bd b2 b3
 have p00 := prod_bd b2 b4
 clear hs ex ey b1 b2 b3 b4
 generalize x / 4294967296 * (y / 4294967296) = q11 at *
 generalize x / 4294967296 * (y % 4294967296) = q10 at *
 generalize x % 4294967296 * (y / 4294967296) = q01 at *
 generalize x % 4294967296 * (y % 4294967296) = q00 at *
 rw [u64w (n := q11) (by omega), u64w (n := q10) (by omega), u64w (n := q01) (by omega), u64w (n := q00) (by omega), u64w (n := q10 + q00 / 4294967296) (by omega), m32_eq (a := q10 + q00 / 4294967296) (by omega),
  u64w (n := (q10 + q00 / 4294967296) % 4294967296 + q01) (by omega)]
 rw [u64w (n := q11 + (q10 + q00 / 4294967296) / 4294967296) (by omega), u64w (by omega)]
 omega
theorem u64_of {w : World} {F : Nat -> Prop} {n : Int} {v : Value} (h : RepV w F u64 n v) : 0 <= n /\ n <= 18446744073709551615 := h.2.2.2
theorem i64_of {w : World} {F : Nat -> Prop} {n : Int} {v : Value} (h : RepV w F i64 n v) : -9223372036854775808 <= n /\ n <= 9223372036854775807 := h.2.2.2
theorem mul_ok : SoundCt Tryz.prog 147 cMul :=
 flat (ps := [.d u64, .d u64]) (rs := [u64, u64]) (cx_ok (cs := []) (ps := []) mixed trivial trivial) (fn := Tryz.f147) (fr := frMul) (0, 0, ()) (by kernel_rfl) (fun x => by kernel_rfl) _ _
  (fun w F x vs hr _ => by
   obtain ⟨a, b, u⟩ := x
   obtain ⟨v1, vs1, rfl, h1, v2, vs2, rfl, h2, _⟩ := hr
   have g1 := u64_of h1
   have g2 := u64_of h2
   refine ⟨⟨by decide, by decide, by decide, by decide, by decide, trivial⟩, ?_⟩
   show (IntKind.u64.wrap (IntKind.u64.wrap (IntKind.u64.wrap (h32 a * h32 b) + h32 (mulT a b)) + h32 (IntKind.u64.wrap (m32 (mulT a b) + IntKind.u64.wrap (m32 a * h32 b)))), IntKind.u64.wrap (a * b), ()) = (a * b / 18446744073709551616, a * b % 18446744073709551616, ())
   have hw : IntKind.u64.wrap (a * b) = a * b % 18446744073709551616 := by
    rw [IntKind.wrap_u64]
   rw [mul_plain g1 g2, hw])
def frDiv (x : denP [.d u64, .d u64, .d u64]) : Fr (denL [u64, u64]) :=
 Fr.br (x.2.2.1 == 0) (Fr.need False (Fr.val (0, 0, ())))
  (Fr.br (decide (x.2.2.1 <= x.1)) (Fr.need False (Fr.val (0, 0, ())))
   (Fr.br (x.1 == 0) (Fr.need (x.2.2.1 ≠ 0) (Fr.need (x.2.2.1 ≠ 0) (Fr.val (IntKind.u64.wrap (x.2.1.tdiv x.2.2.1), x.2.1.tmod x.2.2.1, ()))))
    (Fr.need False (Fr.val (0, 0, ())))))
def cDiv : Ct := ⟨[.d u64, .d u64, .d u64], [u64, u64], fun x => (x.2.1 / x.2.2.1, x.2.1 % x.2.2.1, ()), fun x => [x.1 = 0, 0 < x.2.2.1]⟩
theorem div_plain {lo y : Int} (g2 : 0 <= lo /\ lo <= 18446744073709551615) (hy : 0 < y) : (frDiv (0, lo, y, ())).ok /\ (frDiv (0, lo, y, ())).get = (lo / y, lo % y, ()) := by
 have e1 : (y == 0) = false := by simp; omega
 have e2 : decide (y <= (0 : Int)) = false := by simp; omega
 have e3 : y ≠ 0 := by omega
 refine ⟨⟨fun hc => ?_, fun _ => ⟨fun hc => ?_, fun _ => ⟨fun _ => ⟨e3, e3, trivial⟩, fun hc => by cases hc⟩⟩⟩, ?_⟩
 ·have hc' : (y == 0) = true := hc
  rw [e1] at hc'
  cases hc'
 ·have hc' : decide (y <= (0 : Int)) = true := hc
  rw [e2] at hc'
  cases hc'
 ·show (if (y == 0) = true then ((0 : Int), (0 : Int), ()) else if decide (y <= (0 : Int)) = true then ((0 : Int), (0 : Int), ()) else (IntKind.u64.wrap (lo.tdiv y), lo.tmod y, ())) = (lo / y, lo % y, ())
  rw [e1, e2]
  simp only [Bool.false_eq_true, if_false]
  rw [IntWalk.u64_quo lo y ⟨g2.1, g2.2, by omega⟩, IntWalk.rem_in lo y g2.1]
theorem div_ok : SoundCt Tryz.prog 148 cDiv :=
 flat (ps := [.d u64, .d u64, .d u64]) (rs := [u64, u64]) (cx_ok (cs := []) (ps := []) mixed trivial trivial) (fn := Tryz.f148) (fr := frDiv) (0, 0, 0, ()) (by kernel_rfl) (fun x => by kernel_rfl) _ _
  (fun w F x vs hr hok => by
   obtain ⟨hi, lo, y, u⟩ := x
   obtain ⟨v1, vs1, rfl, h1, v2, vs2, rfl, h2, v3, vs3, rfl, h3, _⟩ := hr
   obtain ⟨he, hy⟩ := hok
   have he' : hi = 0 := he
   subst he'
   exact div_plain (u64_of h2) hy)
noncomputable def XiN : FuncId -> Option (Func × (Nat -> St -> Option Tr)) := envF [(146, (Tryz.f146, lam0))]
noncomputable def XiO : FuncId -> Option (Func × (Nat -> St -> Option Tr)) := envF [(110, (Tryz.f110, lam0)), (109, (Tryz.f109, lam0))]
abbrev bitsL : List (FuncId × Ct) := [(147, cMul), (148, cDiv)]
theorem bitsL_ok : AllCt Tryz.prog bitsL := ⟨mul_ok, div_ok, trivial⟩
noncomputable def CN1 : Cx := cx bitsL []
noncomputable def CN2 : Cx := cxK bitsL [] (inlK Tryz.prog CN1 XiN)
noncomputable def CN3 : Cx := cxK bitsL [] (inlK Tryz.prog CN2 XiO)
theorem CN1_ok : CxOK Tryz.prog CN1 := cx_ok mixed bitsL_ok trivial
theorem XiN_ok : ∀ f fn Λ, XiN f = some (fn, Λ) -> Tryz.prog.funcs[f]? = some fn /\ ∀ c E', fn.body = some c -> LamOK Tryz.prog E' Λ c 0 := fun f fn Λ h => by
 simp only [XiN, envF] at h
 split at h
 ·rename_i hf
  subst hf
  cases h
  exact ⟨by kernel_rfl, fun c E' _ => lam0_ok c 0⟩
 ·cases h
theorem CN2_ok : CxOK Tryz.prog CN2 := cxK_ok mixed bitsL_ok trivial (inlK_ok CN1_ok XiN_ok)
theorem XiO_ok : ∀ f fn Λ, XiO f = some (fn, Λ) -> Tryz.prog.funcs[f]? = some fn /\ ∀ c E', fn.body = some c -> LamOK Tryz.prog E' Λ c 0 := fun f fn Λ h => by
 simp only [XiO, envF] at h
 split at h
 ·rename_i hf
  subst hf
  cases h
  exact ⟨by kernel_rfl, fun c E' _ => lam0_ok c 0⟩
 ·split at h
  ·rename_i hf
   subst hf
   cases h
   exact ⟨by kernel_rfl, fun c E' _ => lam0_ok c 0⟩
  ·cases h
theorem CN3_ok : CxOK Tryz.prog CN3 := cxK_ok mixed bitsL_ok trivial (inlK_ok CN2_ok XiO_ok)
def evFin (q : Int) : Fr (denL [i64, i64]) := Fr.br (decide (q > 4000000000000000000)) (Fr.val (0, 5, ())) (Fr.val (IntKind.i64.wrap q, 0, ()))
def evT (q r c : Int) : Fr (denL [i64, i64]) :=
 Fr.br (decide (q > 4000000000000000000)) (Fr.val (0, 5, ()))
  (Fr.need ((r == IntKind.u64.wrap (c - r)) = true -> decide (r > IntKind.u64.wrap (c - r)) = false -> (2 : Int) ≠ 0)
   (Fr.br (bif decide (r > IntKind.u64.wrap (c - r)) then true else bif r == IntKind.u64.wrap (c - r) then q.tmod 2 == 1 else false) (evFin (IntKind.u64.wrap (q + 1))) (evFin q)))
def evD (h l c : Int) : Fr (denL [i64, i64]) :=
 Fr.br (decide (h ≥ c)) (Fr.val (0, 5, ())) (Fr.need (h = 0) (Fr.need (0 < c) (evT (cDiv.f (h, l, c, ())).1 (cDiv.f (h, l, c, ())).2.1 c)))
def frEven (x : denP [.d i64, .d i64, .d i64]) : Fr (denL [i64, i64]) :=
 Fr.br (bif bif decide (x.1 < 0) then true else decide (x.2.1 < 0) then true else decide (x.2.2.1 < 0)) (Fr.val (0, 1, ()))
  (Fr.br (x.2.2.1 == 0) (Fr.val (0, 6, ()))
   (evD (cMul.f (IntKind.u64.wrap x.1, IntKind.u64.wrap x.2.1, ())).1 (cMul.f (IntKind.u64.wrap x.1, IntKind.u64.wrap x.2.1, ())).2.1 (IntKind.u64.wrap x.2.2.1)))
def evenQ (p c : Int) : Int := if p % c > c - p % c ∨ (p % c = c - p % c /\ p / c % 2 = 1) then p / c + 1 else p / c
def evenF (a b c : Int) : Int × Int := if a < 0 ∨ b < 0 ∨ c < 0 then (0, 1) else if c = 0 then (0, 6) else if evenQ (a * b) c > 4000000000000000000 then (0, 5) else (evenQ (a * b) c, 0)
theorem bif3 (a b c : Bool) : (bif bif a then true else b then true else c) = (a || (b || c)) := by cases a <;> cases b <;> rfl
theorem evFin_eq {q : Int} (h : 0 <= q) : (evFin q).ok /\ (evFin q).get = if q > 4000000000000000000 then (0, 5, ()) else (q, 0, ()) := by
 refine ⟨⟨fun _ => trivial, fun _ => trivial⟩, ?_⟩
 show (if decide (q > 4000000000000000000) = true then ((0 : Int), (5 : Int), ()) else (IntKind.i64.wrap q, (0 : Int), ())) = _
 by_cases hq : q > 4000000000000000000
 ·rw [if_pos (by simpa using hq), if_pos hq]
 ·have hw : IntKind.i64.wrap q = q := i64w (by omega)
  rw [if_neg (by simpa using hq), if_neg hq, hw]
theorem evT_eq {q r c : Int} (hr : 0 <= r /\ r < c) (hc : c <= 9223372036854775807) (hq : 0 <= q) :
  (evT q r c).ok /\ (evT q r c).get = if (if r > c - r ∨ (r = c - r /\ q % 2 = 1) then q + 1 else q) > 4000000000000000000 then (0, 5, ()) else ((if r > c - r ∨ (r = c - r /\ q % 2 = 1) then q + 1 else q), 0, ()) := by
 have hw : IntKind.u64.wrap (c - r) = c - r := u64w (by omega)
 have hm : q.tmod 2 = q % 2 := Int.tmod_eq_emod_of_nonneg hq
 unfold evT
 rw [hw, hm]
 by_cases h1 : q > 4000000000000000000
 ·have hd : decide (q > 4000000000000000000) = true := by simpa using h1
  refine ⟨⟨fun _ => trivial, fun hb => by rw [hd] at hb; cases hb⟩, ?_⟩
  show (if decide (q > 4000000000000000000) = true then ((0 : Int), (5 : Int), ()) else _) = _
  rw [hd, if_pos rfl, if_pos]
  split <;> omega
 ·have hd : decide (q > 4000000000000000000) = false := by simpa using h1
  have hcond : (bif decide (r > c - r) then true else bif r == c - r then q % 2 == 1 else false) = decide (r > c - r ∨ (r = c - r /\ q % 2 = 1)) := by
   rw [bif_or, bif_and]
   generalize c - r = d
   rw [Bool.eq_iff_iff]
   simp
  rw [hcond]
  have hw2 : IntKind.u64.wrap (q + 1) = q + 1 := u64w (by omega)
  rw [hw2]
  have f1 := evFin_eq (q := q + 1) (by omega)
  have f2 := evFin_eq (q := q) hq
  refine ⟨⟨fun _ => trivial, fun _ => ⟨fun _ _ => by decide, fun _ => f1.1, fun _ => f2.1⟩⟩, ?_⟩
  show (if decide (q > 4000000000000000000) = true then ((0 : Int), (5 : Int), ()) else if decide (r > c - r ∨ (r = c - r /\ q % 2 = 1)) = true then (evFin (q + 1)).get else (evFin q).get) = _
  rw [hd, if_neg (by decide), f1.2, f2.2]
  by_cases h2 : r > c - r ∨ (r = c - r /\ q % 2 = 1)
  ·simp only [h2, decide_true, if_true]
  ·simp only [h2, decide_false, if_false, Bool.false_eq_true]
theorem even_plain {a b c : Int} (ha : -9223372036854775808 <= a /\ a <= 9223372036854775807) (hb : -9223372036854775808 <= b /\ b <= 9223372036854775807) (hc : -9223372036854775808 <= c /\ c <= 9223372036854775807)
  (hp : 0 <= a -> 0 <= b -> a * b < 18446744073709551616) : (frEven (a, b, c, ())).ok /\ (frEven (a, b, c, ())).get = ((evenF a b c).1, (evenF a b c).2, ()) := by
 unfold frEven
 simp only [bif3]
 by_cases hn : a < 0 ∨ b < 0 ∨ c < 0
 ·have hd : (decide (a < 0) || (decide (b < 0) || decide (c < 0))) = true := by simpa using hn
  rw [hd]
  refine ⟨⟨fun _ => trivial, fun hx => by cases hx⟩, ?_⟩
  unfold evenF
  rw [if_pos hn]
  rfl
 ·have hd : (decide (a < 0) || (decide (b < 0) || decide (c < 0))) = false := by simpa using hn
  rw [hd]
  have ha0 : 0 <= a := by omega
  have hb0 : 0 <= b := by omega
  have hc0 : 0 <= c := by omega
  have hab := hp ha0 hb0
  have hab0 : 0 <= a * b := Int.mul_nonneg ha0 hb0
  rw [show IntKind.u64.wrap a = a from u64w (by omega), show IntKind.u64.wrap b = b from u64w (by omega), show IntKind.u64.wrap c = c from u64w (by omega)]
  have e1 : (cMul.f (a, b, ())).1 = 0 := by
   show a * b / 18446744073709551616 = 0
   omega
  have e2 : (cMul.f (a, b, ())).2.1 = a * b := by
   show a * b % 18446744073709551616 = a * b
   omega
  rw [e1, e2]
  unfold evenF
  rw [if_neg hn]
  by_cases hz : c = 0
  ·subst hz
   refine ⟨⟨fun hx => (by cases hx), fun _ => ⟨fun _ => trivial, fun hx => by cases hx⟩⟩, rfl⟩
  ·have hz' : (c == 0) = false := by simpa using hz
   rw [if_neg hz, hz']
   have hcp : 0 < c := by omega
   have hge : decide ((0 : Int) ≥ c) = false := by simpa using hcp
   have key := evT_eq (q := a * b / c) (r := a * b % c) (c := c) ⟨Int.emod_nonneg _ (by omega), Int.emod_lt_of_pos _ hcp⟩ hc.2 (Int.ediv_nonneg hab0 hc0)
   unfold evD
   rw [hge]
   refine ⟨⟨fun hx => (by cases hx), fun _ => ⟨fun hx => (by cases hx), fun _ => ⟨fun hx => (by cases hx), fun _ => ⟨rfl, hcp, key.1⟩⟩⟩⟩, ?_⟩
   show (evT (a * b / c) (a * b % c) c).get = _
   rw [key.2]
   show _ = ((if evenQ (a * b) c > 4000000000000000000 then ((0 : Int), (5 : Int)) else (evenQ (a * b) c, 0)).1, (if evenQ (a * b) c > 4000000000000000000 then ((0 : Int), (5 : Int)) else (evenQ (a * b) c, 0)).2, ())
   unfold evenQ
   generalize (if a * b % c > c - a * b % c ∨ a * b % c = c - a * b % c /\ a * b / c % 2 = 1 then a * b / c + 1 else a * b / c) = z
   split <;> rfl
def cEven : Ct := ⟨[.d i64, .d i64, .d i64], [i64, i64], fun x => ((evenF x.1 x.2.1 x.2.2.1).1, (evenF x.1 x.2.1 x.2.2.1).2, ()), fun x => [0 <= x.1 -> 0 <= x.2.1 -> x.1 * x.2.1 < 18446744073709551616]⟩
theorem even_ok : SoundCt Tryz.prog 76 cEven :=
 flat (ps := [.d i64, .d i64, .d i64]) (rs := [i64, i64]) CN3_ok (fn := Tryz.f76) (fr := frEven) (0, 0, 0, ()) (by kernel_rfl) (fun x => by kernel_rfl) _ _
  (fun w F x vs hr hok => by
   obtain ⟨a, b, c, u⟩ := x
   obtain ⟨v1, vs1, rfl, h1, v2, vs2, rfl, h2, v3, vs3, rfl, h3, _⟩ := hr
   exact even_plain (i64_of h1) (i64_of h2) (i64_of h3) hok)
def addAV (p : List Int × List Int) (day v : Int) : List Int × List Int :=
 let q := if p.1.getLast? = some day then (p.1.dropLast, p.2.dropLast) else p
 if v ≠ q.2.getLast?.getD 0 /\ day <= 292194 then (q.1 ++ [day], q.2 ++ [v]) else q
section
variable {α : Type}
def addT2 (at_ val : List Int) (day v : Int) (K : List Int -> List Int -> Fr α) : Fr α :=
 Fr.br (decide ((val.length : Int) > 0))
  (Fr.need (0 <= IntKind.i64.wrap (val.length - 1) /\ IntKind.i64.wrap (val.length - 1) < val.length)
   (Fr.need ((IntKind.i64.wrap (val.length - 1)).toNat < val.length)
    (Fr.br (bif v != val.getD (IntKind.i64.wrap (val.length - 1)).toNat i64.dflt then decide (day <= 292194) else false)
     (Fr.need (at_.length + [day].length <= maxLen /\ (at_.length + [day].length) * 8 <= 140737488355328)
      (Fr.need (val.length + [v].length <= maxLen /\ (val.length + [v].length) * 8 <= 140737488355328)
       (K (at_ ++ [day]) (val ++ [v]))))
     (K at_ val))))
  (Fr.br (bif v != 0 then decide (day <= 292194) else false)
   (Fr.need (at_.length + [day].length <= maxLen /\ (at_.length + [day].length) * 8 <= 140737488355328)
    (Fr.need (val.length + [v].length <= maxLen /\ (val.length + [v].length) * 8 <= 140737488355328)
     (K (at_ ++ [day]) (val ++ [v]))))
   (K at_ val))
def addT (at_ val : List Int) (day v : Int) (K : List Int -> List Int -> Fr α) : Fr α :=
 Fr.need (decide ((at_.length : Int) > 0) = true -> 0 <= IntKind.i64.wrap (at_.length - 1) /\ IntKind.i64.wrap (at_.length - 1) < at_.length)
  (Fr.need (decide ((at_.length : Int) > 0) = true -> (IntKind.i64.wrap (at_.length - 1)).toNat < at_.length)
   (Fr.br (bif decide ((at_.length : Int) > 0) then at_.getD (IntKind.i64.wrap (at_.length - 1)).toNat i64.dflt == day else false)
    (Fr.need (0 <= IntKind.i64.wrap (at_.length - 1) /\ IntKind.i64.wrap (at_.length - 1) <= at_.length)
     (Fr.need (0 <= IntKind.i64.wrap (at_.length - 1) /\ IntKind.i64.wrap (at_.length - 1) <= val.length)
      (addT2 (at_.take (IntKind.i64.wrap (at_.length - 1)).toNat) (val.take (IntKind.i64.wrap (at_.length - 1)).toNat) day v K)))
    (addT2 at_ val day v K)))
theorem last_getD {l : List Int} (h : 0 < l.length) (hb : l.length < 1000000) : l.getD (IntKind.i64.wrap ((l.length : Int) - 1)).toNat i64.dflt = l.getLast?.getD 0 := by
 rw [i64w (by omega), List.getLast?_eq_getElem?, List.getD_eq_getElem?_getD]
 have : ((l.length : Int) - 1).toNat = l.length - 1 := by omega
 rw [this]
 rfl
theorem addT2_sat {at_ val : List Int} {day v : Int} {K : List Int -> List Int -> Fr α} {Q : α -> Prop} (h1 : at_.length < 1000000) (h2 : val.length < 1000000)
  (h : (if v ≠ val.getLast?.getD 0 /\ day <= 292194 then K (at_ ++ [day]) (val ++ [v]) else K at_ val).satP Q) : (addT2 at_ val day v K).satP Q := by
 have hroom : ∀ (l : List Int) (x : Int), l.length < 1000000 -> l.length + [x].length <= maxLen /\ (l.length + [x].length) * 8 <= 140737488355328 := fun l x hl => by
  simp only [maxLen, List.length_singleton]
  omega
 by_cases hv : 0 < val.length
 ·refine ⟨fun _ => ⟨?_, ?_, ?_, ?_⟩, fun hn => ?_⟩
  ·rw [i64w (by omega)]
   omega
  ·rw [i64w (by omega)]
   omega
  ·intro hb
   rw [last_getD hv h2, bif_and] at hb
   have hb' : v ≠ val.getLast?.getD 0 /\ day <= 292194 := by simpa using hb
   rw [if_pos hb'] at h
   exact ⟨hroom _ _ h1, hroom _ _ h2, h⟩
  ·intro hb
   rw [last_getD hv h2, bif_and] at hb
   have hb' : ¬ (v ≠ val.getLast?.getD 0 /\ day <= 292194) := by
    intro hc
    simp [hc.1, hc.2] at hb
   rw [if_neg hb'] at h
   exact h
  ·exact absurd (of_decide_eq_false hn) (by omega)
 ·have hnil : val = [] := by
   cases val with
   | nil => rfl
   | cons _ _ => simp at hv
  subst hnil
  refine ⟨fun hn => by simp at hn, fun _ => ⟨fun hb => ?_, fun hb => ?_⟩⟩
  ·rw [bif_and] at hb
   have hb' : v ≠ ([] : List Int).getLast?.getD 0 /\ day <= 292194 := by simpa using hb
   rw [if_pos hb'] at h
   exact ⟨hroom _ _ h1, hroom _ _ h2, h⟩
  ·rw [bif_and] at hb
   have hb' : ¬ (v ≠ ([] : List Int).getLast?.getD 0 /\ day <= 292194) := by
    intro hc
    have h3 : v ≠ 0 := hc.1
    simp [h3, hc.2] at hb
   rw [if_neg hb'] at h
   exact h
theorem addT_sat {at_ val : List Int} {day v : Int} {K : List Int -> List Int -> Fr α} {Q : α -> Prop} (h1 : at_.length < 1000000) (h2 : at_.length = val.length)
  (h : (K (addAV (at_, val) day v).1 (addAV (at_, val) day v).2).satP Q) : (addT at_ val day v K).satP Q := by
 have key : ∀ a b : List Int, a.length < 1000000 -> b.length < 1000000 -> addAV (at_, val) day v = (if v ≠ b.getLast?.getD 0 /\ day <= 292194 then (a ++ [day], b ++ [v]) else (a, b)) -> (addT2 a b day v K).satP Q := fun a b ha hb he => by
  refine addT2_sat ha hb ?_
  rw [he] at h
  by_cases hc : v ≠ b.getLast?.getD 0 /\ day <= 292194
  ·rw [if_pos hc] at h ⊢
   exact h
  ·rw [if_neg hc] at h ⊢
   exact h
 refine ⟨fun hp => ?_, fun hp => ?_, fun hb => ⟨?_, ?_, ?_⟩, fun hb => ?_⟩
 ·have : (at_.length : Int) > 0 := by simpa using hp
  rw [i64w (by omega)]
  omega
 ·have : (at_.length : Int) > 0 := by simpa using hp
  rw [i64w (by omega)]
  omega
 ·have : (at_.length : Int) > 0 := by
   rw [bif_and] at hb
   simp at hb
   simpa using hb.1
  rw [i64w (by omega)]
  omega
 ·have : (at_.length : Int) > 0 := by
   rw [bif_and] at hb
   simp at hb
   simpa using hb.1
  rw [i64w (by omega)]
  omega
 ·rw [bif_and] at hb
  obtain ⟨hp, hb⟩ := Bool.and_eq_true_iff.1 hb
  have hp' : 0 < at_.length := by simpa using hp
  rw [last_getD hp' h1] at hb
  have hl : at_.getLast? = some day := by
   have : at_.getLast?.getD 0 = day := by simpa using hb
   rw [List.getLast?_eq_getElem?] at this ⊢
   rw [List.getElem?_eq_getElem (by omega)] at this ⊢
   simpa using this
  have e1 : (IntKind.i64.wrap ((at_.length : Int) - 1)).toNat = at_.length - 1 := by
   rw [i64w (by omega)]
   omega
  rw [e1]
  refine key _ _ (by simp; omega) (by simp; omega) ?_
  unfold addAV
  simp only [hl, if_true, List.dropLast_eq_take, ← h2]
 ·rw [bif_and] at hb
  refine key _ _ h1 (by omega) ?_
  have hl : at_.getLast? ≠ some day := by
   intro hl
   have hp' : 0 < at_.length := by
    cases at_ with
    | nil => simp at hl
    | cons _ _ => simp
   have hp : decide ((at_.length : Int) > 0) = true := by simpa using hp'
   rw [hp, last_getD hp' h1, hl] at hb
   simp at hb
  unfold addAV
  simp only [hl, if_false]
end
theorem addAV_len {p : List Int × List Int} (day v : Int) (h : p.1.length = p.2.length) : (addAV p day v).1.length = (addAV p day v).2.length /\ (addAV p day v).1.length <= p.1.length + 1 := by
 unfold addAV
 by_cases hc : p.1.getLast? = some day
 ·simp only [hc, if_true]
  split <;> simp <;> omega
 ·simp only [hc, if_false]
  split <;> simp <;> omega
abbrev keepV : List (Tmp × PT) := [(10015, .d i64), (10014, .d i64), (10013, .d slsT), (10005, .d i64)]
abbrev keepM : List MI := [.y 3 97 [(some 3, i64), (some 3, i64)], .r 10003 3 0, .g 10004 95 [3], .x 7 80 sliceT, .r 10007 7 0, .x 2 97 stepT, .r 10002 2 0]
abbrev ptA : Pt := ⟨65, 0, ⟨keepV, keepM⟩, ⟨[], []⟩, ⟨[], []⟩⟩
abbrev LA : LS := ⟨(0, .d i64) :: (1, .d i64) :: keepV, .r 2 3 0 :: keepM⟩
noncomputable def bodyA : Code := Tryz.f95.body.getD .skip
def frA (x : LA.X) : Fr ptA.Out :=
 addT x.2.1.1 x.2.1.2.1 x.1.1 x.1.2.1 fun a b => Fr.val (Rd.next (x.1.2.2, (a, b, ()), x.2.2))
theorem cx0_ok : CxOK Tryz.prog (cx [] []) := cx_ok mixed trivial trivial
theorem semA : Does Tryz.prog bodyA LA ptA frA :=
 Does.of_run cx0_ok (bs := 80000) (Λ := lam0) rfl rfl rfl (fun E => lam0_ok _ 0) (fun x => by kernel_rfl)
def FA (x : LA.X) : Fr ptA.Out :=
 Fr.need (x.2.1.1.length < 1000000 /\ x.2.1.1.length = x.2.1.2.1.length)
  (Fr.val (Rd.next (x.1.2.2, ((addAV (x.2.1.1, x.2.1.2.1) x.1.1 x.1.2.1).1, (addAV (x.2.1.1, x.2.1.2.1) x.1.1 x.1.2.1).2, ()), x.2.2)))
theorem doesA : Does Tryz.prog bodyA LA ptA FA :=
 semA.conv fun x Q h => addT_sat h.1.1 h.1.2 h.2
noncomputable def kA : Nat -> FuncId -> List AV -> St -> Option Tr := hanK Tryz.prog (envF []) 95 Tryz.f95 LA ptA FA
theorem kA_ok : InlOK Tryz.prog kA := hanK_ok cx0_ok (c := bodyA) (by kernel_rfl) (by kernel_rfl) rfl rfl doesA
end Go.Proofs.YtplkgghjldndkaaGreat
namespace Go.Proofs.YtplkgghjldndkaaGreat
open Go Go.Ab Go.RowKit Go.Proofs
noncomputable def CC : Cx := cxK [(96, cFullSl)] [(59, cMust)] kA
theorem CC_ok : CxOK Tryz.prog CC := cxK_ok mixed ⟨fullSl_ok, trivial⟩ ⟨must_ok, trivial⟩ kA_ok
abbrev ptC : Pt := ⟨41, 0, ⟨[(15, .d i64), (14, .d i64), (13, .d slsT), (5, .d i64)], [.y 3 97 [(some 3, i64), (some 3, i64)], .r 3 3 0, .g 4 95 [3], .x 2 97 stepT, .r 2 2 0]⟩, ⟨[], [.y 3 97 [(some 3, i64), (some 3, i64)], .r 3 3 0, .x 2 97 stepT, .r 2 2 0]⟩, ⟨[], []⟩⟩
def addS (p : List Int × List Int) (s : sliceT.den) : List Int × List Int := addAV (addAV p s.1.1 s.2.2.2.2.1) s.1.2.1 0
def frC2 (x : ptC.M.X) (s : sliceT.den) : Fr ptC.Out :=
 Fr.need (x.2.1.1.length < 1000000 /\ x.2.1.1.length = x.2.1.2.1.length)
  (Fr.need ((addAV (x.2.1.1, x.2.1.2.1) s.1.1 s.2.2.2.2.1).1.length < 1000000 /\ (addAV (x.2.1.1, x.2.1.2.1) s.1.1 s.2.2.2.2.1).1.length = (addAV (x.2.1.1, x.2.1.2.1) s.1.1 s.2.2.2.2.1).2.length)
   (Fr.val (Rd.next ((IntKind.i64.wrap (x.1.1 + 1), x.1.2.1, x.1.2.2.1, s.1.2.1, ()), ((addS (x.2.1.1, x.2.1.2.1) s).1, (addS (x.2.1.1, x.2.1.2.1) s).2, ()), x.2.2.1, ()))))
def frC (x : ptC.M.X) : Fr ptC.Out :=
 Fr.br (decide (x.1.1 < x.1.2.1))
  (Fr.need (0 <= x.1.1 /\ x.1.1 < x.1.2.2.1.length)
   (Fr.br (!(cFullSl.f (x.1.2.2.1.getD x.1.1.toNat sliceT.dflt, x.1.2.2.2.1, ())).1)
    (Fr.br (cMust.bad (1, ())) (Fr.val (Rd.pan (cMust.pv (1, ()))))
     (frC2 x (x.1.2.2.1.getD x.1.1.toNat sliceT.dflt)))
    (frC2 x (x.1.2.2.1.getD x.1.1.toNat sliceT.dflt))))
  (Fr.val (Rd.out ((), (x.2.1.1, x.2.1.2.1, ()), x.2.2.1, ())))
theorem semC : Does Tryz.prog (loopF Tryz.f57 0) ptC.M ptC frC :=
 Does.of_run CC_ok (bs := 0) (Λ := lam0) rfl rfl rfl (fun E => lam0_ok _ 0) (fun x => by kernel_rfl)
def curveGo : List sliceT.den -> Int -> List Int × List Int -> Option (List Int × List Int)
 | [], _, p => some p
 | s :: l, e, p => if fullSl s e = true then curveGo l s.1.2.1 (addS p s) else none
def outC (r : stepT.den) (o : Option (List Int × List Int)) : Fr ptC.Out :=
 Fr.br o.isSome (Fr.val (Rd.out ((), ((o.getD ([], [])).1, (o.getD ([], [])).2, ()), r, ()))) (Fr.val (Rd.pan ⟨41, .i64, 1⟩))
structure InvC (i n : Int) (l : List sliceT.den) (p : List Int × List Int) : Prop where
 len : n = l.length
 lo : 0 <= i
 hi : i <= n
 most : l.length <= 2000
 both : p.1.length = p.2.length
 few : p.1.length <= 2 * i
def FC (x : ptC.M.X) : Fr ptC.Out :=
 Fr.need (InvC x.1.1 x.1.2.1 x.1.2.2.1 (x.2.1.1, x.2.1.2.1)) (outC x.2.2.1 (curveGo (x.1.2.2.1.drop x.1.1.toNat) x.1.2.2.2.1 (x.2.1.1, x.2.1.2.1)))
theorem lawC (i n : Int) (l : List sliceT.den) (e : Int) (at_ val : List Int) (r : stepT.den) (hinv : InvC i n l (at_, val)) (Q : ptC.Out -> Prop) (hq : (outC r (curveGo (l.drop i.toNat) e (at_, val))).satP Q) :
  (frC ((i, n, l, e, ()), (at_, val, ()), r, ())).satP fun
   | .next x' => InvC x'.1.1 x'.1.2.1 x'.1.2.2.1 (x'.2.1.1, x'.2.1.2.1) /\ (x'.1.2.1 - x'.1.1).toNat < (n - i).toNat /\ (FC x').satP Q
   | .out y => Q (.out y)
   | .back z => Q (.back z)
   | .pan p => Q (.pan p) := by
 obtain ⟨rfl, h4, h5, h6, h7, h8⟩ := hinv
 refine ⟨fun hi => ?_, fun hi => ?_⟩
 ·have hi' : i < l.length := by simpa using hi
  have hl : i.toNat < l.length := by omega
  have e1 : l.drop i.toNat = l[i.toNat] :: l.drop (i.toNat + 1) := List.drop_eq_getElem_cons hl
  have g1 : l.getD i.toNat sliceT.dflt = l[i.toNat] := by rw [List.getD_eq_getElem?_getD, List.getElem?_eq_getElem hl]; rfl
  rw [e1] at hq
  generalize hs : l[i.toNat] = s at *
  refine ⟨⟨h4, hi'⟩, fun hb => ?_, fun hb => ?_⟩
  ·have hb' : fullSl s e = false := by
    have : (!(cFullSl.f (l.getD i.toNat sliceT.dflt, e, ())).1) = true := hb
    rw [g1] at this
    simpa [cFullSl] using this
   have hq' : Q (Rd.pan ⟨41, .i64, 1⟩) := by
    unfold curveGo at hq
    rw [hb'] at hq
    exact hq.2 rfl
   exact ⟨fun _ => hq', fun hc => by cases hc⟩
  ·have hb' : fullSl s e = true := by
    have : (!(cFullSl.f (l.getD i.toNat sliceT.dflt, e, ())).1) = false := hb
    rw [g1] at this
    simpa [cFullSl] using this
   unfold curveGo at hq
   rw [hb', if_pos rfl] at hq
   have a1 := addAV_len (p := (at_, val)) s.1.1 s.2.2.2.2.1 h7
   have a2 := addAV_len (p := addAV (at_, val) s.1.1 s.2.2.2.2.1) s.1.2.1 0 a1.1
   show (frC2 ((i, (l.length : Int), l, e, ()), (at_, val, ()), r, ()) (l.getD i.toNat sliceT.dflt)).satP _
   rw [g1]
   have hw : IntKind.i64.wrap (i + 1) = i + 1 := i64w (by omega)
   have hn : (i + 1).toNat = i.toNat + 1 := by omega
   have h7' : at_.length = val.length := h7
   have h8' : (at_.length : Int) <= 2 * i := h8
   have a1' : (addAV (at_, val) s.1.1 s.2.2.2.2.1).1.length <= at_.length + 1 := a1.2
   have hI : InvC (i + 1) l.length l (addS (at_, val) s) := ⟨rfl, by omega, by omega, h6, a2.1, by
    have : (addS (at_, val) s).1.length <= (addAV (at_, val) s.1.1 s.2.2.2.2.1).1.length + 1 := a2.2
    omega⟩
   refine ⟨⟨by show at_.length < 1000000; omega, h7⟩, ⟨by show (addAV (at_, val) s.1.1 s.2.2.2.2.1).1.length < 1000000; omega, a1.1⟩, ?_⟩
   show InvC (IntKind.i64.wrap (i + 1)) l.length l (addS (at_, val) s) /\ ((l.length : Int) - IntKind.i64.wrap (i + 1)).toNat < ((l.length : Int) - i).toNat /\ (FC ((IntKind.i64.wrap (i + 1), (l.length : Int), l, s.1.2.1, ()), ((addS (at_, val) s).1, (addS (at_, val) s).2, ()), r, ())).satP Q
   rw [hw]
   refine ⟨hI, by omega, hI, ?_⟩
   show (outC r (curveGo (l.drop (i + 1).toNat) s.1.2.1 (addS (at_, val) s))).satP Q
   rw [hn]
   exact hq
 ·have hi' : ¬ i < l.length := by simpa using hi
  have hl : l.drop i.toNat = [] := List.drop_eq_nil_of_le (by omega)
  rw [hl] at hq
  exact hq.1 rfl
theorem loopC : Does Tryz.prog (.loop (loopF Tryz.f57 0)) ptC.M ptC FC := by
 refine Does.loop (n := 41) (id := 0) semC (inv := fun x => InvC x.1.1 x.1.2.1 x.1.2.2.1 (x.2.1.1, x.2.1.2.1)) (μ := fun x => (x.1.2.1 - x.1.1).toNat) ?_ (fun x Q h => h.1)
 rintro ⟨⟨i, n, l, e, _⟩, ⟨at_, val, _⟩, r, _⟩ hinv Q hq
 exact lawC i n l e at_ val r hinv Q hq.2
noncomputable def ΛC : Nat -> St -> Option Tr := fun _ => ptC.han CC.Γ ptC.M FC
def curveO (l : List sliceT.den) : Option (List Int × List Int) := if l.length <= 2000 then curveGo l 1 ([], []) else none
def frCv2 (x : denP [.d slsT]) : Fr (Oc (denL [stepT])) :=
 Fr.need (InvC 0 x.1.length x.1 ([], []))
  (Fr.br (curveGo (x.1.drop (Int.toNat 0)) 1 ([], [])).isSome (Fr.val (Oc.ok ((((curveGo (x.1.drop (Int.toNat 0)) 1 ([], [])).getD ([], [])).1, ((curveGo (x.1.drop (Int.toNat 0)) 1 ([], [])).getD ([], [])).2, ()), ())))
   (Fr.val (Oc.pan ⟨41, .i64, 1⟩)))
def frCv (x : denP [.d slsT]) : Fr (Oc (denL [stepT])) :=
 Fr.br (decide ((x.1.length : Int) > 2000))
  (Fr.br (cMust.bad (1, ())) (Fr.val (Oc.pan (cMust.pv (1, ())))) (frCv2 x))
  (frCv2 x)
theorem curve_fp : SoundPc Tryz.prog 57 ⟨[.d slsT], [stepT], fun xs => (frCv xs).get.val, fun xs => (frCv xs).get.bad, fun xs => (frCv xs).get.pv, fun xs => [(frCv xs).ok]⟩ :=
 fp_sound CC_ok (Λ := ΛC) (fn := Tryz.f57) ([], ()) (by kernel_rfl) (fun c E hc => lam1f hc (by kernel_rfl) (b := loopF Tryz.f57 0) (by kernel_rfl) (Does.han CC_ok rfl loopC)) (fun xs => by kernel_rfl)
def curveF (l : List sliceT.den) : stepT.den := (((curveO l).getD ([], [])).1, ((curveO l).getD ([], [])).2, ())
def cCurve : Pc := ⟨[.d slsT], [stepT], fun x => (curveF x.1, ()), fun x => (curveO x.1).isNone, fun _ => ⟨41, .i64, 1⟩, fun _ => []⟩
theorem curve_ok : SoundPc Tryz.prog 57 cCurve :=
 convP curve_fp _ _ _ _ fun w F xs vs hr _ => by
  obtain ⟨l, _⟩ := xs
  by_cases hl : l.length <= 2000
  ·have hd : decide ((l.length : Int) > 2000) = false := by simp; omega
   have hI : InvC 0 l.length l ([], []) := ⟨rfl, Int.le_refl _, by omega, hl, rfl, by simp⟩
   have hO : curveO l = curveGo l 1 ([], []) := if_pos hl
   have hget : (frCv (l, ())).get = if (curveGo l 1 ([], [])).isSome = true then Oc.ok (curveF l, ()) else Oc.pan ⟨41, .i64, 1⟩ := by
    show (if decide ((l.length : Int) > 2000) = true then _ else (if (curveGo l 1 ([], [])).isSome = true then Oc.ok _ else Oc.pan _)) = _
    rw [hd]
    unfold curveF
    rw [hO]
    rfl
   refine ⟨⟨fun hb => ?_, fun _ => ⟨hI, fun _ => trivial, fun _ => trivial⟩⟩, ?_, ?_, ?_⟩
   ·have hb' : decide ((l.length : Int) > 2000) = true := hb
    rw [hd] at hb'
    cases hb'
   ·show (frCv (l, ())).get.bad = (curveO l).isNone
    rw [hget, hO]
    cases curveGo l 1 ([], []) <;> rfl
   ·intro hb
    have hb' : (curveO l).isNone = false := hb
    show (frCv (l, ())).get.val = (curveF l, ())
    rw [hget]
    rw [hO] at hb'
    cases h : curveGo l 1 ([], []) with
    | none => rw [h] at hb'; cases hb'
    | some p => rfl
   ·intro hb
    have hb' : (curveO l).isNone = true := hb
    show (frCv (l, ())).get.pv = _
    rw [hget]
    rw [hO] at hb'
    cases h : curveGo l 1 ([], []) with
    | none => rfl
    | some p => rw [h] at hb'; cases hb'
  ·have hd : decide ((l.length : Int) > 2000) = true := by simp; omega
   have hO : curveO l = none := if_neg hl
   have hget : (frCv (l, ())).get = Oc.pan ⟨41, .i64, 1⟩ := by
    show (if decide ((l.length : Int) > 2000) = true then _ else _) = _
    rw [hd]
    rfl
   refine ⟨⟨fun _ => ⟨fun _ => trivial, fun hc => by cases hc⟩, fun hb => ?_⟩, ?_, ?_, ?_⟩
   ·have hb' : decide ((l.length : Int) > 2000) = false := hb
    rw [hd] at hb'
    cases hb'
   ·show (frCv (l, ())).get.bad = (curveO l).isNone
    rw [hget, hO]
    rfl
   ·intro hb
    have hb' : (curveO l).isNone = false := hb
    rw [hO] at hb'
    cases hb'
   ·intro _
    show (frCv (l, ())).get.pv = _
    rw [hget]
    rfl
def clampD (d : Int) : Int := if 292195 < (if d < 1 then 1 else d) then 292195 else (if d < 1 then 1 else d)
theorem clampD_bd (d : Int) : 1 <= clampD d /\ clampD d <= 292195 := by
 unfold clampD
 split <;> split <;> omega
noncomputable def CU : Cx := cx [(97, cSum), (76, cEven)] [(59, cMust)]
theorem CU_ok : CxOK Tryz.prog CU := cx_ok mixed ⟨sum_ok, even_ok, trivial⟩ ⟨must_ok, trivial⟩
def frU2 (s e : Int) : Fr (Oc (denL [i64])) :=
 Fr.br (cMust.bad (e, ())) (Fr.val (Oc.pan (cMust.pv (e, ()))))
  (Fr.need (0 <= s -> (0 : Int) <= 1 -> s * 1 < 18446744073709551616)
   (Fr.br (cMust.bad ((cEven.f (s, 1, 365, ())).2.1, ())) (Fr.val (Oc.pan (cMust.pv ((cEven.f (s, 1, 365, ())).2.1, ())))) (Fr.val (Oc.ok ((cEven.f (s, 1, 365, ())).1, ())))))
def frU (x : denP [.d stepT, .d i64]) : Fr (Oc (denL [i64])) :=
 Fr.br (clampD x.2.1 == 1) (Fr.val (Oc.ok (0, ()))) (frU2 (cSum.f (x.1, (1, clampD x.2.1, ()), ())).1 (cSum.f (x.1, (1, clampD x.2.1, ()), ())).2.1)
theorem upto_fp : SoundPc Tryz.prog 60 ⟨[.d stepT, .d i64], [i64], fun xs => (frU xs).get.val, fun xs => (frU xs).get.bad, fun xs => (frU xs).get.pv, fun xs => [(frU xs).ok]⟩ :=
 fp_sound CU_ok (Λ := lam0) (fn := Tryz.f60) (([], [], ()), 0, ()) (by kernel_rfl) (fun c E hc => lam0_ok c 0) (fun xs => by kernel_rfl)
def uptoSE (s e : Int) : Int × Int := if e ≠ 0 then (0, e) else if (evenF s 1 365).2 ≠ 0 then (0, (evenF s 1 365).2) else ((evenF s 1 365).1, 0)
def uptoO (f : stepT.den) (d : Int) : Int × Int := if clampD d = 1 then (0, 0) else uptoSE (sumSt f (1, clampD d, ())).1 (sumSt f (1, clampD d, ())).2
def cUpto : Pc := ⟨[.d stepT, .d i64], [i64], fun x => ((uptoO x.1 x.2.1).1, ()), fun x => !((uptoO x.1 x.2.1).2 == 0), fun x => ⟨41, .i64, (uptoO x.1 x.2.1).2⟩, fun _ => []⟩
theorem sumSt_le (f : stepT.den) (s : spanT.den) : (sumSt f s).1 <= 4000000000000000000 := by
 unfold sumSt
 split
 ·rename_i h
  obtain ⟨_, _, _, hval⟩ := rightSt_spec h.1
  have hs := fullS_iff.1 h.2
  have hok := piecesGo_ok (f := f) hval (e := s.2.1) hs.2.2 f.1 s.1 hs.1 hs.2.1
  cases hq : sumGo (piecesGo f s.2.1 f.1 s.1) (0, 0) with
  | none => show (0 : Int) <= _; decide
  | some q =>
   obtain ⟨j1, j2, j3, j4⟩ := sumGo_inv hok (q := (0, 0)) ⟨by decide, by decide, by decide, by decide⟩ hq
   show q.1 <= _
   omega
 ·show (0 : Int) <= _; decide
theorem frU2_eq {s e : Int} (hs : s <= 4000000000000000000) : (frU2 s e).ok /\ (frU2 s e).get = if (uptoSE s e).2 = 0 then Oc.ok ((uptoSE s e).1, ()) else Oc.pan ⟨41, .i64, (uptoSE s e).2⟩ := by
 by_cases he : e = 0
 ·subst he
  have hneed : 0 <= s -> (0 : Int) <= 1 -> s * 1 < 18446744073709551616 := fun _ _ => by omega
  by_cases h2 : (evenF s 1 365).2 = 0
  ·have hU : uptoSE s 0 = ((evenF s 1 365).1, 0) := by
    unfold uptoSE
    rw [if_neg (fun h => h rfl), if_neg (fun h => h h2)]
   have hb : cMust.bad ((cEven.f (s, 1, 365, ())).2.1, ()) = false := by
    show (!((evenF s 1 365).2 == 0)) = false
    rw [h2]
    rfl
   rw [hU]
   refine ⟨⟨fun hc => (by cases hc), fun _ => ⟨hneed, fun _ => trivial, fun _ => trivial⟩⟩, ?_⟩
   show (if cMust.bad ((cEven.f (s, 1, 365, ())).2.1, ()) = true then _ else Oc.ok ((evenF s 1 365).1, ())) = _
   rw [hb]
   rfl
  ·have hU : uptoSE s 0 = (0, (evenF s 1 365).2) := by
    unfold uptoSE
    rw [if_neg (fun h => h rfl), if_pos h2]
   have hb : cMust.bad ((cEven.f (s, 1, 365, ())).2.1, ()) = true := by
    show (!((evenF s 1 365).2 == 0)) = true
    simp [h2]
   rw [hU]
   refine ⟨⟨fun hc => (by cases hc), fun _ => ⟨hneed, fun _ => trivial, fun _ => trivial⟩⟩, ?_⟩
   show (if cMust.bad ((cEven.f (s, 1, 365, ())).2.1, ()) = true then Oc.pan ⟨41, .i64, (evenF s 1 365).2⟩ else _) = _
   rw [hb, if_pos rfl]
   exact (if_neg h2).symm
 ·have hU : uptoSE s e = (0, e) := by
   unfold uptoSE
   rw [if_pos he]
  have hb : cMust.bad (e, ()) = true := by
   show (!(e == 0)) = true
   simp [he]
  rw [hU]
  refine ⟨⟨fun _ => trivial, fun hc => (by rw [hb] at hc; cases hc)⟩, ?_⟩
  show (if cMust.bad (e, ()) = true then Oc.pan ⟨41, .i64, e⟩ else _) = _
  rw [hb, if_pos rfl]
  exact (if_neg he).symm
theorem upto_ok : SoundPc Tryz.prog 60 cUpto :=
 convP upto_fp _ _ _ _ fun w F xs vs hr _ => by
  obtain ⟨f, d, _⟩ := xs
  have key : (frU (f, d, ())).ok /\ (frU (f, d, ())).get = if (uptoO f d).2 = 0 then Oc.ok ((uptoO f d).1, ()) else Oc.pan ⟨41, .i64, (uptoO f d).2⟩ := by
   unfold uptoO
   by_cases hd : clampD d = 1
   ·rw [if_pos hd]
    have hb : (clampD d == 1) = true := by simpa using hd
    refine ⟨⟨fun _ => trivial, fun hc => (by rw [hb] at hc; cases hc)⟩, ?_⟩
    show (if (clampD d == 1) = true then Oc.ok (0, ()) else _) = _
    rw [hb]
    rfl
   ·rw [if_neg hd]
    have hb : (clampD d == 1) = false := by simpa using hd
    have h2 := frU2_eq (e := (sumSt f (1, clampD d, ())).2) (sumSt_le f (1, clampD d, ()))
    refine ⟨⟨fun hc => (by rw [hb] at hc; cases hc), fun _ => h2.1⟩, ?_⟩
    show (if (clampD d == 1) = true then _ else (frU2 (sumSt f (1, clampD d, ())).1 (sumSt f (1, clampD d, ())).2).get) = _
    rw [hb, if_neg (by decide), h2.2]
  refine ⟨key.1, ?_, ?_, ?_⟩
  ·show (frU (f, d, ())).get.bad = !((uptoO f d).2 == 0)
   rw [key.2]
   by_cases h : (uptoO f d).2 = 0
   ·rw [if_pos h, h]
    rfl
   ·rw [if_neg h]
    have : ((uptoO f d).2 == 0) = false := by simpa using h
    rw [this]
    rfl
  ·intro hb
   have hb' : (!((uptoO f d).2 == 0)) = false := hb
   have h : (uptoO f d).2 = 0 := by simpa using hb'
   show (frU (f, d, ())).get.val = ((uptoO f d).1, ())
   rw [key.2, if_pos h]
   rfl
  ·intro hb
   have hb' : (!((uptoO f d).2 == 0)) = true := hb
   have h : ¬ (uptoO f d).2 = 0 := by simpa using hb'
   show (frU (f, d, ())).get.pv = _
   rw [key.2, if_neg h]
   rfl
theorem setRow_one {w : World} {b : Nat} {ty : TypeId} {old v : Value} (h : w.heap[b]? = some (.cells #[old] ty (0, 0))) : w.setCell ⟨b, 0, none⟩ v = w.setRow b #[v] := by
 unfold World.setCell World.setRow
 congr 1
 apply Array.ext_getElem?
 intro i
 simp only [Array.getElem?_modify]
 by_cases hi : b = i
 ·subst hi
  rw [h]
  simp
 ·simp [hi]
theorem told_ok : TolOK Tryz.prog 56 41 .i64 := by
 refine ⟨enters (fn := Tryz.f56) (by kernel_rfl) rfl rfl, fun p w => ?_, fun b ty old n w hb => ?_⟩
 ·refine callsD_of_wpS Tryz.func56 rfl fun c₀ cs hu => ?_
  simp only [Tryz.ntmps56, List.size_toArray, List.length_cons, List.length_nil, Nat.reduceAdd, Nat.reduceSub, Array.replicate_succ, Array.replicate_zero, List.push_toArray, List.append_toArray, List.nil_append, List.cons_append]
  apply wpS_seq
  apply wpS_region
  simp [wpOpsS, go_sem, recoverD, hu, Exit.thenS]
  refine wpS_of_wp ?_
  go_wp2
  cases c₀
  simp_all [bodyPostS, results, Tryz.results56]
 ·have hc : w.cell? ⟨b, 0, none⟩ = some old := cell_of_block hb 0
  have hz : w.frozen? ⟨b, 0, none⟩ = false := by simp [World.frozen?, hb]
  have hta : ∀ w, (Instr.typeAssert (.iface 41 (.int .i64 n)) 20 41 true).run Tryz.prog w = .ok (.tuple #[.int .i64 n, .bool true]) w := fun _ => by kernel_rfl
  refine callsD_of_wpS Tryz.func56 rfl fun c₀ cs hu => ?_
  simp only [Tryz.ntmps56, List.size_toArray, List.length_cons, List.length_nil, Nat.reduceAdd, Nat.reduceSub, Array.replicate_succ, Array.replicate_zero, List.push_toArray, List.append_toArray, List.nil_append, List.cons_append]
  apply wpS_seq
  apply wpS_region
  simp [wpOpsS, go_sem, recoverD, hu, Exit.thenS]
  refine wpS_of_wp ?_
  go_wp2
  simp [bodyPostS, results, Tryz.results56, setRow_one hb]
theorem err0 : (0 : Int) <= 0 /\ (0 : Int) <= 6 := by decide
theorem err1 : (0 : Int) <= 1 /\ (1 : Int) <= 6 := by decide
theorem val0 : (0 : Int) <= 0 /\ (0 : Int) <= 4000000000000000000 := by decide
theorem err5 : (0 : Int) <= 5 /\ (5 : Int) <= 6 := by decide
theorem evenF_err (a b c : Int) : 0 <= (evenF a b c).2 /\ (evenF a b c).2 <= 6 := by
 unfold evenF
 split
 ·exact ⟨by decide, by decide⟩
 ·split
  ·exact ⟨by decide, by decide⟩
  ·split
   ·exact err5
   ·exact err0
theorem evenF_val (a b c : Int) (hc : 0 < c) : 0 <= (evenF a b c).1 /\ (evenF a b c).1 <= 4000000000000000000 := by
 unfold evenF
 split
 ·exact ⟨by decide, by decide⟩
 ·rename_i h
  split
  ·exact ⟨by decide, by decide⟩
  ·split
   ·exact ⟨by decide, by decide⟩
   ·have hab : 0 <= a * b := Int.mul_nonneg (by omega) (by omega)
    have hq : 0 <= a * b / c := Int.ediv_nonneg hab (by omega)
    have : 0 <= evenQ (a * b) c := by
     unfold evenQ
     split <;> omega
    exact ⟨this, by show evenQ (a * b) c <= _; omega⟩
theorem sumSt_err (f : stepT.den) (s : spanT.den) : 0 <= (sumSt f s).2 /\ (sumSt f s).2 <= 6 := by
 unfold sumSt
 split
 ·cases sumGo (piecesGo f s.2.1 f.1 s.1) (0, 0)
  ·exact err5
  ·exact err0
 ·exact ⟨by decide, by decide⟩
theorem uptoO_err (f : stepT.den) (d : Int) : 0 <= (uptoO f d).2 /\ (uptoO f d).2 <= 6 := by
 unfold uptoO
 split
 ·exact ⟨by decide, by decide⟩
 ·unfold uptoSE
  split
  ·exact sumSt_err _ _
  ·split
   ·exact evenF_err _ _ _
   ·exact err0
theorem uptoO_val (f : stepT.den) (d : Int) : 0 <= (uptoO f d).1 /\ (uptoO f d).1 <= 4000000000000000000 := by
 unfold uptoO
 split
 ·exact val0
 ·unfold uptoSE
  split
  ·exact val0
  ·split
   ·exact val0
   ·exact evenF_val _ _ _ (by decide)
theorem uptoO_bad (f : stepT.den) (d : Int) (h : (uptoO f d).2 ≠ 0) : (uptoO f d).1 = 0 := by
 unfold uptoO at *
 split at h
 ·exact absurd rfl h
 ·rename_i hd
  rw [if_neg hd]
  unfold uptoSE at *
  split at h
  ·rename_i he
   rw [if_pos he]
  ·rename_i he
   rw [if_neg he]
   split at h
   ·rename_i h2
    rw [if_pos h2]
   ·exact absurd rfl h
theorem errR {n : Int} (h : 0 <= n /\ n <= 6) : inR .i64 n := by
 constructor
 ·show (-9223372036854775808 : Int) <= n
  omega
 ·show n <= (9223372036854775807 : Int)
  omega
noncomputable def CP : Cx := cx [] [(57, cCurve), (60, cUpto)]
theorem CP_ok : CxOK Tryz.prog CP := cx_ok mixed trivial ⟨curve_ok, upto_ok, trivial⟩
def UptoF (l : List sliceT.den) (d : Int) : Int × Int := if (curveO l).isNone = true then (0, 1) else uptoO (curveF l) d
def cUptoF : Ct := ⟨[.d slsT, .d i64], [i64, i64], fun x => ((UptoF x.1 x.2.1).1, (UptoF x.1 x.2.1).2, ()), fun _ => []⟩
def frUpto (x : denP [.d slsT, .d i64]) : Fr (denL [i64, i64]) :=
 Fr.br (cCurve.bad (x.1, ())) (Fr.need (inR .i64 (cCurve.pv (x.1, ())).n) (Fr.val (0, (cCurve.pv (x.1, ())).n, ())))
  (Fr.br (cUpto.bad ((cCurve.f (x.1, ())).1, x.2.1, ()))
   (Fr.need (inR .i64 (cUpto.pv ((cCurve.f (x.1, ())).1, x.2.1, ())).n) (Fr.val (0, (cUpto.pv ((cCurve.f (x.1, ())).1, x.2.1, ())).n, ())))
   (Fr.val ((cUpto.f ((cCurve.f (x.1, ())).1, x.2.1, ())).1, 0, ())))
theorem Upto_ok : SoundCt Tryz.prog 62 cUptoF :=
 conv (df_sound CP_ok (Λ := lam0) (fn := Tryz.f62) (fr := frUpto) (ps := [.d slsT, .d i64]) (rs := [i64, i64]) ([], 0, ()) (by kernel_rfl) told_ok (fun c E _ => lam0_ok c 0) (fun x => by kernel_rfl)) _ _ fun w F xs vs hr _ => by
  obtain ⟨l, d, _⟩ := xs
  by_cases hc : (curveO l).isNone = true
  ·have hb : cCurve.bad (l, ()) = true := hc
   refine ⟨⟨fun _ => ⟨errR err1, trivial⟩, fun h => (by have h' : cCurve.bad (l, ()) = false := h; rw [hb] at h'; cases h')⟩, ?_⟩
   show (if cCurve.bad (l, ()) = true then ((0 : Int), (1 : Int), ()) else _) = ((UptoF l d).1, (UptoF l d).2, ())
   unfold UptoF
   rw [hb, if_pos rfl, if_pos hc]
  ·have hb : cCurve.bad (l, ()) = false := (by show (curveO l).isNone = false; exact Bool.eq_false_iff.2 hc)
   have hU : UptoF l d = uptoO (curveF l) d := if_neg hc
   refine ⟨⟨fun h => (by have h' : cCurve.bad (l, ()) = true := h; rw [hb] at h'; cases h'), fun _ => ⟨fun _ => ⟨errR (uptoO_err _ _), trivial⟩, fun _ => trivial⟩⟩, ?_⟩
   show (if cCurve.bad (l, ()) = true then _ else if (!((uptoO (curveF l) d).2 == 0)) = true then ((0 : Int), (uptoO (curveF l) d).2, ()) else ((uptoO (curveF l) d).1, 0, ())) = ((UptoF l d).1, (UptoF l d).2, ())
   rw [hb, if_neg (by decide), hU]
   by_cases h2 : (uptoO (curveF l) d).2 = 0
   ·rw [if_neg (by simp [h2]), h2]
   ·rw [if_pos (by simp [h2]), uptoO_bad _ _ h2]
def cWritten : Ct := ⟨[.d slsT], [i64, i64], fun x => ((UptoF x.1 292195).1, (UptoF x.1 292195).2, ()), fun _ => []⟩
theorem Written_ok : SoundCt Tryz.prog 29 cWritten :=
 flat (ps := [.d slsT]) (rs := [i64, i64]) (cx_ok (cs := [(62, cUptoF)]) (ps := []) mixed ⟨Upto_ok, trivial⟩ trivial) (fn := Tryz.f29) (fr := fun x => Fr.val ((cUptoF.f (x.1, 292195, ())).1, (cUptoF.f (x.1, 292195, ())).2.1, ())) ([], ()) (by kernel_rfl) (fun x => by kernel_rfl) _ _
  (fun _ _ x _ _ _ => ⟨trivial, rfl⟩)
end Go.Proofs.YtplkgghjldndkaaGreat
