/-
  An interpreter over the code of a program, proved sound: part D.
-/
import Derived.Test.YtbplccbjgfappaaAbC
import Derived.Laws.Sem
import Derived.Recover
import Derived.Carry
import Derived.ChangeSame
import Derived.ProofKit
import Derived.OpenShut
import Derived.ChangeCalls
/-
  A function: from its code to what it answers; a loop: from its round to what it comes to.
-/
namespace Go.Ab
open Go Go.RowKit

/-- A datum by truths, with what is needed on the way. -/
inductive Fr (α : Type) where
  | val (x : α)
  | br (b : Bool) (x y : Fr α)
  | need (p : Prop) (x : Fr α)

def Fr.needL {α : Type} (ns : List Prop) (x : Fr α) : Fr α := ns.foldr (fun p t => .need p t) x

def Fr.get {α : Type} : Fr α → α
  | .val x => x
  | .br b x y => if b = true then x.get else y.get
  | .need _ x => x.get

def Fr.ok {α : Type} : Fr α → Prop
  | .val _ => True
  | .br b x y => (b = true → x.ok) ∧ (b = false → y.ok)
  | .need p x => p ∧ x.ok

def endA (P : Program) (rv : List ResultVar) (rs : List Ty) (s : St) : Option (Fr (denL rs)) :=
  match resAs P s rv with
  | some (vs, n) => match rsAs s.mem vs with
    | some (xs, _) => match decVs rs xs with
      | some y => some (Fr.needL n (.val y))
      | none => none
    | none => none
  | none => none

def frOf (P : Program) (rv : List ResultVar) (rs : List Ty) : Tr → Option (Fr (denL rs))
  | .leaf .ret s => endA P rv rs s
  | .leaf .normal s => endA P rv rs s
  | .leaf _ _ => none
  | .br b x y => match frOf P rv rs x, frOf P rv rs y with
    | some x', some y' => some (.br b x' y')
    | _, _ => none
  | .need p x => match frOf P rv rs x with
    | some x' => some (.need p x')
    | none => none
  | .two p x y => match frOf P rv rs x, frOf P rv rs y with
    | some x', some y' => some (.need (p → x'.ok ∧ x'.get = y'.get) y')
    | _, _ => none

def encPs : (ps : List PT) → denP ps → List AV
  | [], _ => []
  | p :: r, x => encP p x.1 :: encPs r x.2

/-- A function, carried out. -/
def runF (P : Program) (C : Cx) (Λ : Nat → St → Option Tr) (c : Code) (n : Nat) (rv : List ResultVar) (ps : List PT) (rs : List Ty) (xs : denP ps) : Option (Fr (denL rs)) :=
  match codeA P C 0 Λ c 0 (startA n (encPs ps xs)) with
  | some t => frOf P rv rs t
  | none => none

section
variable {P : Program} {B : Nat} {w w' : World} {E : Env} {F F' : Nat → Prop} {bs : Nat} {γ γ' γ0 : Nat → Value} {Γ : FuncId → Option Ct} {M m : Mem} {R : Nat → Value → Prop}

def resOne (tmps : Array Value) : ResultVar → Sem Value
  | .tmp t => pure (tmps.getD t undef)
  | .cell a t => do loadVar t (← asAddr (tmps.getD a undef))

def ranAll (P : Program) (tmps : Array Value) (w : World) : List ResultVar → List Value → Prop
  | [], [] => True
  | r :: rs, v :: vs => (resOne tmps r).run P w = .ok v w ∧ ranAll P tmps w rs vs
  | _, _ => False

theorem mapM_ran {tmps : Array Value} : (l : List ResultVar) → (us : List Value) → ranAll P tmps w l us → (l.mapM (m := Sem) (resOne tmps)).run P w = .ok us w
  | [], [], _ => by simp
  | r :: rs, v :: vs, h => by
    rw [List.mapM_cons]
    simp only [Sem.run_bind, h.1, Result.andThen, mapM_ran rs vs h.2, Sem.run_pure]

/-- One value as it is, else all of them. -/
def resVal : List Value → Value
  | [v] => v
  | vs => .tuple vs.toArray

theorem results_run {fn : Func} {tmps : Array Value} {vs : List Value} (h : ranAll P tmps w fn.results.toList vs) : (results fn tmps).run P w = .ok (resVal vs) w := by
  have he : results fn tmps = (do
      let vs ← fn.results.mapM (resOne tmps)
      pure (if h : vs.size = 1 then vs[0] else .tuple vs)) := by
    unfold results
    congr 1
  rw [he, Array.mapM_eq_mapM_toList]
  simp only [Sem.run_bind, map_eq_pure_bind, Sem.run_pure, mapM_ran _ _ h, Result.andThen]
  cases vs with
  | nil => simp [resVal]
  | cons v vs =>
    cases vs with
    | nil => simp [resVal]
    | cons v' vs => simp [resVal]

theorem repVs_len : {ts : List Ty} → {x : denL ts} → {vs : List Value} → RepVs w F ts x vs → vs.length = ts.length
  | [], _, _, h => by cases h; rfl
  | _ :: _, _, _, ⟨v, vs', h1, _, h3⟩ => by subst h1; simp [repVs_len h3]

theorem repR_of : {ts : List Ty} → {x : denL ts} → {vs : List Value} → RepVs w F ts x vs → RepR w F ts x (resVal vs)
  | [], _, _, h => by
    cases h
    exact ⟨#[], rfl, rfl⟩
  | [t], x, vs, h => by
    obtain ⟨v, vs', rfl, h2, h3⟩ := h
    cases h3
    exact h2
  | t :: t' :: r, x, vs, h => by
    obtain ⟨v, vs', rfl, h2, h3⟩ := id h
    obtain ⟨v', vs'', rfl, _, _⟩ := id h3
    exact ⟨_, rfl, by simpa using h⟩

theorem encPs_rep : {ps : List PT} → {xs : denP ps} → {vs : List Value} → RepPs P w F ps xs vs → Reps P w F R (encPs ps xs) vs
  | [], _, _, h => by cases h; trivial
  | _ :: _, _, _, ⟨v, vs', h1, h2, h3⟩ => by subst h1; exact ⟨encP_rep h2, encPs_rep h3⟩

theorem reps_get : {xs : List AV} → {vs : List Value} → Reps P w F R xs vs → ∀ i : Nat, RepA P w F R (xs.getD i .dead) (vs.getD i undef)
  | [], [], _, i => trivial
  | x :: xs, v :: vs, h, 0 => h.1
  | x :: xs, v :: vs, h, i + 1 => by
    have := reps_get h.2 i
    simpa using this

theorem start_inv {D : List Deferred} {n : Nat} {xs : List AV} {vs : List Value} (hb : ∀ b, F b → b < w.heap.size) (h : ∀ R, Reps P w F R xs vs) (hn : vs.length ≤ n) : I P ⟨w, F, fun _ => undef, D, w.heap.size, Nat.le_refl _⟩ (startA n xs) { tmps := vs.toArray ++ Array.replicate (n - vs.length) undef, defers := D } w := by
  refine ⟨F, fun _ => undef, ?_, rfl, ⟨fun _ => undef, Step.refl hb⟩, ⟨fun id o ho => (nomatch ho), fun i j oi oj b _ ho => (nomatch ho)⟩, fun t => ?_, fun t g want v ht => ?_, fun _ => trivial⟩
  · show _ = n
    simp
    omega
  · have hg : (vs.toArray ++ Array.replicate (n - vs.length) undef).getD t undef = vs.getD t undef := by
      simp only [Array.getD_eq_getD_getElem?, List.getD_eq_getElem?_getD]
      rcases Nat.lt_or_ge t vs.length with hlt | hge
      · rw [Array.getElem?_append_left (by simpa using hlt)]
        simp
      · rw [Array.getElem?_append_right (by simpa using hge), List.getElem?_eq_none hge]
        simp only [Array.getElem?_replicate]
        split <;> rfl
    show SlotOK P w F _ _ (xs.getD t .dead) ((vs.toArray ++ Array.replicate (n - vs.length) undef).getD t undef)
    rw [hg]
    exact repA_slot (reps_get (h _) t)
  · exfalso
    have := reps_get (h fun _ _ => True) t
    have ht' : xs.getD t .dead = .maybe g want v := ht
    rw [ht'] at this
    exact this

theorem needL_ok {α : Type} {x : Fr α} : (ns : List Prop) → (Fr.needL ns x).ok → conj ns ∧ x.ok
  | [], h => ⟨trivial, h⟩
  | p :: ns, h => by
    have h' : p ∧ (Fr.needL ns x).ok := h
    obtain ⟨h1, h2⟩ := needL_ok ns h'.2
    exact ⟨conj_cons.2 ⟨h'.1, h1⟩, h2⟩

theorem needL_get {α : Type} {x : Fr α} : (ns : List Prop) → (Fr.needL ns x).get = x.get
  | [] => rfl
  | _ :: ns => needL_get ns

theorem fr_sat {rv : List ResultVar} {rs : List Ty} : {t : Tr} → {f : Fr (denL rs)} → frOf P rv rs t = some f → f.ok → t.sat fun e s => (e = .ret ∨ e = .normal) ∧ ∃ n, endA P rv rs s = some (Fr.needL n (.val f.get)) ∧ conj n
  | .leaf e s, f, h, hok => by
    have key : endA P rv rs s = some f → ∃ n, endA P rv rs s = some (Fr.needL n (.val f.get)) ∧ conj n := fun h => by
      have h0 := h
      unfold endA at h
      split at h <;> try (cases h; done)
      split at h <;> try (cases h; done)
      split at h <;> try (cases h; done)
      rename_i y _
      simp only [Option.some.injEq] at h
      subst h
      refine ⟨_, ?_, (needL_ok _ hok).1⟩
      rw [needL_get]
      exact h0
    cases e with
    | exit i => simp [frOf] at h
    | panic i => simp [frOf] at h
    | val i => simp [frOf] at h
    | jump i => simp [frOf] at h
    | normal => exact ⟨.inr rfl, key h⟩
    | ret => exact ⟨.inl rfl, key h⟩
  | .br b x y, f, h, hok => by
    simp only [frOf] at h
    split at h <;> try (cases h; done)
    rename_i x' y' hx hy
    simp only [Option.some.injEq] at h
    subst h
    refine ⟨fun hb => ?_, fun hb => ?_⟩
    · have := fr_sat hx (hok.1 hb)
      simpa only [Fr.get, hb, if_true] using this
    · have := fr_sat hy (hok.2 hb)
      simpa only [Fr.get, hb, Bool.false_eq_true, if_false] using this
  | .need p x, f, h, hok => by
    simp only [frOf] at h
    split at h <;> try (cases h; done)
    rename_i x' hx
    simp only [Option.some.injEq] at h
    subst h
    have := fr_sat hx hok.2
    exact ⟨hok.1, this⟩
  | .two p x y, f, h, hok => by
    simp only [frOf] at h
    split at h <;> try (cases h; done)
    rename_i x' y' hx hy
    simp only [Option.some.injEq] at h
    subst h
    have h2 := fr_sat hy hok.2
    refine ⟨fun hp => ?_, h2⟩
    have := fr_sat hx (hok.1 hp).1
    rwa [(hok.1 hp).2] at this

theorem res_run {s : St} {a : Act} (hi : InvG P E s a w [] F γ) : {rv : List ResultVar} → {vs : List AV} → {n : List Prop} → resAs P s rv = some (vs, n) → conj n → ∃ us, ranAll P a.tmps w rv us ∧ Reps P w F (refOK s.mem γ) vs us
  | [], vs, n, h, hn => by
    simp only [resAs, Option.some.injEq, Prod.mk.injEq] at h
    obtain ⟨rfl, rfl⟩ := h
    exact ⟨[], trivial, trivial⟩
  | r :: rv, vs, n, h, hn => by
    simp only [resAs] at h
    split at h <;> try (cases h; done)
    rename_i v n1 vs' n2 h1 h2
    simp only [Option.some.injEq, Prod.mk.injEq] at h
    obtain ⟨rfl, rfl⟩ := h
    obtain ⟨us, h3, h4⟩ := res_run hi h2 (conj_append.1 hn).2
    have hn1 := (conj_append.1 hn).1
    cases r with
    | tmp t =>
      simp only [resA, Option.some.injEq, Prod.mk.injEq] at h1
      obtain ⟨rfl, _⟩ := h1
      exact ⟨a.tmps.getD t undef :: us, ⟨by simp [resOne], h3⟩, inv_rep hi t, h4⟩
    | cell ad t =>
      simp only [resA] at h1
      split at h1 <;> try (cases h1; done)
      rename_i id off hs
      split at h1 <;> try (cases h1; done)
      rename_i e he
      simp only [Option.some.injEq, Prod.mk.injEq] at h1
      obtain ⟨rfl, rfl⟩ := h1
      have hr := inv_rep hi ad
      rw [hs] at hr
      obtain ⟨_, u, hu, hru⟩ := load_sound hi.mem (fun _ _ h => h) he hn1 hr
      obtain ⟨_, b, _, hv⟩ := hr
      refine ⟨u :: us, ⟨?_, h3⟩, hru, h4⟩
      have hv' : a.tmps.getD ad undef = .pointer (some ⟨b, off, none⟩) := hv
      rw [hv'] at hu
      show (do loadVar t (← asAddr (a.tmps.getD ad undef)) : Sem Value).run P w = _
      rw [hv']
      exact hu

theorem needL_inj {α : Type} {x y : α} : {ns ms : List Prop} → Fr.needL ns (.val x) = Fr.needL ms (.val y) → conj ms → conj ns ∧ x = y
  | [], [], h, _ => by
    have h' : Fr.val x = Fr.val y := h
    injection h' with h'
    exact ⟨trivial, h'⟩
  | [], _ :: _, h, _ => nomatch (show Fr.val x = Fr.need _ _ from h)
  | _ :: _, [], h, _ => nomatch (show Fr.need _ _ = Fr.val y from h)
  | p :: ns, q :: ms, h, hm => by
    have h' : Fr.need p (Fr.needL ns (.val x)) = Fr.need q (Fr.needL ms (.val y)) := h
    injection h' with h1 h2
    subst h1
    obtain ⟨a, b⟩ := conj_cons.1 hm
    obtain ⟨c, d⟩ := needL_inj h2 b
    exact ⟨conj_cons.2 ⟨a, c⟩, d⟩

/-- A function answers as its code does. -/
theorem fun_sound {C : Cx} (hC : CxOK P C) {Λ : Nat → St → Option Tr} {f : FuncId} {fn : Func} {c : Code} {ps : List PT} {rs : List Ty} {fr : denP ps → Fr (denL rs)}
    (hf : P.funcs[f]? = some fn) (hb : fn.body = some c) (hc : ∀ args w, (callFunc f args).run P w = .ok (.enter f args) w) (hn : ps.length ≤ fn.ntmps) (hΛ : ∀ E, LamOK P E Λ c 0)
    (hrun : ∀ xs, runF P C Λ c fn.ntmps fn.results.toList ps rs xs = some (fr xs)) : SoundCt P f ⟨ps, rs, fun xs => (fr xs).get, fun xs => [(fr xs).ok]⟩ := by
  refine ⟨hc, fun w F xs vs hbd hr hok => calls_of_wp hf hb ?_⟩
  have hr' := hrun xs
  unfold runF at hr'
  split at hr' <;> try (cases hr'; done)
  rename_i t ht
  have hlen : vs.length = ps.length := by
    have : ∀ {ps : List PT} {xs : denP ps} {vs : List Value}, RepPs P w F ps xs vs → vs.length = ps.length := by
      intro ps
      induction ps with
      | nil => intro xs vs h; cases h; rfl
      | cons p r ih =>
        intro xs vs h
        obtain ⟨v, vs', rfl, _, h3⟩ := h
        simp [ih h3]
    exact this hr
  have hstart := start_inv (D := []) (n := fn.ntmps) hbd (fun R => encPs_rep (R := R) hr) (by omega)
  have hwp := codeA_sound hC c 0 (hΛ _) ht (fr_sat hr' hok) hstart
  have hsz : (vs.toArray).size = vs.length := by simp
  rw [hsz]
  refine wp_mono hwp ?_
  rintro e a' w' ⟨xe, s, rfl, ⟨F', γ', hi⟩, hxe, n, hend, hnn⟩
  have hfin : a'.defers = [] ∧ ∃ v, (results fn a'.tmps).run P w' = .ok v w' ∧ Post w F rs (fr xs).get (.returned v) w' := by
    unfold endA at hend
    split at hend <;> try (cases hend; done)
    rename_i avs n' hres
    split at hend <;> try (cases hend; done)
    rename_i axs u hrs
    split at hend <;> try (cases hend; done)
    rename_i y hdec
    simp only [Option.some.injEq] at hend
    obtain ⟨hn', hy⟩ := needL_inj hend hnn
    subst hy
    obtain ⟨us, hran, hreps⟩ := res_run hi hres hn'
    obtain ⟨F'', hs, hm', _, hxs⟩ := rsAs_sound hi.mem (inv_bd hi) (SubM.of fun _ _ h => h) hrs hreps
    obtain ⟨γ0, h0⟩ := hi.step
    have hst := h0.trans hs
    refine ⟨hi.df, _, results_run hran, _, F'', rfl, ⟨hst.os, hst.tape, hst.output, hst.size, hst.old⟩, hst.hF, fun b hb => ⟨hst.new b hb, hst.bd b hb⟩, repR_of (decVs_rep hdec hxs)⟩
  rcases hxe with rfl | rfl
  · exact hfin
  · exact hfin

theorem conv {f : FuncId} {ct : Ct} (h : SoundCt P f ct) (g : denP ct.ps → denL ct.rs) (ok : denP ct.ps → List Prop) (hg : ∀ w F xs vs, RepPs P w F ct.ps xs vs → conj (ok xs) → conj (ct.ok xs) ∧ ct.f xs = g xs) : SoundCt P f ⟨ct.ps, ct.rs, g, ok⟩ := by
  refine ⟨h.1, fun w F xs vs hb hr hok => ?_⟩
  obtain ⟨h1, h2⟩ := hg w F xs vs hr hok
  have := h.2 w F xs vs hb hr h1
  rw [h2] at this
  exact this

theorem enters {f : FuncId} {fn : Func} {c : Code} (hf : P.funcs[f]? = some fn) (hb : fn.body = some c) (hn : (fn.name == "runtime.NumGoroutine") = false) (args : Array Value) (w : World) : (callFunc f args).run P w = .ok (.enter f args) w := by
  have hn' : ¬ fn.name = "runtime.NumGoroutine" := by simpa using hn
  simp [callFunc, hf, hb, hn']

/-- A function as the program has it. -/
def runFn (P : Program) (C : Cx) (Λ : Nat → St → Option Tr) (fn : Func) (ps : List PT) (rs : List Ty) (xs : denP ps) : Option (Fr (denL rs)) :=
  match fn.body with
  | some c => if (fn.name == "runtime.NumGoroutine") = false ∧ ps.length ≤ fn.ntmps then runF P C Λ c fn.ntmps fn.results.toList ps rs xs else none
  | none => none

theorem fn_sound {C : Cx} (hC : CxOK P C) {Λ : Nat → St → Option Tr} {f : FuncId} {fn : Func} {ps : List PT} {rs : List Ty} {fr : denP ps → Fr (denL rs)} (x0 : denP ps)
    (hf : P.funcs[f]? = some fn) (hΛ : ∀ c E, fn.body = some c → LamOK P E Λ c 0) (hrun : ∀ xs, runFn P C Λ fn ps rs xs = some (fr xs)) : SoundCt P f ⟨ps, rs, fun xs => (fr xs).get, fun xs => [(fr xs).ok]⟩ := by
  have h0 := hrun x0
  unfold runFn at h0
  split at h0 <;> try (cases h0; done)
  rename_i c hb
  split at h0 <;> try (cases h0; done)
  rename_i hc
  refine fun_sound hC hf hb (enters hf hb hc.1) hc.2 (fun E => hΛ c E hb) fun xs => ?_
  have := hrun xs
  unfold runFn at this
  simp only [hb, hc, and_self, if_true] at this
  exact this

theorem startK {s : St} {a : Act} {n : Nat} {xs : List AV} {vs : List Value} (hi : InvG P E s a w [] F γ) (h : Reps P w F (refOK s.mem γ) xs vs) (hn : vs.length ≤ n) :
    I P ⟨E.w0, E.F0, tmA a E, [], E.B, E.hB⟩ ⟨n, fun i => xs.getD i .dead, s.mem, s.at⟩ { tmps := vs.toArray ++ Array.replicate (n - vs.length) undef, defers := [] } w := by
  refine ⟨F, γ, ?_, rfl, hi.step, hi.mem, fun t => ?_, fun t g want v ht => ?_, fun t => inv_at hi t⟩
  · show _ = n
    simp
    omega
  · have hg : (vs.toArray ++ Array.replicate (n - vs.length) undef).getD t undef = vs.getD t undef := by
      simp only [Array.getD_eq_getD_getElem?, List.getD_eq_getElem?_getD]
      rcases Nat.lt_or_ge t vs.length with hlt | hge
      · rw [Array.getElem?_append_left (by simpa using hlt)]
        simp
      · rw [Array.getElem?_append_right (by simpa using hge), List.getElem?_eq_none hge]
        simp only [Array.getElem?_replicate]
        split <;> rfl
    show SlotOK P w F _ _ (xs.getD t .dead) ((vs.toArray ++ Array.replicate (n - vs.length) undef).getD t undef)
    rw [hg]
    exact repA_slot (reps_get h t)
  · exfalso
    have := reps_get h t
    have ht' : xs.getD t .dead = .maybe g want v := ht
    rw [ht'] at this
    exact this

/-- Back from a body that was carried out in place. -/
theorem inv_back {s s' : St} {a a' : Act} {w' : World} (hi : InvG P E s a w [] F γ) (h : InvG P ⟨E.w0, E.F0, tmA a E, [], E.B, E.hB⟩ s' a' w' [] F' γ') : InvG P E (s'.back s.n) a w' [] F' γ' := by
  refine ⟨hi.n, hi.df, h.step, h.mem, fun t => ?_, fun t g want v ht => ?_, fun t => ?_⟩
  · show SlotOK P w' F' _ _ (if t < 10000 then s'.gs t else .dead) _
    split
    · rename_i ht
      have := h.gh t
      have he : tmA a E t = a.tmps.getD t undef := by unfold tmA; rw [if_pos ht]
      have h2 : RepA P w' F' (refOK s'.mem γ') (s'.gs t) (tmA a E t) := this
      rw [he] at h2
      exact repA_slot h2
    · trivial
  · exfalso
    have ht' : (if t < 10000 then s'.gs t else .dead) = .maybe g want v := ht
    split at ht'
    · have := h.gh t
      rw [ht'] at this
      exact this
    · cases ht'
  · have hk : ∀ k, RepA P w' F' (refOK s'.mem γ') (s'.gs k) (tmA a E k) := fun k => h.gh k
    have hall : ∀ k, k = t + 10000 → RepA P w' F' (refOK s'.mem γ') (s'.gs k) (E.G t) := fun k hkt => by
      have h2 := hk k
      unfold tmA at h2
      rw [if_neg (by omega)] at h2
      have he : k - 10000 = t := by omega
      rw [he] at h2
      exact h2
    exact hall _ rfl

theorem resV_rep : {xs : List AV} → {vs : List Value} → Reps P w F R xs vs → RepA P w F R (resV xs) (resVal vs)
  | [], [], _ => ⟨#[], rfl, rfl, trivial⟩
  | [_], [_], h => h.1
  | x :: y :: r, v :: u :: s, h => by
    refine ⟨_, rfl, ?_, ?_⟩
    · have : ∀ {xs : List AV} {vs : List Value}, Reps P w F R xs vs → vs.length = xs.length := fun h => h.length
      simpa using this h
    · have : ∀ (xs : List AV) (vs : List Value), Reps P w F R xs vs → RepAL P w F R xs (fun j u => vs[j]? = some u) := by
        intro xs
        induction xs with
        | nil => intros; trivial
        | cons x xs ih =>
          intro vs h
          cases vs with
          | nil => exact h.elim
          | cons v vs => exact ⟨⟨v, rfl, h.1⟩, by simpa using ih vs h.2⟩
      simpa using this _ _ h
  | [], _ :: _, h => h.elim
  | _ :: _, [], h => h.elim
  | [_], _ :: _ :: _, h => h.2.elim
  | _ :: _ :: _, [_], h => h.2.elim

theorem endK_sat {rv : List ResultVar} {n : Nat} {Q : XE → St → Prop} : {t t' : Tr} → endK P rv n t = some t' → t'.sat Q → t.sat fun e s => match e with
    | .panic p => Q (.panic p) (s.back n)
    | .ret => ∃ vs ns, resAs P s rv = some (vs, ns) ∧ conj ns ∧ Q (.val (resV vs)) (s.back n)
    | .normal => ∃ vs ns, resAs P s rv = some (vs, ns) ∧ conj ns ∧ Q (.val (resV vs)) (s.back n)
    | _ => False
  | .leaf e s, t', h, hq => by
    cases e with
    | panic p =>
      simp only [endK, Option.some.injEq] at h
      subst h
      exact hq
    | ret =>
      simp only [endK] at h
      split at h <;> try (cases h; done)
      rename_i vs ns hr
      simp only [Option.some.injEq] at h
      subst h
      obtain ⟨h1, h2⟩ := needL_sat _ hq
      exact ⟨vs, ns, hr, h1, h2⟩
    | normal =>
      simp only [endK] at h
      split at h <;> try (cases h; done)
      rename_i vs ns hr
      simp only [Option.some.injEq] at h
      subst h
      obtain ⟨h1, h2⟩ := needL_sat _ hq
      exact ⟨vs, ns, hr, h1, h2⟩
    | exit _ => simp [endK] at h
    | val _ => simp [endK] at h
    | jump _ => simp [endK] at h
  | .br b x y, t', h, hq => by
    simp only [endK] at h
    split at h <;> try (cases h; done)
    rename_i x' y' hx hy
    simp only [Option.some.injEq] at h
    subst h
    exact ⟨fun hb => endK_sat hx (hq.1 hb), fun hb => endK_sat hy (hq.2 hb)⟩
  | .need p x, t', h, hq => by
    simp only [endK] at h
    split at h <;> try (cases h; done)
    rename_i x' hx
    simp only [Option.some.injEq] at h
    subst h
    exact ⟨hq.1, endK_sat hx hq.2⟩
  | .two p x y, t', h, hq => by
    simp only [endK] at h
    split at h <;> try (cases h; done)
    rename_i x' y' hx hy
    simp only [Option.some.injEq] at h
    subst h
    exact ⟨fun hb => endK_sat hx (hq.1 hb), endK_sat hy hq.2⟩

/-- Bodies that are carried out where they are called. -/
theorem inlK_ok {C : Cx} (hC : CxOK P C) {Xi : FuncId → Option (Func × (Nat → St → Option Tr))} (hX : ∀ f fn Λ, Xi f = some (fn, Λ) → P.funcs[f]? = some fn ∧ ∀ c E, fn.body = some c → LamOK P E Λ c 0) : InlOK P (inlK P C Xi) := by
  intro d f args s t h
  unfold inlK at h
  split at h <;> try (cases h; done)
  rename_i fn Λ hxi
  split at h <;> try (cases h; done)
  rename_i c hbody
  split at h <;> try (cases h; done)
  rename_i hc
  split at h <;> try (cases h; done)
  rename_i t1 ht1
  obtain ⟨hf, hΛ⟩ := hX f fn Λ hxi
  refine ⟨enters hf hbody hc.2, fun E a w F γ vs Q hi hr hq => calls_of_wp hf hbody ?_⟩
  have hlen : vs.length = args.length := hr.length
  have hstart := startK (n := fn.ntmps) hi hr (by omega)
  have hsat := endK_sat h hq
  have hwp := codeA_sound hC c 0 (hΛ c _ hbody) ht1 hsat hstart
  have hsz : (vs.toArray).size = vs.length := by simp
  rw [hsz]
  refine wp_mono hwp ?_
  rintro e a' w' ⟨xe, s', rfl, ⟨F', γ', hi'⟩, hx⟩
  have hfin : (∃ vs ns, resAs P s' fn.results.toList = some (vs, ns) ∧ conj ns ∧ Q (.val (resV vs)) (s'.back s.n)) → a'.defers = [] ∧ ∃ v, (results fn a'.tmps).run P w' = .ok v w' ∧ EndK P E a Q (.returned v) w' := by
    rintro ⟨vs, ns, hres, hns, hqv⟩
    obtain ⟨us, hran, hreps⟩ := res_run hi' hres hns
    exact ⟨hi'.df, _, results_run hran, _, _, F', γ', hqv, inv_back hi hi', _, rfl, resV_rep hreps⟩
  cases xe with
  | panic p => exact ⟨hi'.df, .panic p, _, F', γ', hx, inv_back hi hi', rfl⟩
  | ret => exact hfin hx
  | normal => exact hfin hx
  | exit _ => exact hx.elim
  | val _ => exact hx.elim
  | jump _ => exact hx.elim

end
end Go.Ab

/-
  A loop: its round as plain data, and what it comes to.
-/
namespace Go.Ab
open Go Go.RowKit

theorem least {p : Nat → Prop} (h : ∃ n, p n) : ∃ n, p n ∧ ∀ m, p m → n ≤ m := by
  obtain ⟨n, hn⟩ := h
  induction n using Nat.strongRecOn with
  | _ n ih =>
    by_cases hm : ∃ m, m < n ∧ p m
    · obtain ⟨m, h1, h2⟩ := hm
      exact ih m h1 h2
    · refine ⟨n, hn, fun m hm' => ?_⟩
      rcases Nat.lt_or_ge m n with h | h
      · exact absurd ⟨m, h, hm'⟩ hm
      · exact h

/-- The least number of a family at which it holds. -/
noncomputable def leastOf (p : Nat → Prop) : Nat := open Classical in if h : ∃ n, p n then (least h).choose else 0

theorem leastOf_spec {p : Nat → Prop} (h : ∃ n, p n) : p (leastOf p) ∧ ∀ m, p m → leastOf p ≤ m := by
  unfold leastOf
  rw [dif_pos h]
  exact (least h).choose_spec

theorem wp_loop_by {P : Program} {c : Code} {Q : Exit → Act → World → Prop} {a : Act} {w : World} (J : Nat → Act → World → Prop) (h0 : ∃ m, J m a w)
    (round : ∀ m a w, J m a w → c.wp P (Exit.then (fun a' w' => ∃ m', m' < m ∧ J m' a' w') Q) a w) : (Code.loop c).wp P Q a w := by
  refine wp_loop (fun a w => ∃ m, J m a w) (fun a w => leastOf fun m => J m a w) h0 fun a w h => ?_
  obtain ⟨h1, h2⟩ := leastOf_spec (p := fun m => J m a w) h
  refine wp_mono (round _ a w h1) fun e a' w' he => ?_
  cases e with
  | normal =>
    obtain ⟨m', h3, h4⟩ := he
    exact ⟨⟨m', h4⟩, Nat.lt_of_le_of_lt ((leastOf_spec (p := fun m => J m a' w') ⟨m', h4⟩).2 m' h4) h3⟩
  | _ => exact he

/-- What holds at a tree's ends. -/
def Fr.satP {α : Type} (Q : α → Prop) : Fr α → Prop
  | .val x => Q x
  | .br b x y => (b = true → x.satP Q) ∧ (b = false → y.satP Q)
  | .need p x => p ∧ x.satP Q

theorem Fr.satP_of {α : Type} {Q : α → Prop} : {f : Fr α} → f.ok → Q f.get → f.satP Q
  | .val _, _, h => h
  | .br b x y, h, hq => by
    refine ⟨fun hb => Fr.satP_of (h.1 hb) ?_, fun hb => Fr.satP_of (h.2 hb) ?_⟩
    · simpa only [Fr.get, hb, if_true] using hq
    · simpa only [Fr.get, hb, Bool.false_eq_true, if_false] using hq
  | .need p x, h, hq => ⟨h.1, Fr.satP_of h.2 hq⟩

theorem Fr.satP_get {α : Type} {Q : α → Prop} : {f : Fr α} → f.satP Q → f.ok ∧ Q f.get
  | .val _, h => ⟨trivial, h⟩
  | .br b x y, h => by
    cases b with
    | true =>
      have := Fr.satP_get (h.1 rfl)
      exact ⟨⟨fun _ => this.1, fun hb => by cases hb⟩, this.2⟩
    | false =>
      have := Fr.satP_get (h.2 rfl)
      exact ⟨⟨fun hb => (by cases hb), fun _ => this.1⟩, this.2⟩
  | .need p x, h => ⟨⟨h.1, (Fr.satP_get h.2).1⟩, (Fr.satP_get h.2).2⟩

theorem Fr.needL_satP {α : Type} {Q : α → Prop} {x : Fr α} : {ns : List Prop} → (Fr.needL ns x).satP Q → conj ns ∧ x.satP Q
  | [], h => ⟨trivial, h⟩
  | p :: ns, h => by
    have h' : p ∧ (Fr.needL ns x).satP Q := h
    obtain ⟨h1, h2⟩ := Fr.needL_satP h'.2
    exact ⟨conj_cons.2 ⟨h'.1, h1⟩, h2⟩

/-- How a round ends: another, out of the loop, or back from the function. -/
inductive Rd (X Y Z : Type) where
  | next (x : X)
  | out (y : Y)
  | back (z : Z)
  | pan (p : PV)

/-- A loop's forms: at its head, behind it, at a return inside. -/
structure Lp where
  n : Nat
  id : Nat
  L : LS
  E : LS
  R : LS

abbrev Lp.In (l : Lp) : Type := l.L.X
abbrev Lp.Out (l : Lp) : Type := Rd Unit l.E.X l.R.X
abbrev Lp.Round (l : Lp) : Type := Rd l.L.X l.E.X l.R.X

def Lp.rdOf (Γ : FuncId → Option Ct) (l : Lp) : Tr → Option (Fr l.Round)
  | .leaf .normal s => if s.n = l.n then match l.L.ext Γ s with
      | some (x, n) => some (Fr.needL n (.val (.next x)))
      | none => none
    else none
  | .leaf (.exit i) s => if i = l.id ∧ s.n = l.n then match l.E.ext Γ s with
      | some (x, n) => some (Fr.needL n (.val (.out x)))
      | none => none
    else none
  | .leaf .ret s => if s.n = l.n then match l.R.ext Γ s with
      | some (x, n) => some (Fr.needL n (.val (.back x)))
      | none => none
    else none
  | .leaf (.panic p) s => if s.n = l.n then some (.val (.pan p)) else none
  | .leaf (.val _) _ => none
  | .leaf (.jump _) _ => none
  | .br b x y => match l.rdOf Γ x, l.rdOf Γ y with
    | some x', some y' => some (.br b x' y')
    | _, _ => none
  | .need p x => match l.rdOf Γ x with
    | some x' => some (.need p x')
    | none => none
  | .two p x y => match l.rdOf Γ x, l.rdOf Γ y with
    | some x', some y' => some (.need (p → x'.ok ∧ x'.get = y'.get) y')
    | _, _ => none

/-- One round from the head's form. -/
def Lp.round (P : Program) (C : Cx) (bs : Nat) (Λ : Nat → St → Option Tr) (c : Code) (l : Lp) (x : l.In) : Option (Fr l.Round) :=
  match codeA P C bs Λ c 0 (l.L.tpl l.n x) with
  | some t => l.rdOf C.Γ t
  | none => none

def Lp.toTr (l : Lp) : Fr l.Out → Tr
  | .val (.next _) => .need False (.leaf .ret ⟨0, fun _ => .dead, fun _ => none, fun _ => .dead⟩)
  | .val (.out y) => .leaf (.exit l.id) (l.E.tpl l.n y)
  | .val (.back z) => .leaf .ret (l.R.tpl l.n z)
  | .val (.pan p) => .leaf (.panic p) ⟨l.n, fun _ => .dead, fun _ => none, fun _ => .dead⟩
  | .br b x y => .br b (l.toTr x) (l.toTr y)
  | .need p x => .need p (l.toTr x)

/-- What the loop comes to, where the state at its head fits the form. -/
def Lp.han (Γ : FuncId → Option Ct) (l : Lp) (F : l.In → Fr l.Out) (s : St) : Option Tr :=
  if s.n = l.n then match l.L.ext Γ s with
    | some (x, n) => some (needL n (l.toTr (F x)))
    | none => none
  else none

/-- The loop's law: one round, and what is to come. -/
def Lp.Law (l : Lp) (r : l.In → Fr l.Round) (F : l.In → Fr l.Out) (N : l.In → Prop) (μ : l.In → Nat) : Prop :=
  ∀ x, N x → ∀ Q : l.Out → Prop, (F x).satP Q → (r x).satP fun
    | .next x' => N x' ∧ μ x' < μ x ∧ (F x').satP Q
    | .out y => Q (.out y)
    | .back z => Q (.back z)
    | .pan p => Q (.pan p)

section
variable {P : Program} {B : Nat} {w w' : World} {E : Env} {bs : Nat} {Γ : FuncId → Option Ct}

theorem Lp.toTr_sat (l : Lp) {Q : XE → St → Prop} : {f : Fr l.Out} → (l.toTr f).sat Q → f.satP fun
    | .next _ => False
    | .out y => Q (.exit l.id) (l.E.tpl l.n y)
    | .back z => Q .ret (l.R.tpl l.n z)
    | .pan p => Q (.panic p) ⟨l.n, fun _ => .dead, fun _ => none, fun _ => .dead⟩
  | .val (.next _), h => h.1
  | .val (.out _y), h => h
  | .val (.back _z), h => h
  | .val (.pan _), h => h
  | .br _b _x _y, h => ⟨fun hb => l.toTr_sat (h.1 hb), fun hb => l.toTr_sat (h.2 hb)⟩
  | .need _p _x, h => ⟨h.1, l.toTr_sat h.2⟩

theorem Lp.rd_sat (l : Lp) {Q : l.Round → Prop} : {t : Tr} → {f : Fr l.Round} → l.rdOf Γ t = some f → f.satP Q → t.sat fun e s => match e with
    | .normal => s.n = l.n ∧ ∃ x n, l.L.ext Γ s = some (x, n) ∧ conj n ∧ Q (.next x)
    | .exit i => i = l.id ∧ s.n = l.n ∧ ∃ x n, l.E.ext Γ s = some (x, n) ∧ conj n ∧ Q (.out x)
    | .ret => s.n = l.n ∧ ∃ x n, l.R.ext Γ s = some (x, n) ∧ conj n ∧ Q (.back x)
    | .panic p => s.n = l.n ∧ Q (.pan p)
    | .val _ => False
    | .jump _ => False
  | .leaf .normal s, f, h, hq => by
    simp only [Lp.rdOf] at h
    split at h <;> try (cases h; done)
    rename_i hn
    split at h <;> try (cases h; done)
    rename_i x n hx
    simp only [Option.some.injEq] at h
    subst h
    obtain ⟨h1, h2⟩ := Fr.needL_satP hq
    exact ⟨hn, x, n, hx, h1, h2⟩
  | .leaf (.exit i) s, f, h, hq => by
    simp only [Lp.rdOf] at h
    split at h <;> try (cases h; done)
    rename_i hn
    split at h <;> try (cases h; done)
    rename_i x n hx
    simp only [Option.some.injEq] at h
    subst h
    obtain ⟨h1, h2⟩ := Fr.needL_satP hq
    exact ⟨hn.1, hn.2, x, n, hx, h1, h2⟩
  | .leaf .ret s, f, h, hq => by
    simp only [Lp.rdOf] at h
    split at h <;> try (cases h; done)
    rename_i hn
    split at h <;> try (cases h; done)
    rename_i x n hx
    simp only [Option.some.injEq] at h
    subst h
    obtain ⟨h1, h2⟩ := Fr.needL_satP hq
    exact ⟨hn, x, n, hx, h1, h2⟩
  | .leaf (.panic p) s, f, h, hq => by
    simp only [Lp.rdOf] at h
    split at h <;> try (cases h; done)
    rename_i hn
    simp only [Option.some.injEq] at h
    subst h
    exact ⟨hn, hq⟩
  | .leaf (.val _) s, f, h, hq => by simp [Lp.rdOf] at h
  | .leaf (.jump _) s, f, h, hq => by simp [Lp.rdOf] at h
  | .br b x y, f, h, hq => by
    simp only [Lp.rdOf] at h
    split at h <;> try (cases h; done)
    rename_i x' y' hx hy
    simp only [Option.some.injEq] at h
    subst h
    exact ⟨fun hb => l.rd_sat hx (hq.1 hb), fun hb => l.rd_sat hy (hq.2 hb)⟩
  | .need p x, f, h, hq => by
    simp only [Lp.rdOf] at h
    split at h <;> try (cases h; done)
    rename_i x' hx
    simp only [Option.some.injEq] at h
    subst h
    have := l.rd_sat hx hq.2
    exact ⟨hq.1, this⟩
  | .two p x y, f, h, hq => by
    simp only [Lp.rdOf] at h
    split at h <;> try (cases h; done)
    rename_i x' y' hx hy
    simp only [Option.some.injEq] at h
    subst h
    refine ⟨fun hp => l.rd_sat hx (Fr.satP_of (hq.1 hp).1 ?_), l.rd_sat hy hq.2⟩
    rw [(hq.1 hp).2]
    exact (Fr.satP_get hq.2).2

theorem Lp.sound {C : Cx} (hC : CxOK P C) (l : Lp) (hL : l.L.low = true) (hE : l.E.low = true) (hR : l.R.low = true) {Λ : Nat → St → Option Tr} {c : Code} (hΛ : LamOK P E Λ c 0)
    {r : l.In → Fr l.Round} (hr : ∀ x, l.round P C bs Λ c x = some (r x)) {F : l.In → Fr l.Out} {N : l.In → Prop} {μ : l.In → Nat} (hlaw : l.Law r F N μ) (hN : ∀ x, N x ∨ ∀ Q, ¬ (F x).satP Q) : LoopOK P E c (l.han C.Γ F) := by
  intro s t hs Q hq a w hi
  unfold Lp.han at hs
  split at hs <;> try (cases hs; done)
  rename_i hsn
  split at hs <;> try (cases hs; done)
  rename_i x n hx
  simp only [Option.some.injEq] at hs
  subst hs
  obtain ⟨hq1, hq2⟩ := needL_sat _ hq
  have hi' := ext_sound hC.ct hL hi hx hq1
  rw [hsn] at hi'
  have hF := l.toTr_sat hq2
  generalize hQ' : (fun (o : l.Out) => match o with
    | .next _ => False
    | .out y => Q (.exit l.id) (l.E.tpl l.n y)
    | .back z => Q .ret (l.R.tpl l.n z)
    | .pan p => Q (.panic p) ⟨l.n, fun _ => .dead, fun _ => none, fun _ => .dead⟩) = Q' at hF
  refine wp_loop_by (fun m a w => ∃ x, N x ∧ μ x = m ∧ I P E (l.L.tpl l.n x) a w ∧ (F x).satP Q') ⟨μ x, x, (hN x).resolve_right (fun h => h _ hF), rfl, hi', hF⟩ ?_
  rintro m a w ⟨x, hNx, rfl, hix, hFx⟩
  have hlx := hlaw x hNx Q' hFx
  have hrx := hr x
  unfold Lp.round at hrx
  split at hrx <;> try (cases hrx; done)
  rename_i t ht
  have hsat := l.rd_sat hrx hlx
  refine wp_mono (codeA_sound hC c 0 hΛ ht hsat hix) ?_
  rintro e a' w' ⟨xe, s', rfl, his, hqs⟩
  cases xe with
  | normal =>
    obtain ⟨hn', x', n', hx', hn, hNx', hlt, hFx'⟩ := hqs
    have := ext_sound hC.ct hL his hx' hn
    rw [hn'] at this
    exact ⟨μ x', hlt, x', hNx', rfl, this, hFx'⟩
  | exit i =>
    obtain ⟨rfl, hn', y, n', hy, hn, hqy⟩ := hqs
    have := ext_sound hC.ct hE his hy hn
    rw [hn'] at this
    subst hQ'
    exact ⟨.exit l.id, _, rfl, this, hqy⟩
  | ret =>
    obtain ⟨hn', y, n', hy, hn, hqy⟩ := hqs
    have := ext_sound hC.ct hR his hy hn
    rw [hn'] at this
    subst hQ'
    exact ⟨.ret, _, rfl, this, hqy⟩
  | panic p =>
    obtain ⟨hn', hqp⟩ := hqs
    have := ext_sound hC.ct (L := ⟨[], []⟩) rfl his (x := ((), ())) (n := []) rfl trivial
    rw [hn'] at this
    subst hQ'
    refine ⟨.panic p, _, rfl, ?_, hqp⟩
    obtain ⟨F, γ, h⟩ := this
    exact ⟨F, γ, h.n, h.df, h.step, h.mem, fun t => trivial, fun t g want v ht => (nomatch ht), fun t => trivial⟩
  | val _ => exact hqs.elim
  | jump _ => exact hqs.elim

end
end Go.Ab

/-
  Functions that may panic.
-/
namespace Go.Ab
open Go Go.RowKit

/-- A value, or a panic. -/
inductive Oc (α : Type) where
  | ok (x : α)
  | pan (p : PV)

def dfltL : (ts : List Ty) → denL ts
  | [] => ()
  | t :: r => (t.dflt, dfltL r)

def Oc.bad {α : Type} : Oc α → Bool
  | .ok _ => false
  | .pan _ => true

def Oc.pv {α : Type} : Oc α → PV
  | .ok _ => ⟨0, .i64, 0⟩
  | .pan p => p

def Oc.val {ts : List Ty} : Oc (denL ts) → denL ts
  | .ok x => x
  | .pan _ => dfltL ts

def endP (P : Program) (rv : List ResultVar) (rs : List Ty) (s : St) : Option (Fr (Oc (denL rs))) :=
  match resAs P s rv with
  | some (vs, n) => match rsAs s.mem vs with
    | some (xs, _) => match decVs rs xs with
      | some y => some (Fr.needL n (.val (.ok y)))
      | none => none
    | none => none
  | none => none

def frP (P : Program) (rv : List ResultVar) (rs : List Ty) : Tr → Option (Fr (Oc (denL rs)))
  | .leaf .ret s => endP P rv rs s
  | .leaf .normal s => endP P rv rs s
  | .leaf (.panic p) _ => some (.val (.pan p))
  | .leaf _ _ => none
  | .br b x y => match frP P rv rs x, frP P rv rs y with
    | some x', some y' => some (.br b x' y')
    | _, _ => none
  | .need p x => match frP P rv rs x with
    | some x' => some (.need p x')
    | none => none
  | .two p x y => match frP P rv rs x, frP P rv rs y with
    | some x', some y' => some (.need (p → x'.ok ∧ x'.get = y'.get) y')
    | _, _ => none

/-- A function that may panic, as the program has it. -/
def runFp (P : Program) (C : Cx) (Λ : Nat → St → Option Tr) (fn : Func) (ps : List PT) (rs : List Ty) (xs : denP ps) : Option (Fr (Oc (denL rs))) :=
  match fn.body with
  | some c => if (fn.name == "runtime.NumGoroutine") = false ∧ ps.length ≤ fn.ntmps then match codeA P C 0 Λ c 0 (startA fn.ntmps (encPs ps xs)) with
      | some t => frP P fn.results.toList rs t
      | none => none
    else none
  | none => none

section
variable {P : Program} {w w' : World} {E : Env} {F F' : Nat → Prop} {γ γ' : Nat → Value}

theorem frP_sat {rv : List ResultVar} {rs : List Ty} : {t : Tr} → {f : Fr (Oc (denL rs))} → frP P rv rs t = some f → f.ok → t.sat fun e s => match e with
    | .panic p => f.get = .pan p
    | .ret => ∃ vs n xs u y, resAs P s rv = some (vs, n) ∧ conj n ∧ rsAs s.mem vs = some (xs, u) ∧ decVs rs xs = some y ∧ f.get = .ok y
    | .normal => ∃ vs n xs u y, resAs P s rv = some (vs, n) ∧ conj n ∧ rsAs s.mem vs = some (xs, u) ∧ decVs rs xs = some y ∧ f.get = .ok y
    | _ => False
  | .leaf e s, f, h, hok => by
    have key : endP P rv rs s = some f → ∃ vs n xs u y, resAs P s rv = some (vs, n) ∧ conj n ∧ rsAs s.mem vs = some (xs, u) ∧ decVs rs xs = some y ∧ f.get = .ok y := fun h => by
      unfold endP at h
      split at h <;> try (cases h; done)
      rename_i vs n hr
      split at h <;> try (cases h; done)
      rename_i xs u hx
      split at h <;> try (cases h; done)
      rename_i y hy
      simp only [Option.some.injEq] at h
      subst h
      exact ⟨vs, n, xs, u, y, hr, (needL_ok _ hok).1, hx, hy, needL_get _⟩
    cases e with
    | exit i => simp [frP] at h
    | panic p =>
      simp only [frP, Option.some.injEq] at h
      subst h
      rfl
    | val v => simp [frP] at h
    | jump v => simp [frP] at h
    | normal => exact key h
    | ret => exact key h
  | .br b x y, f, h, hok => by
    simp only [frP] at h
    split at h <;> try (cases h; done)
    rename_i x' y' hx hy
    simp only [Option.some.injEq] at h
    subst h
    refine ⟨fun hb => ?_, fun hb => ?_⟩
    · have := frP_sat hx (hok.1 hb)
      simpa only [Fr.get, hb, if_true] using this
    · have := frP_sat hy (hok.2 hb)
      simpa only [Fr.get, hb, Bool.false_eq_true, if_false] using this
  | .need p x, f, h, hok => by
    simp only [frP] at h
    split at h <;> try (cases h; done)
    rename_i x' hx
    simp only [Option.some.injEq] at h
    subst h
    have := frP_sat hx hok.2
    exact ⟨hok.1, this⟩
  | .two p x y, f, h, hok => by
    simp only [frP] at h
    split at h <;> try (cases h; done)
    rename_i x' y' hx hy
    simp only [Option.some.injEq] at h
    subst h
    have h2 := frP_sat hy hok.2
    refine ⟨fun hp => ?_, h2⟩
    have := frP_sat hx (hok.1 hp).1
    rwa [(hok.1 hp).2] at this

theorem repPs_len : {ps : List PT} → {xs : denP ps} → {vs : List Value} → RepPs P w F ps xs vs → vs.length = ps.length
  | [], _, _, h => by cases h; rfl
  | _ :: _, _, _, ⟨_, _, h1, _, h3⟩ => by subst h1; simp [repPs_len h3]

/-- A function that may panic answers as its code does. -/
theorem fp_sound {C : Cx} (hC : CxOK P C) {Λ : Nat → St → Option Tr} {f : FuncId} {fn : Func} {ps : List PT} {rs : List Ty} {fr : denP ps → Fr (Oc (denL rs))} (x0 : denP ps)
    (hf : P.funcs[f]? = some fn) (hΛ : ∀ c E, fn.body = some c → LamOK P E Λ c 0) (hrun : ∀ xs, runFp P C Λ fn ps rs xs = some (fr xs)) :
    SoundPc P f ⟨ps, rs, fun xs => (fr xs).get.val, fun xs => (fr xs).get.bad, fun xs => (fr xs).get.pv, fun xs => [(fr xs).ok]⟩ := by
  have h0 := hrun x0
  unfold runFp at h0
  split at h0 <;> try (cases h0; done)
  rename_i c hb
  split at h0 <;> try (cases h0; done)
  rename_i hc
  refine ⟨enters hf hb hc.1, fun w F xs vs hbd hr hok => calls_of_wp hf hb ?_⟩
  have hr' := hrun xs
  unfold runFp at hr'
  simp only [hb, hc, and_self, if_true] at hr'
  split at hr' <;> try (cases hr'; done)
  rename_i t ht
  have hlen : vs.length = ps.length := repPs_len hr
  have hstart := start_inv (D := []) (n := fn.ntmps) hbd (fun R => encPs_rep (R := R) hr) (by omega)
  have hwp := codeA_sound hC c 0 (hΛ c _ hb) ht (frP_sat hr' hok) hstart
  have hsz : (vs.toArray).size = vs.length := by simp
  rw [hsz]
  refine wp_mono hwp ?_
  rintro e a' w' ⟨xe, s, rfl, ⟨F', γ', hi⟩, hx⟩
  obtain ⟨γ0, h0⟩ := hi.step
  have hfin : (∃ vs n xs' u y, resAs P s fn.results.toList = some (vs, n) ∧ conj n ∧ rsAs s.mem vs = some (xs', u) ∧ decVs rs xs' = some y ∧ (fr xs).get = .ok y) →
      a'.defers = [] ∧ ∃ v, (results fn a'.tmps).run P w' = .ok v w' ∧ (((fr xs).get.bad = false ∧ Post w F rs (fr xs).get.val (.returned v) w') ∨ ((fr xs).get.bad = true ∧ Ending.returned v = .panicked [{ v := (fr xs).get.pv.val, recovered := false }] ∧ Below w.heap.size w w')) := by
    rintro ⟨vs, n, xs', u, y, hres, hn, hrs, hdec, hget⟩
    obtain ⟨us, hran, hreps⟩ := res_run hi hres hn
    obtain ⟨F'', hs, hm', _, hxs⟩ := rsAs_sound hi.mem (inv_bd hi) (SubM.of fun _ _ h => h) hrs hreps
    have hst := h0.trans hs
    refine ⟨hi.df, _, results_run hran, .inl ⟨by rw [hget]; rfl, _, F'', rfl, ⟨hst.os, hst.tape, hst.output, hst.size, hst.old⟩, hst.hF, fun b hb => ⟨hst.new b hb, hst.bd b hb⟩, ?_⟩⟩
    rw [hget]
    exact repR_of (decVs_rep hdec hxs)
  cases xe with
  | normal => exact hfin hx
  | ret => exact hfin hx
  | panic p =>
    have hx' : (fr xs).get = .pan p := hx
    refine ⟨hi.df, .inr ⟨?_, ?_, ⟨h0.os, h0.tape, h0.output, h0.size, h0.old⟩⟩⟩
    · show (fr xs).get.bad = true
      rw [hx']
      rfl
    · show Ending.panicked _ = Ending.panicked [{ v := (fr xs).get.pv.val, recovered := false }]
      rw [hx']
      rfl
  | exit _ => exact hx.elim
  | val _ => exact hx.elim
  | jump _ => exact hx.elim

theorem convP {f : FuncId} {ct : Pc} (h : SoundPc P f ct) (g : denP ct.ps → denL ct.rs) (bad : denP ct.ps → Bool) (pv : denP ct.ps → PV) (ok : denP ct.ps → List Prop)
    (hg : ∀ w F xs vs, RepPs P w F ct.ps xs vs → conj (ok xs) → conj (ct.ok xs) ∧ ct.bad xs = bad xs ∧ (bad xs = false → ct.f xs = g xs) ∧ (bad xs = true → ct.pv xs = pv xs)) : SoundPc P f ⟨ct.ps, ct.rs, g, bad, pv, ok⟩ := by
  refine ⟨h.1, fun w F xs vs hb hr hok => ?_⟩
  obtain ⟨h1, h2, h3, h4⟩ := hg w F xs vs hr hok
  refine (h.2 w F xs vs hb hr h1).mono fun e w' he => ?_
  rcases he with ⟨b, hp⟩ | ⟨b, rfl, hbel⟩
  · have hb' : bad xs = false := h2 ▸ b
    refine .inl ⟨hb', ?_⟩
    show Post w F ct.rs (g xs) e w'
    rw [← h3 hb']
    exact hp
  · have hb' : bad xs = true := h2 ▸ b
    refine .inr ⟨hb', ?_, hbel⟩
    show Ending.panicked [{ v := (ct.pv xs).val, recovered := false }] = Ending.panicked [{ v := (pv xs).val, recovered := false }]
    rw [h4 hb']

end
end Go.Ab

/-
  Pieces of code, from form to form.
-/
namespace Go.Ab
open Go Go.RowKit

/-- Where a piece ends: its forms at its end, at a way out, at a return. -/
structure Pt where
  n : Nat
  id : Nat
  M : LS
  E : LS
  R : LS

def Pt.lp (p : Pt) : Lp := ⟨p.n, p.id, p.M, p.E, p.R⟩

abbrev Pt.Out (p : Pt) : Type := Rd p.M.X p.E.X p.R.X

/-- Behind a piece. -/
def AfterR (P : Program) (E : Env) (p : Pt) (Q : p.Out → Prop) (e : Exit) (a : Act) (w : World) : Prop :=
  ∃ r, Q r ∧ match r with
    | .next m => e = .normal ∧ I P E (p.M.tpl p.n m) a w
    | .out y => e = .exit p.id ∧ I P E (p.E.tpl p.n y) a w
    | .back z => e = .ret ∧ I P E (p.R.tpl p.n z) a w
    | .pan v => e = .panic [{ v := v.val, recovered := false }] ∧ ∃ s, s.n = p.n ∧ I P E s a w

/-- From the form on, the piece does what f says. -/
def Does (P : Program) (c : Code) (L : LS) (p : Pt) (f : L.X → Fr p.Out) : Prop :=
  ∀ (E : Env) (a : Act) (w : World) (x : L.X) (Q : p.Out → Prop), I P E (L.tpl p.n x) a w → (f x).satP Q → c.wp P (AfterR P E p Q) a w

def runPiece (P : Program) (C : Cx) (bs : Nat) (Λ : Nat → St → Option Tr) (c : Code) (L : LS) (p : Pt) (x : L.X) : Option (Fr p.Out) :=
  match codeA P C bs Λ c 0 (L.tpl p.n x) with
  | some t => p.lp.rdOf C.Γ t
  | none => none

def Fr.bindR {X Y Z W : Type} (k : X → Fr (Rd W Y Z)) : Fr (Rd X Y Z) → Fr (Rd W Y Z)
  | .val (.next m) => k m
  | .val (.out y) => .val (.out y)
  | .val (.back z) => .val (.back z)
  | .val (.pan p) => .val (.pan p)
  | .br b x y => .br b (x.bindR k) (y.bindR k)
  | .need p x => .need p (x.bindR k)

/-- Ways out of a block go on behind it. -/
def Fr.outR {Y Z W : Type} : Fr (Rd Y Y Z) → Fr (Rd Y W Z)
  | .val (.next m) => .val (.next m)
  | .val (.out y) => .val (.next y)
  | .val (.back z) => .val (.back z)
  | .val (.pan p) => .val (.pan p)
  | .br b x y => .br b x.outR y.outR
  | .need p x => .need p x.outR

section
variable {P : Program} {E : Env}

theorem Fr.bindR_sat {X Y Z W : Type} {k : X → Fr (Rd W Y Z)} {Q : Rd W Y Z → Prop} : {f : Fr (Rd X Y Z)} → (f.bindR k).satP Q → f.satP fun
    | .next m => (k m).satP Q
    | .out y => Q (.out y)
    | .back z => Q (.back z)
    | .pan p => Q (.pan p)
  | .val (.next _), h => h
  | .val (.out _), h => h
  | .val (.back _), h => h
  | .val (.pan _), h => h
  | .br _b _x _y, h => ⟨fun hb => bindR_sat (h.1 hb), fun hb => bindR_sat (h.2 hb)⟩
  | .need _p _x, h => ⟨h.1, bindR_sat h.2⟩

theorem Fr.outR_sat {Y Z W : Type} {Q : Rd Y W Z → Prop} : {f : Fr (Rd Y Y Z)} → f.outR.satP Q → f.satP fun
    | .next m => Q (.next m)
    | .out y => Q (.next y)
    | .back z => Q (.back z)
    | .pan p => Q (.pan p)
  | .val (.next _), h => h
  | .val (.out _), h => h
  | .val (.back _), h => h
  | .val (.pan _), h => h
  | .br _b _x _y, h => ⟨fun hb => outR_sat (h.1 hb), fun hb => outR_sat (h.2 hb)⟩
  | .need _p _x, h => ⟨h.1, outR_sat h.2⟩

theorem Fr.satP_mono {α : Type} {Q Q' : α → Prop} (h : ∀ x, Q x → Q' x) : {f : Fr α} → f.satP Q → f.satP Q'
  | .val _, hq => h _ hq
  | .br _ _ _, hq => ⟨fun hb => satP_mono h (hq.1 hb), fun hb => satP_mono h (hq.2 hb)⟩
  | .need _ _, hq => ⟨hq.1, satP_mono h hq.2⟩

theorem Does.of_run {C : Cx} (hC : CxOK P C) {bs : Nat} {Λ : Nat → St → Option Tr} {c : Code} {L : LS} {p : Pt} (hM : p.M.low = true) (hE : p.E.low = true) (hR : p.R.low = true) (hΛ : ∀ E, LamOK P E Λ c 0) {f : L.X → Fr p.Out}
    (hr : ∀ x, runPiece P C bs Λ c L p x = some (f x)) : Does P c L p f := by
  intro E a w x Q hi hq
  have hrx := hr x
  unfold runPiece at hrx
  split at hrx <;> try (cases hrx; done)
  rename_i t ht
  have hsat := p.lp.rd_sat hrx hq
  refine wp_mono (codeA_sound hC c 0 (hΛ E) ht hsat hi) ?_
  rintro e a' w' ⟨xe, s', rfl, his, hqs⟩
  cases xe with
  | normal =>
    obtain ⟨hn', y, n', hy, hn, hqy⟩ := hqs
    have := ext_sound hC.ct hM his hy hn
    rw [hn'] at this
    exact ⟨.next y, hqy, rfl, this⟩
  | exit i =>
    obtain ⟨rfl, hn', y, n', hy, hn, hqy⟩ := hqs
    have := ext_sound hC.ct hE his hy hn
    rw [hn'] at this
    exact ⟨.out y, hqy, rfl, this⟩
  | ret =>
    obtain ⟨hn', y, n', hy, hn, hqy⟩ := hqs
    have := ext_sound hC.ct hR his hy hn
    rw [hn'] at this
    exact ⟨.back y, hqy, rfl, this⟩
  | panic v => exact ⟨.pan v, hqs.2, rfl, s', hqs.1, his⟩
  | val _ => exact hqs.elim
  | jump _ => exact hqs.elim

theorem Does.conv {c : Code} {L : LS} {p : Pt} {f g : L.X → Fr p.Out} (h : Does P c L p f) (hg : ∀ x Q, (g x).satP Q → (f x).satP Q) : Does P c L p g :=
  fun E a w x Q hi hq => h E a w x Q hi (hg x Q hq)

theorem Does.seq {a b : Code} {L M N Eo R : LS} {n id : Nat} {f : L.X → Fr (Rd M.X Eo.X R.X)} {g : M.X → Fr (Rd N.X Eo.X R.X)} (hf : Does P a L ⟨n, id, M, Eo, R⟩ f) (hg : Does P b M ⟨n, id, N, Eo, R⟩ g) :
    Does P (.seq a b) L ⟨n, id, N, Eo, R⟩ fun x => (f x).bindR g := by
  intro E ac w x Q hi hq
  refine wp_seq (wp_mono (hf E ac w x _ hi (Fr.bindR_sat hq)) ?_)
  rintro e a' w' ⟨r, hr, hm⟩
  cases r with
  | next m =>
    obtain ⟨rfl, hi'⟩ := hm
    exact hg E a' w' m Q hi' hr
  | out y =>
    obtain ⟨rfl, hi'⟩ := hm
    exact ⟨.out y, hr, rfl, hi'⟩
  | back z =>
    obtain ⟨rfl, hi'⟩ := hm
    exact ⟨.back z, hr, rfl, hi'⟩
  | pan v =>
    obtain ⟨rfl, hi'⟩ := hm
    exact ⟨.pan v, hr, rfl, hi'⟩

theorem Does.block {c : Code} {L M Eo R : LS} {n id id' : Nat} {f : L.X → Fr (Rd M.X M.X R.X)} (h : Does P c L ⟨n, id, M, M, R⟩ f) : Does P (.block id c) L ⟨n, id', M, Eo, R⟩ fun x => (f x).outR := by
  intro E ac w x Q hi hq
  refine wp_block (wp_mono (h E ac w x _ hi (Fr.outR_sat hq)) ?_)
  rintro e a' w' ⟨r, hr, hm⟩
  cases r with
  | next m =>
    obtain ⟨rfl, hi'⟩ := hm
    exact ⟨.next m, hr, rfl, hi'⟩
  | out y =>
    obtain ⟨rfl, hi'⟩ := hm
    show Exit.inBlock id _ (.exit id) a' w'
    unfold Exit.inBlock
    simp only [if_true]
    exact ⟨.next y, hr, rfl, hi'⟩
  | back z =>
    obtain ⟨rfl, hi'⟩ := hm
    exact ⟨.back z, hr, rfl, hi'⟩
  | pan v =>
    obtain ⟨rfl, hi'⟩ := hm
    exact ⟨.pan v, hr, rfl, hi'⟩

/-- A loop: one round, and what is to come. -/
theorem Does.loop {c : Code} {L N Eo R : LS} {n id : Nat} {f : L.X → Fr (Rd L.X Eo.X R.X)} (h : Does P c L ⟨n, id, L, Eo, R⟩ f) {F : L.X → Fr (Rd N.X Eo.X R.X)} {inv : L.X → Prop} {μ : L.X → Nat}
    (hlaw : ∀ x, inv x → ∀ Q : Rd N.X Eo.X R.X → Prop, (F x).satP Q → (f x).satP fun
      | .next x' => inv x' ∧ μ x' < μ x ∧ (F x').satP Q
      | .out y => Q (.out y)
      | .back z => Q (.back z)
      | .pan p => Q (.pan p)) (hinv : ∀ x Q, (F x).satP Q → inv x) : Does P (.loop c) L ⟨n, id, N, Eo, R⟩ F := by
  intro E a w x Q hi hq
  refine wp_loop_by (fun m a w => ∃ x, inv x ∧ μ x = m ∧ I P E (L.tpl n x) a w ∧ (F x).satP Q) ⟨μ x, x, hinv x Q hq, rfl, hi, hq⟩ ?_
  rintro m a w ⟨x, hx, rfl, hix, hFx⟩
  refine wp_mono (h E a w x _ hix (hlaw x hx Q hFx)) ?_
  rintro e a' w' ⟨r, hr, hm⟩
  cases r with
  | next x' =>
    obtain ⟨rfl, hi'⟩ := hm
    exact ⟨μ x', hr.2.1, x', hr.1, rfl, hi', hr.2.2⟩
  | out y =>
    obtain ⟨rfl, hi'⟩ := hm
    exact ⟨.out y, hr, rfl, hi'⟩
  | back z =>
    obtain ⟨rfl, hi'⟩ := hm
    exact ⟨.back z, hr, rfl, hi'⟩
  | pan v =>
    obtain ⟨rfl, hi'⟩ := hm
    exact ⟨.pan v, hr, rfl, hi'⟩

/-- A piece stands for a loop's handler in the code around it. -/
def Pt.toTr (p : Pt) : Fr p.Out → Tr
  | .val (.next m) => .leaf .normal (p.M.tpl p.n m)
  | .val (.out y) => .leaf (.exit p.id) (p.E.tpl p.n y)
  | .val (.back z) => .leaf .ret (p.R.tpl p.n z)
  | .val (.pan v) => .leaf (.panic v) ⟨p.n, fun _ => .dead, fun _ => none, fun _ => .dead⟩
  | .br b x y => .br b (p.toTr x) (p.toTr y)
  | .need q x => .need q (p.toTr x)

def Pt.han (Γ : FuncId → Option Ct) (L : LS) (p : Pt) (F : L.X → Fr p.Out) (s : St) : Option Tr :=
  if s.n = p.n then match L.ext Γ s with
    | some (x, n) => some (needL n (p.toTr (F x)))
    | none => none
  else none

theorem Pt.toTr_sat (p : Pt) {Q : XE → St → Prop} : {f : Fr p.Out} → (p.toTr f).sat Q → f.satP fun
    | .next m => Q .normal (p.M.tpl p.n m)
    | .out y => Q (.exit p.id) (p.E.tpl p.n y)
    | .back z => Q .ret (p.R.tpl p.n z)
    | .pan v => Q (.panic v) ⟨p.n, fun _ => .dead, fun _ => none, fun _ => .dead⟩
  | .val (.next _), h => h
  | .val (.out _), h => h
  | .val (.back _), h => h
  | .val (.pan _), h => h
  | .br _b _x _y, h => ⟨fun hb => p.toTr_sat (h.1 hb), fun hb => p.toTr_sat (h.2 hb)⟩
  | .need _q _x, h => ⟨h.1, p.toTr_sat h.2⟩

theorem Does.han {C : Cx} (hC : CxOK P C) {c : Code} {L : LS} {p : Pt} {F : L.X → Fr p.Out} (hL : L.low = true) (h : Does P (.loop c) L p F) : LoopOK P E c (p.han C.Γ L F) := by
  intro s t hs Q hq a w hi
  unfold Pt.han at hs
  split at hs <;> try (cases hs; done)
  rename_i hsn
  split at hs <;> try (cases hs; done)
  rename_i x n hx
  simp only [Option.some.injEq] at hs
  subst hs
  obtain ⟨hq1, hq2⟩ := needL_sat _ hq
  have hi' := ext_sound hC.ct hL hi hx hq1
  rw [hsn] at hi'
  refine wp_mono (h E a w x _ hi' (p.toTr_sat hq2)) ?_
  rintro e a' w' ⟨r, hr, hm⟩
  cases r with
  | next m =>
    obtain ⟨rfl, hi'⟩ := hm
    exact ⟨.normal, _, rfl, hi', hr⟩
  | out y =>
    obtain ⟨rfl, hi'⟩ := hm
    exact ⟨.exit p.id, _, rfl, hi', hr⟩
  | back z =>
    obtain ⟨rfl, hi'⟩ := hm
    exact ⟨.ret, _, rfl, hi', hr⟩
  | pan v =>
    obtain ⟨rfl, s', hn', hi'⟩ := hm
    have hdead : I P E ⟨p.n, fun _ => .dead, fun _ => none, fun _ => .dead⟩ a' w' := by
      have := ext_sound hC.ct (L := ⟨[], []⟩) rfl hi' (x := ((), ())) (n := []) rfl trivial
      rw [hn'] at this
      obtain ⟨F', γ', h⟩ := this
      exact ⟨F', γ', h.n, h.df, h.step, h.mem, fun t => trivial, fun t g want v ht => (nomatch ht), fun t => trivial⟩
    exact ⟨.panic v, _, rfl, hdead, hr⟩

end
end Go.Ab

/-
  Lists of contracts; a body that is carried out where it is called, by what a piece says of it.
-/
namespace Go.Ab
open Go Go.RowKit

/-- Contracts, by the functions' numbers. -/
def envF {α : Type} : List (FuncId × α) → FuncId → Option α
  | [], _ => none
  | (g, c) :: r, f => if f = g then some c else envF r f

def AllCt (P : Program) : List (FuncId × Ct) → Prop
  | [] => True
  | (f, c) :: r => SoundCt P f c ∧ AllCt P r

def AllPc (P : Program) : List (FuncId × Pc) → Prop
  | [] => True
  | (f, c) :: r => SoundPc P f c ∧ AllPc P r

theorem AllCt.get {P : Program} : {l : List (FuncId × Ct)} → AllCt P l → ∀ f c, envF l f = some c → SoundCt P f c
  | [], _, f, c, h => by simp [envF] at h
  | (g, c0) :: r, ha, f, c, h => by
    unfold envF at h
    split at h
    · rename_i hfg
      simp only [Option.some.injEq] at h
      subst h hfg
      exact ha.1
    · exact AllCt.get ha.2 f c h

theorem AllPc.get {P : Program} : {l : List (FuncId × Pc)} → AllPc P l → ∀ f c, envF l f = some c → SoundPc P f c
  | [], _, f, c, h => by simp [envF] at h
  | (g, c0) :: r, ha, f, c, h => by
    unfold envF at h
    split at h
    · rename_i hfg
      simp only [Option.some.injEq] at h
      subst h hfg
      exact ha.1
    · exact AllPc.get ha.2 f c h

/-- What is known of functions, by lists. -/
def cx (cs : List (FuncId × Ct)) (ps : List (FuncId × Pc)) : Cx := ⟨envF cs, envF ps, fun _ _ _ _ => none⟩
def cxK (cs : List (FuncId × Ct)) (ps : List (FuncId × Pc)) (K : Nat → FuncId → List AV → St → Option Tr) : Cx := ⟨envF cs, envF ps, K⟩

theorem cx_ok {P : Program} (hm : P.follows .mixedOrders = true) {cs : List (FuncId × Ct)} {ps : List (FuncId × Pc)} (h : AllCt P cs) (k : AllPc P ps) : CxOK P (cx cs ps) :=
  ⟨hm, h.get, k.get, fun _ _ _ _ _ h => (nomatch h)⟩
theorem cxK_ok {P : Program} (hm : P.follows .mixedOrders = true) {cs : List (FuncId × Ct)} {ps : List (FuncId × Pc)} {K : Nat → FuncId → List AV → St → Option Tr} (h : AllCt P cs) (k : AllPc P ps) (hK : InlOK P K) : CxOK P (cxK cs ps K) :=
  ⟨hm, h.get, k.get, hK⟩

/-- No loops. -/
def lam0 : Nat → St → Option Tr := fun _ _ => none
theorem lam0_ok {P : Program} {E : Env} : (c : Code) → (k : Nat) → LamOK P E lam0 c k
  | .seq a b, k => ⟨lam0_ok a k, lam0_ok b _⟩
  | .cond _ a b, k => ⟨lam0_ok a k, lam0_ok b _⟩
  | .block _ c, k => lam0_ok c k
  | .scope c, k => lam0_ok c k
  | .loop _, _ => fun _ _ h => nomatch h
  | .skip, _ => trivial
  | .ret, _ => trivial
  | .exit _, _ => trivial
  | .region _ _ _, _ => trivial
  | .label _, _ => trivial
  | .goto _, _ => trivial
  | .rangeFunc _ _ _ _, _ => trivial
  | .refuse _, _ => trivial

/-- The body of a code's k-th loop. -/
def loopB : Code → Nat → Option Code
  | .loop c, 0 => some c
  | .seq a b, k => if k < loopsIn a then loopB a k else loopB b (k - loopsIn a)
  | .cond _ a b, k => if k < loopsIn a then loopB a k else loopB b (k - loopsIn a)
  | .block _ c, k => loopB c k
  | .scope c, k => loopB c k
  | _, _ => none
def loopF (f : Func) (k : Nat) : Code := (f.body.bind (loopB · k)).getD .skip

theorem loopB_lt : {c : Code} → {k : Nat} → {b : Code} → loopB c k = some b → k < loopsIn c
  | .loop _, 0, _, _ => Nat.zero_lt_one
  | .loop _, _ + 1, _, h => by simp [loopB] at h
  | .seq x y, k, b, h => by
    simp only [loopB] at h
    simp only [loopsIn]
    split at h
    · omega
    · have := loopB_lt h
      omega
  | .cond _ x y, k, b, h => by
    simp only [loopB] at h
    simp only [loopsIn]
    split at h
    · omega
    · have := loopB_lt h
      omega
  | .block _ c, k, b, h => loopB_lt (c := c) h
  | .scope c, k, b, h => loopB_lt (c := c) h
  | .skip, _, _, h => by simp [loopB] at h
  | .region _ _ _, _, _, h => by simp [loopB] at h
  | .ret, _, _, h => by simp [loopB] at h
  | .exit _, _, _, h => by simp [loopB] at h
  | .label _, _, _, h => by simp [loopB] at h
  | .goto _, _, _, h => by simp [loopB] at h
  | .rangeFunc _ _ _ _, _, _, h => by simp [loopB] at h
  | .refuse _, _, _, h => by simp [loopB] at h

theorem lamAll {P : Program} {E : Env} {Λ : Nat → St → Option Tr} : (c : Code) → (k : Nat) → (∀ i b, loopB c i = some b → LoopOK P E b (Λ (k + i))) → LamOK P E Λ c k
  | .loop b, k, h => h 0 b rfl
  | .seq x y, k, h => ⟨lamAll x k fun i b hb => h i b (by simp only [loopB]; rw [if_pos (loopB_lt hb)]; exact hb), lamAll y _ fun i b hb => by
      have := h (loopsIn x + i) b (by simp only [loopB]; rw [if_neg (by omega), Nat.add_sub_cancel_left]; exact hb)
      rwa [← Nat.add_assoc] at this⟩
  | .cond _ x y, k, h => ⟨lamAll x k fun i b hb => h i b (by simp only [loopB]; rw [if_pos (loopB_lt hb)]; exact hb), lamAll y _ fun i b hb => by
      have := h (loopsIn x + i) b (by simp only [loopB]; rw [if_neg (by omega), Nat.add_sub_cancel_left]; exact hb)
      rwa [← Nat.add_assoc] at this⟩
  | .block _ c, k, h => lamAll c k h
  | .scope c, k, h => lamAll c k h
  | .skip, _, _ => trivial
  | .ret, _, _ => trivial
  | .exit _, _, _ => trivial
  | .region _ _ _, _, _ => trivial
  | .label _, _, _ => trivial
  | .goto _, _, _ => trivial
  | .rangeFunc _ _ _ _, _, _ => trivial
  | .refuse _, _, _ => trivial

/-- Code with one loop. -/
theorem lam1 {P : Program} {E : Env} {Λ : Nat → St → Option Tr} {c b : Code} (hn : loopsIn c = 1) (hb : loopB c 0 = some b) (h : LoopOK P E b (Λ 0)) : LamOK P E Λ c 0 := by
  refine lamAll c 0 fun i b' hb' => ?_
  have h1 := loopB_lt hb'
  have hi : i = 0 := by omega
  subst hi
  rw [hb] at hb'
  cases hb'
  exact h

theorem lam1f {P : Program} {E : Env} {Λ : Nat → St → Option Tr} {fn : Func} {c b : Code} (hc : fn.body = some c) (hn : (fn.body.map loopsIn) = some 1) (hb : fn.body.bind (loopB · 0) = some b) (h : LoopOK P E b (Λ 0)) : LamOK P E Λ c 0 := by
  rw [hc] at hn hb
  exact lam1 (by simpa using hn) (by simpa using hb) h

/-- Code with two loops. -/
theorem lam2f {P : Program} {E : Env} {Λ : Nat → St → Option Tr} {fn : Func} {c b0 b1 : Code} (hc : fn.body = some c) (hn : (fn.body.map loopsIn) = some 2) (hb0 : fn.body.bind (loopB · 0) = some b0) (hb1 : fn.body.bind (loopB · 1) = some b1)
    (h0 : LoopOK P E b0 (Λ 0)) (h1 : LoopOK P E b1 (Λ 1)) : LamOK P E Λ c 0 := by
  rw [hc] at hn hb0 hb1
  simp only [Option.map_some, Option.some.injEq] at hn
  simp only [Option.bind_some] at hb0 hb1
  refine lamAll c 0 fun i b' hb' => ?_
  have hlt := loopB_lt hb'
  have hi : i = 0 ∨ i = 1 := by omega
  rcases hi with rfl | rfl
  · rw [hb0] at hb'
    cases hb'
    exact h0
  · rw [hb1] at hb'
    cases hb'
    exact h1

/-- A function without loops, by what its tree comes to. -/
theorem flat {P : Program} {C : Cx} (hC : CxOK P C) {f : FuncId} {fn : Func} {ps : List PT} {rs : List Ty} {fr : denP ps → Fr (denL rs)} (x0 : denP ps) (hf : P.funcs[f]? = some fn)
    (hrun : ∀ xs, runFn P C lam0 fn ps rs xs = some (fr xs)) (g : denP ps → denL rs) (ok : denP ps → List Prop)
    (hg : ∀ w F xs vs, RepPs P w F ps xs vs → conj (ok xs) → (fr xs).ok ∧ (fr xs).get = g xs) : SoundCt P f ⟨ps, rs, g, ok⟩ :=
  conv (fn_sound hC x0 hf (fun c _E _ => lam0_ok c 0) hrun) g ok hg

/-- A piece, for a body that is carried out where it is called. -/
def hanK (P : Program) (Γ : FuncId → Option Ct) (f : FuncId) (fn : Func) (L : LS) (p : Pt) (F : L.X → Fr p.Out) (_d : Nat) (g : FuncId) (args : List AV) (s : St) : Option Tr :=
  if g = f ∧ args.length ≤ fn.ntmps ∧ p.n = fn.ntmps then
    match L.ext Γ ⟨fn.ntmps, fun i => args.getD i .dead, s.mem, s.at⟩ with
    | some (x, n) => match endK P fn.results.toList s.n (p.toTr (F x)) with
      | some t => some (needL n t)
      | none => none
    | none => none
  else none

theorem hanK_ok {P : Program} {C : Cx} (hC : CxOK P C) {f : FuncId} {fn : Func} {c : Code} (hf : P.funcs[f]? = some fn) (hb : fn.body = some c) (hn : (fn.name == "runtime.NumGoroutine") = false) {L : LS} (hL : L.low = true) {p : Pt} {F : L.X → Fr p.Out} (h : Does P c L p F) :
    InlOK P (hanK P C.Γ f fn L p F) := by
  intro d g args s t ht
  unfold hanK at ht
  split at ht <;> try (cases ht; done)
  rename_i hcond
  obtain ⟨rfl, hlen0, hpn⟩ := hcond
  split at ht <;> try (cases ht; done)
  rename_i x n hx
  split at ht <;> try (cases ht; done)
  rename_i t1 ht1
  simp only [Option.some.injEq] at ht
  subst ht
  refine ⟨enters hf hb hn, fun E a w F0 γ vs Q hi hr hq => calls_of_wp hf hb ?_⟩
  have hlen : vs.length = args.length := hr.length
  have hstart := startK (n := fn.ntmps) hi hr (by omega)
  obtain ⟨hq1, hq2⟩ := needL_sat _ hq
  have hi' := ext_sound hC.ct hL hstart hx hq1
  have hsat := endK_sat ht1 hq2
  have hsz : (vs.toArray).size = vs.length := by simp
  rw [hsz]
  have hi2 : I P ⟨E.w0, E.F0, tmA a E, [], E.B, E.hB⟩ (L.tpl p.n x) { tmps := vs.toArray ++ Array.replicate (fn.ntmps - vs.length) undef, defers := [] } w := by
    rw [hpn]
    exact hi'
  refine wp_mono (h _ _ w x _ hi2 (p.toTr_sat hsat)) ?_
  rintro e a' w' ⟨r, hr', hm⟩
  have hfin : ∀ s' : St, I P ⟨E.w0, E.F0, tmA a E, [], E.B, E.hB⟩ s' a' w' → (∃ vs ns, resAs P s' fn.results.toList = some (vs, ns) ∧ conj ns ∧ Q (.val (resV vs)) (s'.back s.n)) → a'.defers = [] ∧ ∃ v, (results fn a'.tmps).run P w' = .ok v w' ∧ EndK P E a Q (.returned v) w' := by
    rintro s' ⟨F', γ', hi'⟩ ⟨vs, ns, hres, hns, hqv⟩
    obtain ⟨us, hran, hreps⟩ := res_run hi' hres hns
    exact ⟨hi'.df, _, results_run hran, _, _, F', γ', hqv, inv_back hi hi', _, rfl, resV_rep hreps⟩
  cases r with
  | next m =>
    obtain ⟨rfl, hi3⟩ := hm
    exact hfin _ hi3 hr'
  | out y => exact hr'.elim
  | back z =>
    obtain ⟨rfl, hi3⟩ := hm
    exact hfin _ hi3 hr'
  | pan v =>
    obtain ⟨rfl, s', hn', hi3⟩ := hm
    have hdead : I P ⟨E.w0, E.F0, tmA a E, [], E.B, E.hB⟩ ⟨p.n, fun _ => .dead, fun _ => none, fun _ => .dead⟩ a' w' := by
      have := ext_sound hC.ct (L := ⟨[], []⟩) rfl hi3 (x := ((), ())) (n := []) rfl trivial
      rw [hn'] at this
      obtain ⟨F', γ', h⟩ := this
      exact ⟨F', γ', h.n, h.df, h.step, h.mem, fun t => trivial, fun t g want v ht => (nomatch ht), fun t => trivial⟩
    obtain ⟨F', γ', h4⟩ := hdead
    exact ⟨h4.df, .panic v, _, F', γ', hr', inv_back hi h4, rfl⟩

/-- The one, or else the other. -/
def orK (K K' : Nat → FuncId → List AV → St → Option Tr) (d : Nat) (f : FuncId) (args : List AV) (s : St) : Option Tr :=
  match K d f args s with
  | some t => some t
  | none => K' d f args s

theorem orK_ok {P : Program} {K K' : Nat → FuncId → List AV → St → Option Tr} (h : InlOK P K) (h' : InlOK P K') : InlOK P (orK K K') := by
  intro d f args s t ht
  unfold orK at ht
  split at ht
  · rename_i t' hk
    cases ht
    exact h d f args s _ hk
  · exact h' d f args s t ht

end Go.Ab

/-
  Functions that defer one call, which tells a panic's number in a variable.
-/
namespace Go.Ab
open Go Go.RowKit

/-- A function that, deferred with a pointer, lays a panic's number where it points; where there is no panic it does nothing. -/
structure TolOK (P : Program) (g : FuncId) (T : TypeId) (k : IntKind) : Prop where
  enter : ∀ args w, (callFunc g args).run P w = .ok (.enter g args) w
  idle : ∀ (p : Addr) (w : World), CallsD P g #[.pointer (some p)] .returning w fun e u' w' => (∃ v, e = .returned v) ∧ u' = .returning ∧ w' = w
  told : ∀ (b : Nat) (ty : TypeId) (old : Value) (n : Int) (w : World), w.heap[b]? = some (.cells #[old] ty (0, 0)) →
    CallsD P g #[.pointer (some ⟨b, 0, none⟩)] (.panicking [{ v := .iface T (.int k n), recovered := false }]) w fun e u' w' =>
      (∃ v, e = .returned v) ∧ u' = .panicking [{ v := .iface T (.int k n), recovered := true }] ∧ w' = w.setRow b #[.int k n]

/-- Behind such a call. -/
def toldS (T : TypeId) (k : IntKind) (p : PV) (s : St) : Option St :=
  match s.gs 0 with
  | .c (.ptr id 0) => match s.mem id with
    | some (.box e [_]) => if p.ty = T ∧ p.k = k then some ⟨s.n, s.sl, upd s.mem id (.box e [.int k p.n]), s.gs⟩ else none
    | _ => none
  | _ => none

def frD (P : Program) (T : TypeId) (k : IntKind) (rv : List ResultVar) (rs : List Ty) : Tr → Option (Fr (denL rs))
  | .leaf .ret s => endA P rv rs s
  | .leaf .normal s => endA P rv rs s
  | .leaf (.panic p) s => match toldS T k p s with
    | some s' => match endA P rv rs s' with
      | some f => some (.need (inR k p.n) f)
      | none => none
    | none => none
  | .leaf _ _ => none
  | .br b x y => match frD P T k rv rs x, frD P T k rv rs y with
    | some x', some y' => some (.br b x' y')
    | _, _ => none
  | .need p x => match frD P T k rv rs x with
    | some x' => some (.need p x')
    | none => none
  | .two p x y => match frD P T k rv rs x, frD P T k rv rs y with
    | some x', some y' => some (.need (p → x'.ok ∧ x'.get = y'.get) y')
    | _, _ => none

/-- A function that begins by deferring it. -/
def runDf (P : Program) (C : Cx) (Λ : Nat → St → Option Tr) (g : FuncId) (T : TypeId) (k : IntKind) (fn : Func) (ps : List PT) (rs : List Ty) (xs : denP ps) : Option (Fr (denL rs)) :=
  match fn.body with
  | some (.seq A (.seq (.region _ ops false) c)) => if (fn.name == "runtime.NumGoroutine") = false ∧ ps.length ≤ fn.ntmps then
      match ops.toList with
      | [⟨none, .defer ⟨.value (.func f), args, _⟩, _, _, _, none⟩] => match args.toList with
        | [.tmp tp] => if f = g then
            match codeA P C 0 Λ A 0 (startA fn.ntmps (encPs ps xs)) with
            | some (.leaf .normal s1) => match s1.sl tp with
              | .c (.ptr id 0) => match codeA P C 0 Λ c (loopsIn A) ⟨s1.n, s1.sl, s1.mem, fun t => if t = 0 then .c (.ptr id 0) else .dead⟩ with
                | some t => frD P T k fn.results.toList rs t
                | none => none
              | _ => none
            | _ => none
          else none
        | _ => none
      | _ => none
    else none
  | _ => none

section
variable {P : Program} {w w' : World} {E : Env} {F F' : Nat → Prop} {γ γ' : Nat → Value}

theorem endA_get {rv : List ResultVar} {rs : List Ty} {s : St} {f : Fr (denL rs)} (h : endA P rv rs s = some f) (hok : f.ok) : ∃ n, endA P rv rs s = some (Fr.needL n (.val f.get)) ∧ conj n := by
  have h0 := h
  unfold endA at h
  split at h <;> try (cases h; done)
  split at h <;> try (cases h; done)
  split at h <;> try (cases h; done)
  rename_i y _
  simp only [Option.some.injEq] at h
  subst h
  refine ⟨_, ?_, (needL_ok _ hok).1⟩
  rw [needL_get]
  exact h0

theorem frD_sat {T : TypeId} {k : IntKind} {rv : List ResultVar} {rs : List Ty} : {t : Tr} → {f : Fr (denL rs)} → frD P T k rv rs t = some f → f.ok → t.sat fun e s => match e with
    | .ret => ∃ n, endA P rv rs s = some (Fr.needL n (.val f.get)) ∧ conj n
    | .normal => ∃ n, endA P rv rs s = some (Fr.needL n (.val f.get)) ∧ conj n
    | .panic p => ∃ s' n, toldS T k p s = some s' ∧ inR k p.n ∧ endA P rv rs s' = some (Fr.needL n (.val f.get)) ∧ conj n
    | _ => False
  | .leaf e s, f, h, hok => by
    cases e with
    | exit i => simp [frD] at h
    | val i => simp [frD] at h
    | jump i => simp [frD] at h
    | normal => exact endA_get h hok
    | ret => exact endA_get h hok
    | panic p =>
      simp only [frD] at h
      split at h <;> try (cases h; done)
      rename_i s' hs'
      split at h <;> try (cases h; done)
      rename_i f' hf'
      simp only [Option.some.injEq] at h
      subst h
      obtain ⟨n, h1, h2⟩ := endA_get hf' hok.2
      exact ⟨s', n, hs', hok.1, h1, h2⟩
  | .br b x y, f, h, hok => by
    simp only [frD] at h
    split at h <;> try (cases h; done)
    rename_i x' y' hx hy
    simp only [Option.some.injEq] at h
    subst h
    refine ⟨fun hb => ?_, fun hb => ?_⟩
    · have := frD_sat hx (hok.1 hb)
      simpa only [Fr.get, hb, if_true] using this
    · have := frD_sat hy (hok.2 hb)
      simpa only [Fr.get, hb, Bool.false_eq_true, if_false] using this
  | .need p x, f, h, hok => by
    simp only [frD] at h
    split at h <;> try (cases h; done)
    rename_i x' hx
    simp only [Option.some.injEq] at h
    subst h
    have := frD_sat hx hok.2
    exact ⟨hok.1, this⟩
  | .two p x y, f, h, hok => by
    simp only [frD] at h
    split at h <;> try (cases h; done)
    rename_i x' y' hx hy
    simp only [Option.some.injEq] at h
    subst h
    have h2 := frD_sat hy hok.2
    refine ⟨fun hp => ?_, h2⟩
    have := frD_sat hx (hok.1 hp).1
    rwa [(hok.1 hp).2] at this

/-- What a state hands back. -/
theorem endA_post {fn : Func} {rs : List Ty} {s : St} {a : Act} {y : denL rs} {n : List Prop} (hi : InvG P E s a w [] F γ) (hEB : E.B = E.w0.heap.size) (h : endA P fn.results.toList rs s = some (Fr.needL n (.val y))) (hn : conj n) :
    ∃ v, (results fn a.tmps).run P w = .ok v w ∧ Post E.w0 E.F0 rs y (.returned v) w := by
  unfold endA at h
  split at h <;> try (cases h; done)
  rename_i avs n' hres
  split at h <;> try (cases h; done)
  rename_i axs u hrs
  split at h <;> try (cases h; done)
  rename_i y' hdec
  simp only [Option.some.injEq] at h
  obtain ⟨hn', hy⟩ := needL_inj h hn
  subst hy
  obtain ⟨us, hran, hreps⟩ := res_run hi hres hn'
  obtain ⟨F'', hs, hm', _, hxs⟩ := rsAs_sound hi.mem (inv_bd hi) (SubM.of fun _ _ h => h) hrs hreps
  obtain ⟨γ0, h0⟩ := hi.step
  rw [hEB] at hs h0
  have hst := h0.trans hs
  exact ⟨_, results_run hran, _, F'', rfl, ⟨hst.os, hst.tape, hst.output, hst.size, hst.old⟩, hst.hF, fun b hb => ⟨hst.new b hb, hst.bd b hb⟩, repR_of (decVs_rep hdec hxs)⟩

theorem one_of_size {arr : Array Value} (h : arr.size = 1) : ∃ v, arr = #[v] := by
  refine ⟨arr[0]'(by omega), ?_⟩
  apply Array.ext
  · simp [h]
  · intro i h1 h2
    have : i = 0 := by omega
    subst this
    rfl

theorem told_inv {T : TypeId} {k : IntKind} {p : PV} {s s' : St} {a : Act} (hi : InvG P E s a w [] F γ) (h : toldS T k p s = some s') (hr : inR k p.n) :
    p.ty = T ∧ p.k = k ∧ ∃ b ty old, E.G 0 = .pointer (some ⟨b, 0, none⟩) ∧ w.heap[b]? = some (.cells #[old] ty (0, 0)) ∧ InvG P E s' a (w.setRow b #[.int k p.n]) [] F γ := by
  unfold toldS at h
  split at h <;> try (cases h; done)
  rename_i id hgs
  split at h <;> try (cases h; done)
  rename_i e c0 hM
  split at h <;> try (cases h; done)
  rename_i hp
  simp only [Option.some.injEq] at h
  subst h
  have hg := hi.gh 0
  rw [hgs] at hg
  obtain ⟨b, arr, e1, e2, e3, e4, e5, e6, e7⟩ := box_at hi.mem hM hg.2
  obtain ⟨old, rfl⟩ := one_of_size (by simpa using e6)
  have hov : overlay #[old] 0 [.int k p.n] = #[.int k p.n] := by simp [overlay]
  obtain ⟨s1, s2⟩ := set_box (off := 0) (cs' := [.int k p.n]) (vs := [.int k p.n]) hi.mem (inv_bd hi) hM e1 e3 e4 e5 (by simp) rfl ⟨⟨.int k p.n, by rw [hov]; rfl, rfl, rfl, hr⟩, trivial⟩
  rw [hov] at s1 s2
  refine ⟨hp.1, hp.2, b, e, old, e2, e3, ⟨hi.n, hi.df, ?_, s2, fun t => (hi.sl t).mono s1.hF s1.hw s1.hR, hi.hg, fun t => s1.repA (hi.gh t)⟩⟩
  obtain ⟨γ0, h0⟩ := hi.step
  exact ⟨γ0, h0.trans s1⟩

theorem df_sound {C : Cx} (hC : CxOK P C) {Λ : Nat → St → Option Tr} {f g : FuncId} {T : TypeId} {k : IntKind} {fn : Func} {ps : List PT} {rs : List Ty} {fr : denP ps → Fr (denL rs)} (x0 : denP ps)
    (hf : P.funcs[f]? = some fn) (hT : TolOK P g T k) (hΛ : ∀ c E, fn.body = some c → LamOK P E Λ c 0) (hrun : ∀ xs, runDf P C Λ g T k fn ps rs xs = some (fr xs)) : SoundCt P f ⟨ps, rs, fun xs => (fr xs).get, fun xs => [(fr xs).ok]⟩ := by
  have h0 := hrun x0
  unfold runDf at h0
  split at h0 <;> try (cases h0; done)
  rename_i A rid ops c hb
  split at h0 <;> try (cases h0; done)
  rename_i hc
  refine ⟨enters hf hb hc.1, fun w F xs vs hbd hr hok => calls_of_wp_defers hf hb ?_⟩
  have hr' := hrun xs
  unfold runDf at hr'
  simp only [hb, hc, and_self, if_true] at hr'
  split at hr' <;> try (cases hr'; done)
  rename_i f0 args ats ty pos aft hops
  split at hr' <;> try (cases hr'; done)
  rename_i tp hargs
  split at hr' <;> try (cases hr'; done)
  rename_i hfg
  subst hfg
  split at hr' <;> try (cases hr'; done)
  rename_i s1 ht1
  split at hr' <;> try (cases hr'; done)
  rename_i id hsl
  split at hr' <;> try (cases hr'; done)
  rename_i t ht2
  have hlam := fun E => hΛ _ E hb
  have hlen : vs.length = ps.length := repPs_len hr
  have hstart := start_inv (D := []) (n := fn.ntmps) hbd (fun R => encPs_rep (R := R) hr) (by omega)
  have hsz : (vs.toArray).size = vs.length := by simp
  rw [hsz]
  refine wp_seq (wp_mono (codeA_sound hC A 0 (hlam _).1 ht1 (Q := fun e s => e = .normal ∧ s = s1) ⟨rfl, rfl⟩ hstart) ?_)
  rintro e a1 w1 ⟨xe, s, rfl, ⟨F1, γ1, hi⟩, rfl, rfl⟩
  obtain ⟨ol⟩ := ops
  simp only at hops
  subst hops
  have hv0 := inv_rep hi tp
  rw [hsl] at hv0
  obtain ⟨_, b0, hR0, hv0⟩ := hv0
  refine wp_seq (wp_region ?_)
  have hargs' : args = #[.tmp tp] := by
    obtain ⟨l⟩ := args
    simp only at hargs
    rw [hargs]
  subst hargs'
  have hev : a1.eval (.tmp tp) = .pointer (some ⟨b0, 0, none⟩) := hv0
  have hexec : (execOp a1.eval ⟨none, .defer ⟨.value (.func f0), #[.tmp tp], ats⟩, ty, pos, aft, none⟩).run P w1 = .ok (.defer { target := .fn (.func f0) #[], args := #[.pointer (some ⟨b0, 0, none⟩)] }) w1 := by
    have hef : a1.eval (.func f0) = .func (.func f0) #[] #[] := rfl
    simp [execOp, resolve, hev, hef, Deferred.ofValue]
  have hrange : List.range (#[(⟨none, .defer ⟨.value (.func f0), #[.tmp tp], ats⟩, ty, pos, aft, none⟩ : Oper)] : Array Oper).size = [0] := rfl
  rw [hrange]
  show wpOps P _ _ [0] a1 w1
  unfold wpOps
  simp only [List.getElem?_toArray, List.getElem?_cons_zero]
  have hw : Region.wanted (⟨none, .defer ⟨.value (.func f0), #[.tmp tp], ats⟩, ty, pos, aft, none⟩ : Oper) (yielded #[(⟨none, .defer ⟨.value (.func f0), #[.tmp tp], ats⟩, ty, pos, aft, none⟩ : Oper)] a1.tmps) = true := rfl
  rw [if_pos hw]
  refine .inl ?_
  unfold Oper.wp
  rw [hexec]
  rw [Oper.upon_defer]
  simp only [wpOps]
  show Code.wp P c (bodyPostD P fn (Post w F rs (fr xs).get)) { a1 with defers := { target := .fn (.func f0) #[], args := #[.pointer (some ⟨b0, 0, none⟩)] } :: a1.defers } w1
  have hi' : InvG P ⟨w, F, fun _ => .pointer (some ⟨b0, 0, none⟩), [{ target := .fn (.func f0) #[], args := #[.pointer (some ⟨b0, 0, none⟩)] }], w.heap.size, Nat.le_refl _⟩ ⟨s.n, s.sl, s.mem, fun t => if t = 0 then .c (.ptr id 0) else .dead⟩ { a1 with defers := { target := .fn (.func f0) #[], args := #[.pointer (some ⟨b0, 0, none⟩)] } :: a1.defers } w1 [] F1 γ1 := by
    refine ⟨hi.n, ?_, hi.step, hi.mem, hi.sl, hi.hg, fun t => ?_⟩
    · show _ :: a1.defers = [_]
      rw [hi.df]
    · show RepA P w1 F1 _ (if t = 0 then .c (.ptr id 0) else .dead) _
      split
      · exact ⟨rfl, b0, hR0, rfl⟩
      · trivial
  have hwp := codeA_sound hC c (loopsIn A) (by have := (hlam ⟨w, F, fun _ => .pointer (some ⟨b0, 0, none⟩), [{ target := .fn (.func f0) #[], args := #[.pointer (some ⟨b0, 0, none⟩)] }], w.heap.size, Nat.le_refl _⟩).2.2; simpa [loopsIn] using this) ht2 (frD_sat hr' hok) ⟨F1, γ1, hi'⟩
  refine wp_mono hwp ?_
  rintro e a2 w2 ⟨xe, s2, rfl, ⟨F2, γ2, hi2⟩, hx⟩
  have hinv : ∀ W, (invoke (.fn (.func f0) #[]) #[.pointer (some ⟨b0, 0, none⟩)]).run P W = .ok (.enter f0 #[.pointer (some ⟨b0, 0, none⟩)]) W := fun W => by
    have := hT.enter #[.pointer (some ⟨b0, 0, none⟩)] W
    simp [invoke, this]
  have hfin : (∃ n, endA P fn.results.toList rs s2 = some (Fr.needL n (.val (fr xs).get)) ∧ conj n) → Leaves P fn a2.tmps (Post w F rs (fr xs).get) a2.defers .returning w2 := by
    rintro ⟨n, hend, hn⟩
    rw [hi2.df]
    refine leaves_cons (by simp) (hinv w2) ((hT.idle _ w2).mono ?_)
    rintro e u' w' ⟨⟨v, rfl⟩, rfl, rfl⟩
    exact endA_post hi2 rfl hend hn
  cases xe with
  | normal => exact hfin hx
  | ret => exact hfin hx
  | exit _ => exact hx.elim
  | val _ => exact hx.elim
  | jump _ => exact hx.elim
  | panic p =>
    obtain ⟨s', n, hs', hin, hend, hn⟩ := hx
    obtain ⟨hty, hk, b, tyb, old, hG, hheap, hi3⟩ := told_inv hi2 hs' hin
    have hG' : (Value.pointer (some ⟨b0, 0, none⟩)) = .pointer (some ⟨b, 0, none⟩) := hG
    simp only [Value.pointer.injEq, Option.some.injEq, Addr.mk.injEq, and_true] at hG'
    subst hG'
    show Leaves P fn a2.tmps _ a2.defers (.panicking [{ v := .iface p.ty (.int p.k p.n), recovered := false }]) w2
    rw [hi2.df, hty, hk]
    refine leaves_cons (by simp) (hinv w2) ((hT.told b0 tyb old p.n w2 hheap).mono ?_)
    rintro e u' w' ⟨⟨v, rfl⟩, rfl, rfl⟩
    exact endA_post hi3 rfl hend hn

end
end Go.Ab

/-
  From what a row's reading says of its arguments to typed data; and a law's row out of a contract.
-/
namespace Go.Ab
open Go Go.RowKit Go.WideShapes Go.ChangeShapes

def okFs (r : TypeId → Ty → Bool) : List Field → Ty → Nat → Bool
  | [], .unit, _ => true
  | f :: fs, .pair a b, off => (f.offset == off) && (r f.type a && okFs r fs b (off + a.size))
  | _, _, _ => false

def okAr (r : Ty → Bool) : Nat → Ty → Bool
  | 0, .unit => true
  | k + 1, .pair a b => r a && okAr r k b
  | _, _ => false

/-- A type of the program is a type of data, in its cells too. -/
def okTy (P : Program) : Nat → TypeId → Ty → Bool
  | 0, _, _ => false
  | n + 1, t, ty => (P.cellsOf t == ty.size) && match P.underlying t, ty with
    | some .bool, .bool => true
    | some (.int k), .int k' => decide (k = k')
    | some .string, .str => true
    | some (.slice e), .sl te => decide (0 < te.size) && okTy P n e te
    | some (.struct fs), ty => ty.wide && okFs (okTy P n) fs.toList ty 0
    | some (.array k e), ty => ty.wide && okAr (okTy P n e) k ty
    | _, _ => false

section
variable {H : Type} {enc : TypeId × Value → H} {P : Program} {w : World} {sp : Nat → Bool} {held : Bool}

theorem add_add (a : Addr) (k j : Nat) : (a.add k).add j = a.add (k + j) := by
  unfold Addr.add
  by_cases hk : k = 0
  · subst hk
    simp
  · by_cases hj : j = 0
    · subst hj
      simp [hk]
    · have : ¬ k + j = 0 := by omega
      simp [hk, hj, Nat.add_assoc]

theorem list_of {α : Type} {Q : Nat → α → Prop} : (n : Nat) → (∀ i, i < n → ∃ y, Q i y) → ∃ l : List α, l.length = n ∧ ∀ (i : Nat) (y : α), l[i]? = some y → Q i y
  | 0, _ => ⟨[], rfl, fun i y h => by simp at h⟩
  | n + 1, h => by
    obtain ⟨l, hl, hq⟩ := list_of n (fun i hi => h i (by omega))
    obtain ⟨y, hy⟩ := h n (by omega)
    refine ⟨l ++ [y], by simp [hl], fun i z hz => ?_⟩
    rcases Nat.lt_or_ge i l.length with hi | hi
    · rw [List.getElem?_append_left hi] at hz
      exact hq i z hz
    · rw [List.getElem?_append_right hi] at hz
      have : i - l.length = 0 := by
        rcases Nat.eq_zero_or_pos (i - l.length) with h0 | h0
        · exact h0
        · rw [List.getElem?_eq_none (by simp; omega)] at hz
          cases hz
      rw [this] at hz
      simp only [List.getElem?_cons_zero, Option.some.injEq] at hz
      subst hz
      have : i = n := by omega
      subst this
      exact hy

theorem cells_get {a : Addr} {n : Nat} {cs : List Value} (h : w.cells? 0 a n = some cs) : cs.length = n ∧ ∀ j, j < n → w.cell? (a.add j) = cs[j]? := by
  unfold World.cells? at h
  rw [if_pos (Nat.zero_le _)] at h
  refine ⟨by simpa using mapM_some_length h, fun j hj => ?_⟩
  exact mapM_some_get h j j (by simp [hj])

theorem cell_lt {a : Addr} {v : Value} (h : w.cell? a = some v) : a.block < w.heap.size := by
  unfold World.cell? at h
  split at h
  · rename_i hb
    exact (Array.getElem?_eq_some_iff.1 hb).1
  · cases h

theorem wf_inR {k : IntKind} {n : Int} (h : (Lit.int k n).wf = true) : inR k n := by
  simpa [Lit.wf, inR] using h

/-- The blocks that lie before. -/
abbrev oldF (w : World) : Nat → Prop := fun b => b < w.heap.size

theorem okFs_rep {n fuel : Nat} (ih : ∀ (t : TypeId) (ty : Ty) (fuel : Nat) (cs : List Value) (x : DataW H × List MemPlace), okTy P n t ty = true → DataW.trod enc P w 0 sp held fuel t cs = some x → cs.length = ty.size ∧ ∃ y, RepT w (oldF w) ty y (fun j u => cs[j]? = some u))
    {cs : List Value} : (l : List Field) → (ty : Ty) → (off : Nat) → okFs (okTy P n) l ty off = true → (∀ f ∈ l, ∃ x, DataW.trod enc P w 0 sp held fuel f.type ((cs.drop f.offset).take (P.cellsOf f.type)) = some x) → ∃ y, RepT w (oldF w) ty y (fun j u => cs[off + j]? = some u)
  | [], .unit, _, _, _ => ⟨(), trivial⟩
  | f :: fs, .pair a b, off, h, hx => by
    simp only [okFs, Bool.and_eq_true, beq_iff_eq] at h
    obtain ⟨h1, h2, h3⟩ := h
    obtain ⟨x, hx1⟩ := hx f (by simp)
    obtain ⟨hl, y, hy⟩ := ih _ _ _ _ _ h2 hx1
    obtain ⟨y', hy'⟩ := okFs_rep ih fs b (off + a.size) h3 (fun g hg => hx g (by simp [hg]))
    refine ⟨(y, y'), RepT.mono (fun _ h => h) (fun _ _ => rfl) (fun j u hj hu => ?_) hy, RepT.mono (fun _ h => h) (fun _ _ => rfl) (fun j u hj hu => ?_) hy'⟩
    · rw [List.getElem?_take] at hu
      split at hu
      · rw [List.getElem?_drop, h1] at hu
        exact hu
      · cases hu
    · rw [Nat.add_assoc] at hu
      exact hu
  | [], .int _, _, h, _ => by simp [okFs] at h
  | [], .bool, _, h, _ => by simp [okFs] at h
  | [], .str, _, h, _ => by simp [okFs] at h
  | [], .sl _, _, h, _ => by simp [okFs] at h
  | [], .pair _ _, _, h, _ => by simp [okFs] at h
  | [], .fm _, _, h, _ => by simp [okFs] at h
  | _ :: _, .fm _, _, h, _ => by simp [okFs] at h
  | _ :: _, .int _, _, h, _ => by simp [okFs] at h
  | _ :: _, .bool, _, h, _ => by simp [okFs] at h
  | _ :: _, .str, _, h, _ => by simp [okFs] at h
  | _ :: _, .sl _, _, h, _ => by simp [okFs] at h
  | _ :: _, .unit, _, h, _ => by simp [okFs] at h

theorem okAr_rep {n fuel : Nat} {e : TypeId} (ih : ∀ (t : TypeId) (ty : Ty) (fuel : Nat) (cs : List Value) (x : DataW H × List MemPlace), okTy P n t ty = true → DataW.trod enc P w 0 sp held fuel t cs = some x → cs.length = ty.size ∧ ∃ y, RepT w (oldF w) ty y (fun j u => cs[j]? = some u))
    {cs : List Value} : (k : Nat) → (ty : Ty) → (i0 : Nat) → okAr (okTy P n e) k ty = true → (∀ i, i < k → ∃ x, DataW.trod enc P w 0 sp held fuel e ((cs.drop ((i0 + i) * P.cellsOf e)).take (P.cellsOf e)) = some x) → ∃ y, RepT w (oldF w) ty y (fun j u => cs[i0 * P.cellsOf e + j]? = some u)
  | 0, .unit, _, _, _ => ⟨(), trivial⟩
  | k + 1, .pair a b, i0, h, hx => by
    simp only [okAr, Bool.and_eq_true] at h
    obtain ⟨h2, h3⟩ := h
    obtain ⟨x, hx1⟩ := hx 0 (by omega)
    obtain ⟨hl, y, hy⟩ := ih _ _ _ _ _ h2 hx1
    have hsz : P.cellsOf e = a.size := by
      cases n with
      | zero => simp [okTy] at h2
      | succ n =>
        simp only [okTy, Bool.and_eq_true, beq_iff_eq] at h2
        exact h2.1
    obtain ⟨y', hy'⟩ := okAr_rep ih k b (i0 + 1) h3 (fun i hi => by
      have := hx (i + 1) (by omega)
      rwa [show i0 + 1 + i = i0 + (i + 1) by omega])
    refine ⟨(y, y'), RepT.mono (fun _ h => h) (fun _ _ => rfl) (fun j u hj hu => ?_) hy, RepT.mono (fun _ h => h) (fun _ _ => rfl) (fun j u hj hu => ?_) hy'⟩
    · rw [List.getElem?_take] at hu
      split at hu
      · rw [List.getElem?_drop] at hu
        simpa using hu
      · cases hu
    · rw [Nat.add_mul, Nat.one_mul, hsz, Nat.add_assoc] at hu
      rw [hsz]
      exact hu
  | 0, .int _, _, h, _ => by simp [okAr] at h
  | 0, .bool, _, h, _ => by simp [okAr] at h
  | 0, .str, _, h, _ => by simp [okAr] at h
  | 0, .sl _, _, h, _ => by simp [okAr] at h
  | 0, .pair _ _, _, h, _ => by simp [okAr] at h
  | 0, .fm _, _, h, _ => by simp [okAr] at h
  | _ + 1, .fm _, _, h, _ => by simp [okAr] at h
  | _ + 1, .int _, _, h, _ => by simp [okAr] at h
  | _ + 1, .bool, _, h, _ => by simp [okAr] at h
  | _ + 1, .str, _, h, _ => by simp [okAr] at h
  | _ + 1, .sl _, _, h, _ => by simp [okAr] at h
  | _ + 1, .unit, _, h, _ => by simp [okAr] at h

theorem trod_arr {t e : TypeId} {k fuel : Nat} {cs : List Value} {x : DataW H × List MemPlace} (ht : P.underlying t = some (.array k e)) (h : DataW.trod enc P w 0 sp held fuel t cs = some x) :
    ∃ n, ∀ i, i < k → ∃ y, DataW.trod enc P w 0 sp held n e ((cs.drop (i * P.cellsOf e)).take (P.cellsOf e)) = some y := by
  cases fuel with
  | zero => simp [DataW.trod] at h
  | succ n =>
    unfold DataW.trod at h
    rw [ht] at h
    split at h <;> simp_all
    obtain ⟨hl, xs, hp, hd⟩ := h
    refine ⟨n, fun i hi => ?_⟩
    have h1 := mapM_some_get hp i i (by simp [hi])
    have h2 := mapM_some_length hp
    rw [List.getElem?_eq_getElem (by simp at h2; omega)] at h1
    exact ⟨_, _, h1⟩

theorem trod_rep : (n : Nat) → (t : TypeId) → (ty : Ty) → (fuel : Nat) → (cs : List Value) → (x : DataW H × List MemPlace) → okTy P n t ty = true → DataW.trod enc P w 0 sp held fuel t cs = some x → cs.length = ty.size ∧ ∃ y, RepT w (oldF w) ty y (fun j u => cs[j]? = some u)
  | 0, t, ty, fuel, cs, x, h, _ => by simp [okTy] at h
  | n + 1, t, ty, fuel, cs, x, h, hx => by
    simp only [okTy, Bool.and_eq_true, beq_iff_eq] at h
    obtain ⟨hsz, h⟩ := h
    split at h
    · rename_i ht
      obtain ⟨b, rfl, _⟩ := DataW.trod_bool ht hx
      exact ⟨rfl, b, rfl⟩
    · rename_i k k' ht
      have hk : k = k' := by simpa using h
      subst hk
      obtain ⟨m, rfl, _, hw⟩ := DataW.trod_int ht hx
      exact ⟨rfl, m, rfl, wf_inR hw⟩
    · rename_i ht
      obtain ⟨s, rfl, _, hs⟩ := DataW.trod_string ht hx
      exact ⟨rfl, s, rfl, hs⟩
    · rename_i e te ht
      simp only [Bool.and_eq_true, decide_eq_true_eq] at h
      obtain ⟨hpos, hte⟩ := h
      have hse : P.cellsOf e = te.size := by
        cases n with
        | zero => simp [okTy] at hte
        | succ n =>
          simp only [okTy, Bool.and_eq_true, beq_iff_eq] at hte
          exact hte.1
      rcases DataW.trod_slice ht hx with ⟨rfl, _⟩ | ⟨a, len, cap, elems, rest, m, rfl, rfl, _, _, h1, h2, hel, hget, _⟩
      · exact ⟨rfl, [], none, 0, rfl, Nat.le_refl _, by simp [maxLen], fun i y hy => by simp at hy⟩
      · have hall : ∀ i, i < len → ∃ y, RepT w (oldF w) te y (fun j u => w.cell? (a.add (i * te.size + j)) = some u) ∧ a.block < w.heap.size := fun i hi => by
          have hg := hget i hi
          rw [List.getElem?_eq_getElem (by omega)] at hg
          rw [Option.bind_eq_some_iff] at hg
          obtain ⟨ci, hci, htr⟩ := hg
          rw [hse] at hci
          obtain ⟨hl, y, hy⟩ := trod_rep n e te m ci _ hte htr
          obtain ⟨hcl, hcg⟩ := cells_get hci
          have hc : ∀ j, j < te.size → w.cell? (a.add (i * te.size + j)) = ci[j]? := fun j hj => by
            rw [← add_add]
            exact hcg j hj
          refine ⟨y, RepT.mono (fun _ h => h) (fun _ _ => rfl) (fun j u hj hu => (hc j hj).trans hu) hy, ?_⟩
          have h0 := hc 0 hpos
          rw [List.getElem?_eq_getElem (by omega)] at h0
          have hlt := cell_lt h0
          have : (a.add (i * te.size + 0)).block = a.block := by unfold Addr.add; split <;> rfl
          rwa [this] at hlt
        obtain ⟨l, hl, hq⟩ := list_of (Q := fun i (y : te.den) => RepT w (oldF w) te y (fun j u => w.cell? (a.add (i * te.size + j)) = some u) ∧ a.block < w.heap.size) len hall
        subst hl
        exact ⟨rfl, l, some a, cap, rfl, h1, h2, fun i y hy => ⟨a, rfl, (hq i y hy).2, (hq i y hy).1⟩⟩
    · rename_i ty' fs ht
      simp only [Bool.and_eq_true] at h
      obtain ⟨xs, m, rfl, rfl, hl, hxl, hget⟩ := DataW.trod_struct ht hx
      refine ⟨by omega, ?_⟩
      have := okFs_rep (fuel := m) (fun t ty fuel cs x => trod_rep n t ty fuel cs x) (cs := cs) fs.toList _ 0 h.2 (fun f hf => by
        obtain ⟨i, hi⟩ := List.mem_iff_getElem?.1 hf
        have hi' : fs[i]? = some f := by simpa using hi
        have hlt : i < fs.size := (Array.getElem?_eq_some_iff.1 hi').1
        have hg := hget i f hi'
        rw [List.getElem?_eq_getElem (by omega)] at hg
        exact ⟨_, hg⟩)
      simpa using this
    · rename_i ty' k e ht
      simp only [Bool.and_eq_true] at h
      obtain ⟨m, hm⟩ := trod_arr ht hx
      have hl : cs.length = P.cellsOf t := by
        cases fuel with
        | zero => simp [DataW.trod] at hx
        | succ m =>
          unfold DataW.trod at hx
          rw [ht] at hx
          split at hx <;> simp_all
      refine ⟨by omega, ?_⟩
      have := okAr_rep (fuel := m) (fun t ty fuel cs x => trod_rep n t ty fuel cs x) (cs := cs) k _ 0 h.2 (fun i hi => by simpa using hm i hi)
      simpa using this
    · cases h

/-- A value, as it may come in, reads as typed data. -/
theorem read_rep {n : Nat} {t : TypeId} {ty : Ty} {v : Value} {d : DataW H} {ps : List MemPlace} {r : Reach} {base : Nat} (h : okTy P n t ty = true) (hv : Value.okWide P w r base t v) (hd : DataW.Trod enc P w 0 sp held t v d ps) : ∃ y, RepV w (oldF w) ty y v := by
  obtain ⟨fuel, hf⟩ := hd
  obtain ⟨hl, y, hy⟩ := trod_rep n t ty fuel _ _ h hf
  refine ⟨y, by simpa using hl, ?_, RepT.mono (fun _ h => h) (fun _ _ => rfl) (fun j u hj hu => by simpa using hu) hy⟩
  cases n with
  | zero => simp [okTy] at h
  | succ n =>
    simp only [okTy, Bool.and_eq_true] at h
    replace h := h.2
    unfold Value.okWide at hv
    split at h
    · rename_i ht
      rw [ht] at hv
      simp only [Cell.okWide, ht, Cell.ok] at hv
      refine ⟨fun hw => (by cases hw), fun ⟨cs, hc⟩ => ?_⟩
      subst hc
      exact hv.elim
    · rename_i k k' ht
      rw [ht] at hv
      simp only [Cell.okWide, ht, Cell.ok] at hv
      refine ⟨fun hw => (by cases hw), fun ⟨cs, hc⟩ => ?_⟩
      subst hc
      exact hv.elim
    · rename_i ht
      rw [ht] at hv
      simp only [Cell.okWide, ht, Cell.ok] at hv
      refine ⟨fun hw => (by cases hw), fun ⟨cs, hc⟩ => ?_⟩
      subst hc
      exact hv.elim
    · rename_i e te ht
      rw [ht] at hv
      simp only [Cell.okWide, ht, Cell.ok] at hv
      refine ⟨fun hw => (by cases hw), fun ⟨cs, hc⟩ => ?_⟩
      subst hc
      exact hv.elim
    · rename_i ty' fs ht
      rw [ht] at hv
      simp only [Bool.and_eq_true] at h
      obtain ⟨cs, hc, _⟩ := hv
      exact ⟨fun _ => ⟨cs, hc⟩, fun _ => h.1⟩
    · rename_i ty' k e ht
      rw [ht] at hv
      simp only [Bool.and_eq_true] at h
      obtain ⟨cs, hc, _⟩ := hv
      exact ⟨fun _ => ⟨cs, hc⟩, fun _ => h.1⟩
    · cases h

def okTys (P : Program) : List TypeId → List PT → Bool
  | [], [] => true
  | t :: ts, .d ty :: ps => okTy P 12 t ty && okTys P ts ps
  | _, _ => false

theorem reads_rep {r : Reach} {base : Nat} : {ts : List TypeId} → {ps : List PT} → {vs : List Value} → {ds : List (DataW H)} → {pl : List MemPlace} → okTys P ts ps = true → DataW.TrodAll enc P w 0 sp held ts vs ds pl →
    (∀ (j : Nat) t v, ts[j]? = some t → vs[j]? = some v → Value.okWide P w r base t v) → ∃ xs, RepPs P w (oldF w) ps xs vs
  | [], [], [], [], _, _, _, _ => ⟨(), rfl⟩
  | t :: ts, .d ty :: ps, v :: vs, d :: ds, _, h, ht, hv => by
    simp only [okTys, Bool.and_eq_true] at h
    obtain ⟨p, q, h1, h2, _⟩ := ht
    obtain ⟨y, hy⟩ := read_rep h.1 (hv 0 t v rfl rfl) h1
    obtain ⟨ys, hys⟩ := reads_rep h.2 h2 (fun j t v a b => hv (j + 1) t v a b)
    exact ⟨(y, ys), v, vs, rfl, hy, hys⟩
  | [], _ :: _, _, _, _, h, _, _ => by simp [okTys] at h
  | _ :: _, [], _, _, _, h, _, _ => by simp [okTys] at h
  | _ :: _, .ptr _ :: _, _, _, _, h, _, _ => by simp [okTys] at h
  | _ :: _, .fn _ _ :: _, _, _, _, h, _, _ => by simp [okTys] at h
  | _ :: _, .pf _ _ :: _, _, _, _, h, _, _ => by simp [okTys] at h
  | [], [], _ :: _, _, _, _, h, _ => h.elim
  | [], [], [], _ :: _, _, _, h, _ => h.elim
  | _ :: _, .d _ :: _, [], _, _, _, h, _ => h.elim
  | _ :: _, .d _ :: _, _ :: _, [], _, _, h, _ => h.elim

/-- Arguments read as they did. -/
theorem reads_again (hl : laidOutB P = true) {W' : World} {sp' : Nat → Bool} : {ts : List TypeId} → {vs : List Value} → {ds : List (DataW H)} → {pl : List MemPlace} → (ts.all fun t => P.readableRec t && decide (t < P.types.size)) = true →
    DataW.TrodAll enc P w 0 (fun _ => true) true ts vs ds pl → (∀ p ∈ pl, w.sameAt W' p) → (∀ p ∈ pl, sp' p.block = true) → DataW.TrodAll enc P W' 0 sp' true ts vs ds pl
  | [], [], [], _, _, h, _, _ => h
  | t :: ts, v :: vs, d :: ds, _, hr, h, h1, h2 => by
    simp only [List.all_cons, Bool.and_eq_true, decide_eq_true_eq] at hr
    obtain ⟨p, q, a, b, rfl⟩ := h
    exact ⟨p, q, WideElems.Trod_stays hl hr.1.1 hr.1.2 a (fun x hx => h1 x (by simp [hx])) (fun x hx => h2 x (by simp [hx])), reads_again hl (by simpa using hr.2) b (fun x hx => h1 x (by simp [hx])) (fun x hx => h2 x (by simp [hx])), rfl⟩
  | [], _ :: _, _, _, _, h, _, _ => h.elim
  | [], [], _ :: _, _, _, h, _, _ => h.elim
  | _ :: _, [], _, _, _, h, _, _ => h.elim
  | _ :: _, _ :: _, [], _, _, h, _, _ => h.elim

theorem post_of_below {f : Func} {s : ChangeSpec} {apart fresh handsOn again : Bool} {W W' : World} {args : Array Value} {v : Value} {ds gs : List (DataW H)} {before pa pv : List MemPlace}
    (hW : DataW.Whole enc P f.params.toList s.vars apart W args.toList ds gs before)
    (hres : ∀ (b : Nat) (sp : Nat → Bool) (hd : Bool), DataW.TrodAll enc P W' b sp hd f.resultTypes.toList (v.resultList f.resultTypes.size) (s.fn H (ds ++ gs)).results [])
    (hargs : ∀ sp : Nat → Bool, (∀ p ∈ before, sp p.block = true) → DataW.TrodAll enc P W' 0 sp true f.params.toList args.toList (s.fn H (ds ++ gs)).args pa)
    (hvars : ∀ sp : Nat → Bool, (∀ p ∈ before, sp p.block = true) → DataW.TrodVars enc P W' sp s.vars (s.fn H (ds ++ gs)).vars pv)
    (hps : before = pa ++ pv) (hb : Below W.heap.size W W')
    (hok : ∀ (j : Nat) (t : TypeId) (r : Value), f.resultTypes[j]? = some t → (v.resultList f.resultTypes.size)[j]? = some r → Value.okWide P W' .any 0 t r) :
    s.post enc P f apart fresh handsOn again W args v W' := by
  have hlt : ∀ p ∈ before, p.block < W.heap.size := fun p hp => hW.lt p hp
  have hold : ∀ p ∈ before, (fun b => decide (b < W.heap.size)) p.block = true := fun p hp => by simpa using hlt p hp
  refine ⟨ds, gs, before, [], pa, pv, hW, hres _ _ _, hargs _ hold, hvars _ hold, World.keptBut_mono (fun p hp => ⟨hp, ?_⟩) (hb.frame (· ∈ before)), fun _ => ?_⟩
  · rw [hps, List.mem_append] at hp
    exact Or.inr hp
  · obtain ⟨_, _, _, _, _, hz, hn⟩ := hW
    refine ⟨hok, _, _, ([] ++ pa) ++ pv, ⟨[] ++ pa, pv, trodAll_append (hargs _ (fun _ _ => rfl)) (hres _ _ _), hvars _ (fun _ _ => rfl), rfl, ?_, ?_⟩, ?_⟩
    · intro b off hp
      have hin : MemPlace.cell b off ∈ before := by rw [hps]; simpa using hp
      rw [hb.frozen (hlt _ hin)]
      exact hz b off hin
    · intro ha
      have := hn ha
      rw [hps] at this
      simpa using this
    · intro p hp _
      rw [hps]
      simpa using hp

/-- A law's row: what the contract of its function gives. -/
theorem law_contract {fid : FuncId} {f : Func} {s : ChangeSpec} {ps : List PT} {apart fresh handsOn again : Bool} {tb : TypeId} (hl : laidOutB P = true) (hr : (f.params.toList.all fun t => P.readableRec t && decide (t < P.types.size)) = true) (hty : okTys P f.params.toList ps = true)
    (hvars : s.vars = []) (hrt : f.resultTypes = #[tb]) (htb : P.underlying tb = some .bool) (hs : ∀ ds : List (DataW H), ds.length = f.params.size → s.fn H ds = { results := [.lit (.bool true)], args := ds })
    (hc : SoundCt P fid ⟨ps, [.bool], fun _ => (true, ()), fun _ => []⟩) (W : World) (base : Nat) (args : Array Value) (ds gs : List (DataW H)) (before : List MemPlace)
    (hval : ∀ (j : Nat) t v, f.params[j]? = some t → args[j]? = some v → Value.okWide P W .any base t v)
    (hW : DataW.Whole enc P f.params.toList s.vars apart W args.toList ds gs before) :
    Calls P fid args W fun e W' => ∃ v, e = .returned v ∧ s.post enc P f apart fresh handsOn again W args v W' := by
  have hW' := hW
  obtain ⟨p, q, hA, hV, rfl, hfz, hnd⟩ := hW
  rw [hvars] at hV
  obtain ⟨rfl, rfl⟩ := trodVars_none hV
  obtain ⟨xs, hxs⟩ := reads_rep (r := .any) (base := base) hty hA (fun j t v a b => hval j t v (by simpa using a) (by simpa using b))
  have hcalls := hc.2 W (oldF W) xs args.toList (fun b hb => hb) hxs trivial
  refine hcalls.mono ?_
  rintro e W' ⟨v, F', rfl, hbel, _, _, hv⟩
  have hv' : RepA P W' F' (fun _ _ => True) (encV .bool true) v := encV_rep hv
  have hvb : v = .bool true := hv'.2
  subst hvb
  refine ⟨_, rfl, ?_⟩
  have hlen : (ds ++ []).length = f.params.size := by
    have := trodAll_length hA
    simp [this.2]
  have hsf := hs (ds ++ []) hlen
  have hlt : ∀ x ∈ p, x.block < W.heap.size := fun x hx => hW'.lt x (by simp [hx])
  refine post_of_below (pa := p) (pv := []) hW' (fun b sp hd => ?_) (fun sp hsp => ?_) (fun sp _ => ?_) (by simp) hbel (ok_one hrt rfl (okWide_bool_mk htb true))
  · rw [hrt, hsf]
    exact trodAll_mk1 (shut_bool htb true)
  · rw [hsf]
    simp only [List.append_nil]
    exact reads_again hl hr hA (fun x hx => hbel.same (hlt x hx)) (fun x hx => hsp x (by simp [hx]))
  · rw [hvars, hsf]
    rfl

end
end Go.Ab
