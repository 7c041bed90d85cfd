/-
  An interpreter over the code of a program, proved sound: part E.
-/
import Derived.Test.YtbplccbjgfappaaAbD
import Derived.IntWalk
/-
  Functions that write rows of their caller's own.
-/
namespace Go.Ab
open Go Go.RowKit

/-- No list in it. -/
def Ty.flat : Ty → Bool
  | .sl _ => false
  | .fm _ => false
  | .pair a b => a.flat && b.flat
  | _ => true

section
variable {P : Program} {B : Nat} {w w' : World} {E : Env} {F F' : Nat → Prop} {γ γ' : Nat → Value} {m : Mem}

theorem RepT.flat : {t : Ty} → t.flat = true → {x : t.den} → {g : Nat → Value → Prop} → RepT w F t x g → RepT w' F' t x g
  | .int _, _, _, _, h => h
  | .bool, _, _, _, h => h
  | .str, _, _, _, h => h
  | .unit, _, _, _, h => h
  | .sl _, hf, _, _, _ => by simp [Ty.flat] at hf
  | .fm _, hf, _, _, _ => by simp [Ty.flat] at hf
  | .pair a b, hf, _, _, h => by
    simp only [Ty.flat, Bool.and_eq_true] at hf
    exact ⟨RepT.flat hf.1 h.1, RepT.flat hf.2 h.2⟩

theorem RepV.flat {t : Ty} (hf : t.flat = true) {x : t.den} {v : Value} (h : RepV w F t x v) : RepV w' F' t x v := ⟨h.1, h.2.1, h.2.2.flat hf⟩

theorem RepVs.flat : {ts : List Ty} → ts.all Ty.flat = true → {x : denL ts} → {vs : List Value} → RepVs w F ts x vs → RepVs w' F' ts x vs
  | [], _, _, _, h => h
  | t :: r, hf, _, _, ⟨v, vs', h1, h2, h3⟩ => by
    simp only [List.all_cons, Bool.and_eq_true] at hf
    exact ⟨v, vs', h1, h2.flat hf.1, RepVs.flat hf.2 h3⟩

theorem RepR.flat : {ts : List Ty} → ts.all Ty.flat = true → {x : denL ts} → {v : Value} → RepR w F ts x v → RepR w' F' ts x v
  | [], hf, _, _, ⟨vs, h1, h2⟩ => ⟨vs, h1, RepVs.flat hf h2⟩
  | [t], hf, _, _, h => by
    simp only [List.all_cons, Bool.and_eq_true] at hf
    exact RepV.flat hf.1 h
  | t :: t' :: r, hf, _, _, ⟨vs, h1, h2⟩ => ⟨vs, h1, RepVs.flat hf h2⟩

theorem RowsL.flat {t : Ty} (hf : t.flat = true) {l : List t.den} {xs : List Value} (h : RowsL w F t l xs) : RowsL w' F' t l xs := fun i x hi => (h i x hi).flat hf

theorem ownsRow_base {B B' : Nat} {e : TypeId} {size n : Nat} {v : Value} {xs : List Value} (h : w.ownsRow B e size v n xs) (hb : ∀ g, v.ownBlock = some g → B' ≤ g) : w.ownsRow B' e size v n xs := by
  refine ⟨h.1, h.2.imp id ?_⟩
  rintro ⟨g, cap, cur, rfl, _, rest⟩
  exact ⟨g, cap, cur, rfl, hb g rfl, rest⟩

/-- A function whose first argument is rows of the caller's own: what it answers, and what it makes of the rows. -/
structure Mt where
  e : TypeId
  T : Ty
  ps : List PT
  rs : List Ty
  f : List T.den → denP ps → List T.den × denL rs
  ok : List T.den → denP ps → List Prop

def MtPost (w : World) (mt : Mt) (v : Value) (y : List mt.T.den × denL mt.rs) (e : Ending) (w' : World) : Prop :=
  ∃ u rows, e = .returned u ∧ w.grownBy w' v.ownBlock ∧ w'.ownsRow 0 mt.e mt.T.size v y.1.length rows ∧ RowsL w' (fun _ => False) mt.T y.1 rows ∧ (∀ u ∈ rows, u.oneCell' = true) ∧ RepR w' (fun _ => False) mt.rs y.2 u

/-- The function meets it. -/
structure SoundMt (P : Program) (f : FuncId) (mt : Mt) : Prop where
  flat : mt.T.flat = true
  flats : mt.rs.all Ty.flat = true
  enters : ∀ args w, (callFunc f args).run P w = .ok (.enter f args) w
  calls : ∀ (w : World) (F : Nat → Prop) (l : List mt.T.den) (xs : denP mt.ps) (v : Value) (vs rows : List Value), (∀ b, F b → b < w.heap.size) → w.ownsRow 0 mt.e mt.T.size v l.length rows → (∀ g, v.ownBlock = some g → ¬ F g) →
    RowsL w F mt.T l rows → (∀ u ∈ rows, u.oneCell' = true) → v.oneCell' = true → RepPs P w F mt.ps xs vs → conj (mt.ok l xs) → Calls P f (v :: vs).toArray w (MtPost w mt v (mt.f l xs))

/-- A call of it. -/
def mtK (Γ : FuncId → Option Ct) (f : FuncId) (mt : Mt) (_d : Nat) (g : FuncId) (args : List AV) (s : St) : Option Tr :=
  if g = f then match args with
    | .c (.own id) :: rest => match rsAs s.mem rest with
      | some (xs, u) => match upds s.mem u id with
        | some (.arr e t l) => if h : t = mt.T then if e = mt.e then match decPs Γ mt.ps xs with
            | some (x, n) => some (needL (n ++ mt.ok (castL h l) x) (.leaf (.val (encR mt.rs (mt.f (castL h l) x).2)) ⟨s.n, s.sl, upd (upds s.mem u) id (.arr mt.e mt.T (mt.f (castL h l) x).1), s.gs⟩))
            | none => none
          else none else none
        | _ => none
      | none => none
    | _ => none
  else none

theorem mtK_ok {Γ : FuncId → Option Ct} (hΓ : ∀ f ct, Γ f = some ct → SoundCt P f ct) {f : FuncId} {mt : Mt} (h : SoundMt P f mt) : InlOK P (mtK Γ f mt) := by
  intro d g args s t ht
  unfold mtK at ht
  split at ht <;> try (cases ht; done)
  rename_i hg
  subst hg
  split at ht <;> try (cases ht; done)
  rename_i id rest
  split at ht <;> try (cases ht; done)
  rename_i xs u hrs
  split at ht <;> try (cases ht; done)
  rename_i e ty l hm1
  split at ht <;> try (cases ht; done)
  rename_i hty
  split at ht <;> try (cases ht; done)
  rename_i hee
  split at ht <;> try (cases ht; done)
  rename_i x n hdec
  simp only [Option.some.injEq] at ht
  subst ht
  subst hty
  subst hee
  refine ⟨h.enters, fun E a w F γ vs Q hi hr hq => ?_⟩
  obtain ⟨hn, hqv⟩ := needL_sat _ hq
  obtain ⟨hn1, hn2⟩ := conj_append.1 hn
  cases vs with
  | nil => exact hr.elim
  | cons v vs =>
    obtain ⟨⟨hone, hv⟩, hr⟩ := hr
    obtain ⟨F1, s1, m1, _, r1⟩ := rsAs_sound hi.mem (inv_bd hi) (SubM.of fun _ _ h => h) hrs hr
    have hps := decPs_rep hΓ hdec hn1 r1
    have hv1 : v = γ id := by
      have h2 : refOK (upds s.mem u) γ id v := s1.hR id v hv
      simpa [refOK, hm1] using h2
    obtain ⟨rows, o1, o2, o3, o4⟩ := m1.ob id _ hm1
    rw [← hv1] at o1 o2
    have hblk : ∀ g, v.ownBlock = some g → E.B ≤ g ∧ g < w.heap.size := fun g hg => o1.lt g hg
    have hc := h.calls w F1 l x v vs rows s1.bd (ownsRow_base o1 (fun _ _ => Nat.zero_le _)) o2 o3 o4 hone hps hn2
    refine hc.mono fun en w2 hp => ?_
    obtain ⟨u2, rows2, rfl, hgr, p1, p2, p3, p4⟩ := hp
    have hkeep : ∀ b, b < w.heap.size → v.ownBlock ≠ some b → w2.heap[b]? = w.heap[b]? := fun b hb hne => hgr.block b hb (fun h => hne h.symm)
    have hBs := Step.size' hi
    have hR : ∀ i v', refOK (upds s.mem u) γ i v' → refOK (upd (upds s.mem u) id (.arr mt.e mt.T (mt.f l x).1)) γ i v' := fun i v' hv' => by
      unfold refOK at hv' ⊢
      by_cases hii : i = id
      · subst hii
        rw [hm1] at hv'
        simpa [upd] using hv'
      · simpa [upd, hii] using hv'
    have s2 : Step E.B w F1 γ (upds s.mem u) w2 F1 γ (upd (upds s.mem u) id (.arr mt.e mt.T (mt.f l x).1)) :=
      ⟨fun _ h => h, fun b hb => hkeep b (s1.bd b hb) (fun h => o2 b h hb), hR, fun b hb => hkeep b (by omega) (fun h => by have := (hblk b h).1; omega),
       hgr.os, hgr.tape, hgr.output, hgr.size, fun b hb => Nat.lt_of_lt_of_le (s1.bd b hb) hgr.size, fun b hb => .inl hb⟩
    have hex : ∀ i o, upd (upds s.mem u) id (.arr mt.e mt.T (mt.f l x).1) i = some o → ∃ o0, upds s.mem u i = some o0 ∧ exB o0 (γ i) = exB o (γ i) := fun i o ho => by
      by_cases hii : i = id
      · subst hii
        simp only [upd, if_true, Option.some.injEq] at ho
        subst ho
        exact ⟨_, hm1, rfl⟩
      · simp only [upd, if_neg hii] at ho
        exact ⟨o, ho, rfl⟩
    have m2 : MemOK P E.B w2 F1 γ (upd (upds s.mem u) id (.arr mt.e mt.T (mt.f l x).1)) := by
      refine ⟨fun i o ho => ?_, fun i j oi oj b hij hoi hoj hb hb' => ?_⟩
      · by_cases hii : i = id
        · subst hii
          simp only [upd, if_true, Option.some.injEq] at ho
          subst ho
          rw [← hv1]
          exact ⟨rows2, ownsRow_base p1 (fun g hg => (hblk g hg).1), o2, p2.flat h.flat, p3⟩
        · simp only [upd, if_neg hii] at ho
          refine (m1.ob i o ho).keep (fun _ h => h) (fun b hb => hkeep b (s1.bd b hb) (fun h => o2 b h hb)) hR fun b hb => ?_
          obtain ⟨l1, l2, _⟩ := exB_lt (m1.ob i o ho) hb
          refine ⟨hkeep b l1 (fun hvb => ?_), l2⟩
          exact m1.apart i id o _ b hii ho hm1 hb (by rw [← hv1]; exact hvb)
      · obtain ⟨oi0, a1, a2⟩ := hex i oi hoi
        obtain ⟨oj0, b1, b2⟩ := hex j oj hoj
        exact m1.apart i j oi0 oj0 b hij a1 b1 (a2.trans hb) (b2.trans hb')
    have s3 := s1.trans s2
    have hinv : InvG P E ⟨s.n, s.sl, upd (upds s.mem u) id (.arr mt.e mt.T (mt.f l x).1), s.gs⟩ a w2 [] F1 γ := by
      refine ⟨hi.n, hi.df, ?_, m2, fun t => (hi.sl t).mono s3.hF s3.hw s3.hR, hi.hg, fun t => s3.repA (hi.gh t)⟩
      obtain ⟨γ0, h0⟩ := hi.step
      exact ⟨γ0, h0.trans s3⟩
    exact ⟨.val (encR mt.rs (mt.f l x).2), _, F1, γ, hqv, hinv, u2, rfl, encR_rep (p4.flat h.flats)⟩

/-! ### Such a function, from its code -/

def startMt (n : Nat) (e : TypeId) (T : Ty) (l : List T.den) (args : List AV) : St :=
  ⟨n, fun i => (AV.c (.own (oid 0)) :: args).getD i .dead, fun i => if i = oid 0 then some (.arr e T l) else none, fun i => if i = 0 then .c (.own (oid 0)) else .dead⟩

def endM (P : Program) (rv : List ResultVar) (e : TypeId) (T : Ty) (rs : List Ty) (s : St) : Option (Fr (List T.den × denL rs)) :=
  match s.gs 0 with
  | .c (.own k) => match s.mem k with
    | some (.arr e' t l) => if h : t = T then if e' = e then match resAs P s rv with
        | some (vs, n) => match rsAs s.mem vs with
          | some (xs, _) => match decVs rs xs with
            | some y => some (Fr.needL n (.val (castL h l, y)))
            | none => none
          | none => none
        | none => none
      else none else none
    | _ => none
  | _ => none

def frM (P : Program) (rv : List ResultVar) (e : TypeId) (T : Ty) (rs : List Ty) : Tr → Option (Fr (List T.den × denL rs))
  | .leaf .ret s => endM P rv e T rs s
  | .leaf .normal s => endM P rv e T rs s
  | .leaf _ _ => none
  | .br b x y => match frM P rv e T rs x, frM P rv e T rs y with
    | some x', some y' => some (.br b x' y')
    | _, _ => none
  | .need p x => match frM P rv e T rs x with
    | some x' => some (.need p x')
    | none => none
  | .two p x y => match frM P rv e T rs x, frM P rv e T rs y with
    | some x', some y' => some (.need (p → x'.ok ∧ x'.get = y'.get) y')
    | _, _ => none

theorem frM_sat {rv : List ResultVar} {e : TypeId} {T : Ty} {rs : List Ty} : {t : Tr} → {f : Fr (List T.den × denL rs)} → frM P rv e T rs t = some f → f.ok → t.sat fun x s => (x = .ret ∨ x = .normal) ∧ ∃ n, endM P rv e T rs s = some (Fr.needL n (.val f.get)) ∧ conj n
  | .leaf x s, f, h, hok => by
    have key : endM P rv e T rs s = some f → ∃ n, endM P rv e T rs s = some (Fr.needL n (.val f.get)) ∧ conj n := fun h => by
      have h0 := h
      unfold endM at h
      split at h <;> try (cases h; done)
      split at h <;> try (cases h; done)
      split at h <;> try (cases h; done)
      split at h <;> try (cases h; done)
      split at h <;> try (cases h; done)
      split at h <;> try (cases h; done)
      split at h <;> try (cases h; done)
      simp only [Option.some.injEq] at h
      subst h
      refine ⟨_, ?_, (needL_ok _ hok).1⟩
      rw [needL_get]
      exact h0
    cases x with
    | exit i => simp [frM] at h
    | panic i => simp [frM] at h
    | val i => simp [frM] at h
    | jump i => simp [frM] at h
    | normal => exact ⟨.inr rfl, key h⟩
    | ret => exact ⟨.inl rfl, key h⟩
  | .br b x y, f, h, hok => by
    simp only [frM] at h
    split at h <;> try (cases h; done)
    rename_i x' y' hx hy
    simp only [Option.some.injEq] at h
    subst h
    refine ⟨fun hb => ?_, fun hb => ?_⟩
    · have := frM_sat hx (hok.1 hb)
      simpa only [Fr.get, hb, if_true] using this
    · have := frM_sat hy (hok.2 hb)
      simpa only [Fr.get, hb, Bool.false_eq_true, if_false] using this
  | .need p x, f, h, hok => by
    simp only [frM] at h
    split at h <;> try (cases h; done)
    rename_i x' hx
    simp only [Option.some.injEq] at h
    subst h
    have := frM_sat hx hok.2
    exact ⟨hok.1, this⟩
  | .two p x y, f, h, hok => by
    simp only [frM] at h
    split at h <;> try (cases h; done)
    rename_i x' y' hx hy
    simp only [Option.some.injEq] at h
    subst h
    have h2 := frM_sat hy hok.2
    refine ⟨fun hp => ?_, h2⟩
    have := frM_sat hx (hok.1 hp).1
    rwa [(hok.1 hp).2] at this

/-- A function as the program has it. -/
def runMt (P : Program) (C : Cx) (Λ : Nat → St → Option Tr) (fn : Func) (e : TypeId) (T : Ty) (ps : List PT) (rs : List Ty) (l : List T.den) (xs : denP ps) : Option (Fr (List T.den × denL rs)) :=
  match fn.body with
  | some c => if (fn.name == "runtime.NumGoroutine") = false ∧ ps.length + 1 ≤ fn.ntmps then match codeA P C 0 Λ c 0 (startMt fn.ntmps e T l (encPs ps xs)) with
      | some t => frM P fn.results.toList e T rs t
      | none => none
    else none
  | none => none

theorem mt_sound {C : Cx} (hC : CxOK P C) {Λ : Nat → St → Option Tr} {f : FuncId} {fn : Func} {e : TypeId} {T : Ty} {ps : List PT} {rs : List Ty} {fr : List T.den → denP ps → Fr (List T.den × denL rs)} (x0 : denP ps)
    (hf : P.funcs[f]? = some fn) (hT : T.flat = true) (hTs : rs.all Ty.flat = true) (hΛ : ∀ c E, fn.body = some c → LamOK P E Λ c 0) (hrun : ∀ l xs, runMt P C Λ fn e T ps rs l xs = some (fr l xs)) :
    SoundMt P f ⟨e, T, ps, rs, fun l xs => (fr l xs).get, fun l xs => [(fr l xs).ok]⟩ := by
  have h0 := hrun [] x0
  unfold runMt at h0
  split at h0 <;> try (cases h0; done)
  rename_i c hb
  split at h0 <;> try (cases h0; done)
  rename_i hc
  refine ⟨hT, hTs, enters hf hb hc.1, fun w F l xs v vs rows hbd hown hnF hrows hcell hone hr hok => calls_of_wp hf hb ?_⟩
  have hr' := hrun l xs
  unfold runMt at hr'
  simp only [hb, hc, and_self, if_true] at hr'
  split at hr' <;> try (cases hr'; done)
  rename_i t ht
  have hlen : vs.length = ps.length := repPs_len hr
  have hFb : ∀ b, F b → (b < w.heap.size ∧ v.ownBlock ≠ some b) := fun b hb => ⟨hbd b hb, fun h => hnF b h hb⟩
  have hps : RepPs P w (fun b => b < w.heap.size ∧ v.ownBlock ≠ some b) ps xs vs := RepPs.mono hFb (fun _ _ => rfl) hr
  have hargs : ∀ R : Nat → Value → Prop, R (oid 0) v → Reps P w (fun b => b < w.heap.size ∧ v.ownBlock ≠ some b) R (AV.c (.own (oid 0)) :: encPs ps xs) (v :: vs) := fun R hR => ⟨⟨hone, hR⟩, encPs_rep hps⟩
  have hstart : I P ⟨w, fun b => b < w.heap.size ∧ v.ownBlock ≠ some b, fun _ => v, [], 0, Nat.zero_le _⟩ (startMt fn.ntmps e T l (encPs ps xs)) { tmps := (v :: vs).toArray ++ Array.replicate (fn.ntmps - (v :: vs).length) undef, defers := [] } w := by
    refine ⟨_, fun _ => v, ?_, rfl, ⟨fun _ => undef, ⟨fun _ h => h, fun _ _ => rfl, fun _ _ h => h.elim, fun b hb => absurd hb (Nat.not_lt_zero b), rfl, rfl, rfl, Nat.le_refl _, fun b hb => hb.1, fun b hb => .inl hb⟩⟩, ⟨fun id o ho => ?_, fun i j oi oj b hij hi hj => ?_⟩, fun t => ?_, fun t g want v ht => ?_, fun t => ?_⟩
    · show _ = fn.ntmps
      simp only [Array.size_append, List.size_toArray, Array.size_replicate, List.length_cons]
      omega
    · have ho' : (if id = oid 0 then some (Ob.arr e T l) else none) = some o := ho
      split at ho'
      · simp only [Option.some.injEq] at ho'
        subst ho'
        exact ⟨rows, hown, fun g hg h => h.2 hg, hrows.flat hT, hcell⟩
      · cases ho'
    · have hi' : (if i = oid 0 then some (Ob.arr e T l) else none) = some oi := hi
      have hj' : (if j = oid 0 then some (Ob.arr e T l) else none) = some oj := hj
      split at hi'
      · split at hj'
        · rename_i h1 h2
          exact absurd (h1.trans h2.symm) hij
        · cases hj'
      · cases hi'
    · have hg : ((v :: vs).toArray ++ Array.replicate (fn.ntmps - (v :: vs).length) undef).getD t undef = (v :: vs).getD t undef := by
        simp only [Array.getD_eq_getD_getElem?, List.getD_eq_getElem?_getD]
        rcases Nat.lt_or_ge t (v :: vs).length with hlt | hge
        · rw [Array.getElem?_append_left (by simpa using hlt)]
          simp
        · rw [Array.getElem?_append_right (by simpa using hge), List.getElem?_eq_none hge]
          simp only [Array.getElem?_replicate]
          split <;> rfl
      show SlotOK P w _ _ _ ((AV.c (.own (oid 0)) :: encPs ps xs).getD t .dead) (((v :: vs).toArray ++ Array.replicate (fn.ntmps - (v :: vs).length) undef).getD t undef)
      rw [hg]
      exact repA_slot (reps_get (hargs _ (by simp [refOK, startMt])) t)
    · exfalso
      have := reps_get (hargs (fun _ _ => True) trivial) t
      have ht' : (AV.c (.own (oid 0)) :: encPs ps xs).getD t .dead = .maybe g want v := ht
      rw [ht'] at this
      exact this
    · show RepA P w _ _ (if t = 0 then .c (.own (oid 0)) else .dead) v
      split
      · exact ⟨hone, by simp [RepC, refOK, startMt]⟩
      · trivial
  have hwp := codeA_sound hC c 0 (hΛ c _ hb) ht (frM_sat hr' hok) hstart
  have hsz : ((v :: vs).toArray).size = (v :: vs).length := by simp
  rw [hsz]
  refine wp_mono hwp ?_
  rintro ex a' w' ⟨xe, s, rfl, ⟨F', γ', hi⟩, hxe, n, hend, hnn⟩
  have hfin : a'.defers = [] ∧ ∃ u, (results fn a'.tmps).run P w' = .ok u w' ∧ MtPost w ⟨e, T, ps, rs, fun l xs => (fr l xs).get, fun l xs => [(fr l xs).ok]⟩ v (fr l xs).get (.returned u) w' := by
    unfold endM at hend
    split at hend <;> try (cases hend; done)
    rename_i k hgs
    split at hend <;> try (cases hend; done)
    rename_i e' t' l' hmk
    split at hend <;> try (cases hend; done)
    rename_i hty
    split at hend <;> try (cases hend; done)
    rename_i hee
    split at hend <;> try (cases hend; done)
    rename_i avs n' hres
    split at hend <;> try (cases hend; done)
    rename_i axs u hrs
    split at hend <;> try (cases hend; done)
    rename_i y hdec
    simp only [Option.some.injEq] at hend
    obtain ⟨hn', hy⟩ := needL_inj hend hnn
    subst hty
    subst hee
    obtain ⟨us, hran, hreps⟩ := res_run hi hres hn'
    obtain ⟨F'', hs, hm', _, hxs⟩ := rsAs_sound hi.mem (inv_bd hi) (SubM.of fun _ _ h => h) hrs hreps
    obtain ⟨γ0, h1⟩ := hi.step
    have hgv : v = γ' k := by
      have h2 := hi.gh 0
      rw [hgs] at h2
      have h3 : refOK s.mem γ' k v := h2.2
      simpa [refOK, hmk] using h3
    obtain ⟨rows2, q1, q2, q3, q4⟩ := hi.mem.ob k _ hmk
    rw [← hgv] at q1
    refine ⟨hi.df, _, results_run hran, _, rows2, rfl, ⟨h1.os, h1.tape, h1.output, h1.size, fun b hb hne => h1.hw b ⟨hb, fun h => hne h.symm⟩⟩, ?_, ?_, q4, ?_⟩
    · rw [← hy]
      exact q1
    · rw [← hy]
      exact q3.flat hT
    · rw [← hy]
      exact (repR_of (decVs_rep hdec hxs)).flat hTs
  rcases hxe with rfl | rfl
  · exact hfin
  · exact hfin

theorem rowsL_wf {t : Ty} {l : List t.den} {xs : List Value} (h : RowsL w F t l xs) : ∀ x ∈ l, Wf t x := fun x hx => by
  obtain ⟨i, hi, rfl⟩ := List.mem_iff_getElem.1 hx
  exact RepT.wf (h i _ (List.getElem?_eq_getElem hi))

theorem ownsRow_len {e : TypeId} {size n : Nat} {v : Value} {xs : List Value} (h : w.ownsRow B e size v n xs) : n ≤ maxLen := by
  rcases h.2 with ⟨_, rfl⟩ | ⟨g, cap, cur, _, _, _, h1, h2, _⟩
  · exact Nat.zero_le _
  · exact Nat.le_trans h1 h2

/-- To a nicer specification. -/
theorem convMt {f : FuncId} {mt : Mt} (h : SoundMt P f mt) (g : List mt.T.den → denP mt.ps → List mt.T.den × denL mt.rs) (ok : List mt.T.den → denP mt.ps → List Prop)
    (hg : ∀ w F l xs vs, RepPs P w F mt.ps xs vs → l.length ≤ maxLen → (∀ x ∈ l, Wf mt.T x) → conj (ok l xs) → conj (mt.ok l xs) ∧ mt.f l xs = g l xs) : SoundMt P f ⟨mt.e, mt.T, mt.ps, mt.rs, g, ok⟩ := by
  refine ⟨h.flat, h.flats, h.enters, fun w F l xs v vs rows hb ho hn hr hc h1 hp hok => ?_⟩
  obtain ⟨h2, h3⟩ := hg w F l xs vs hp (ownsRow_len ho) (rowsL_wf hr) hok
  have := h.calls w F l xs v vs rows hb ho hn hr hc h1 hp h2
  rw [h3] at this
  exact this

end
end Go.Ab

/-
  Loops over lists, element by element.
-/
namespace Go.Ab
open Go Go.RowKit

/-- Over a list, until one element ends it. -/
def goL {T σ ρ : Type} (step : T → σ → Fr (σ ⊕ ρ)) : List T → σ → σ ⊕ ρ
  | [], s => .inl s
  | x :: r, s => match (step x s).get with
    | .inl s' => goL step r s'
    | .inr y => .inr y

def okL {T σ ρ : Type} (step : T → σ → Fr (σ ⊕ ρ)) : List T → σ → Prop
  | [], _ => True
  | x :: r, s => (step x s).ok ∧ match (step x s).get with
    | .inl s' => okL step r s'
    | .inr _ => True

/-- Over a list, to its end. -/
def goF {T σ : Type} (step : T → σ → Fr σ) : List T → σ → σ
  | [], s => s
  | x :: r, s => goF step r (step x s).get

def okF {T σ : Type} (step : T → σ → Fr σ) : List T → σ → Prop
  | [], _ => True
  | x :: r, s => (step x s).ok ∧ okF step r (step x s).get

def isL {σ ρ : Type} : σ ⊕ ρ → Bool
  | .inl _ => true
  | .inr _ => false
def getL {σ ρ : Type} (d : σ) : σ ⊕ ρ → σ
  | .inl s => s
  | .inr _ => d
def getR {σ ρ : Type} (d : ρ) : σ ⊕ ρ → ρ
  | .inl _ => d
  | .inr y => y

def Rd.up {X Y Z : Type} : Rd Empty Y Z → Rd X Y Z
  | .next x => nomatch x
  | .out y => .out y
  | .back z => .back z
  | .pan p => .pan p

def dfL : (ts : List Ty) → denL ts
  | [] => ()
  | t :: r => (t.dflt, dfL r)
def dfP : (ps : List PT) → denP ps
  | [] => ()
  | .d t :: r => (t.dflt, dfP r)
  | .ptr t :: r => (t.dflt, dfP r)
  | .fn _ rs :: r => (fun _ => dfL rs, dfP r)
  | .pf _ rs :: r => ((fun _ => dfL rs, fun _ => False), dfP r)
def dfY : (fs : List YF) → denY fs
  | [] => ()
  | (some _, _) :: r => ([], dfY r)
  | (none, t) :: r => (t.dflt, dfY r)
def dfM : (ms : List MI) → denM ms
  | [] => ()
  | .o _ _ _ :: r => ([], dfM r)
  | .x _ _ ty :: r => (ty.dflt, dfM r)
  | .r _ _ _ :: r => dfM (r)
  | .y _ _ fs :: r => (dfY fs, dfM r)
  | .g _ _ _ :: r => dfM (r)
  | .al _ _ :: r => dfM (r)

section
variable {P : Program} {c : Code} {L Eo R : LS} {n id : Nat} {T σ ρ : Type}

/-- Where a loop over a list stands: in bounds. -/
structure InL (good : Prop) (u : Int × List T × σ) : Prop where
  good : good
  lo : 0 ≤ u.1
  hi : u.1 ≤ u.2.1.length
  big : (u.2.1.length : Int) ≤ 9223372036854775807

def FL (step : T → σ → Fr (σ ⊕ ρ)) (un : L.X → Int × List T × σ) (good : L.X → Prop) (outO : σ → Eo.X) (outR : ρ → Rd Empty Eo.X R.X) (d : σ) (d2 : ρ) (x : L.X) : Fr (Rd L.X Eo.X R.X) :=
  Fr.need (InL (good x) (un x)) (Fr.need (okL step ((un x).2.1.drop (un x).1.toNat) (un x).2.2)
    (Fr.br (isL (goL step ((un x).2.1.drop (un x).1.toNat) (un x).2.2)) (Fr.val (Rd.out (outO (getL d (goL step ((un x).2.1.drop (un x).1.toNat) (un x).2.2)))))
      (Fr.val (Rd.up (outR (getR d2 (goL step ((un x).2.1.drop (un x).1.toNat) (un x).2.2)))))))

theorem Does.list {fr : L.X → Fr (Rd L.X Eo.X R.X)} (h : Does P c L ⟨n, id, L, Eo, R⟩ fr) (step : T → σ → Fr (σ ⊕ ρ)) (un : L.X → Int × List T × σ) (good : L.X → Prop) (outO : σ → Eo.X) (outR : ρ → Rd Empty Eo.X R.X) (d : σ) (d2 : ρ)
    (hround : ∀ x, good x → 0 ≤ (un x).1 → (un x).1 < (un x).2.1.length → ((un x).2.1.length : Int) ≤ 9223372036854775807 → ∀ e, (un x).2.1[(un x).1.toNat]? = some e → ∀ Q : Rd L.X Eo.X R.X → Prop,
      (step e (un x).2.2).satP (fun
        | .inl s' => ∀ x', un x' = ((un x).1 + 1, (un x).2.1, s') → good x' → Q (.next x')
        | .inr y => Q (Rd.up (outR y))) → (fr x).satP Q)
    (hend : ∀ x, good x → ¬ (un x).1 < (un x).2.1.length → ∀ Q : Rd L.X Eo.X R.X → Prop, Q (.out (outO (un x).2.2)) → (fr x).satP Q) :
    Does P (.loop c) L ⟨n, id, L, Eo, R⟩ (FL step un good outO outR d d2) := by
  refine Does.loop (n := n) (id := id) h (inv := fun x => InL (good x) (un x)) (μ := fun x => (((un x).2.1.length : Int) - (un x).1).toNat) ?_ (fun x Q hq => hq.1)
  intro x hx Q hq
  obtain ⟨_, hok, hq1, hq2⟩ := hq
  by_cases hi : (un x).1 < (un x).2.1.length
  · have hlo := hx.lo
    have hbig := hx.big
    have hl : (un x).1.toNat < (un x).2.1.length := by omega
    have e1 : (un x).2.1.drop (un x).1.toNat = (un x).2.1[(un x).1.toNat] :: (un x).2.1.drop ((un x).1.toNat + 1) := List.drop_eq_getElem_cons hl
    have hn : ((un x).1 + 1).toNat = (un x).1.toNat + 1 := by omega
    rw [e1] at hok hq1 hq2
    generalize he : (un x).2.1[(un x).1.toNat] = e at hok hq1 hq2
    have he' : (un x).2.1[(un x).1.toNat]? = some e := by rw [List.getElem?_eq_getElem hl, he]
    refine hround x hx.good hlo hi hbig e he' _ (Fr.satP_of hok.1 ?_)
    have hok2 := hok.2
    simp only [goL] at hq1 hq2
    cases hg : (step e (un x).2.2).get with
    | inl s' =>
      simp only [hg] at hok2 hq1 hq2
      intro x' hun hgd
      have e2 : (un x').1 = (un x).1 + 1 := by rw [hun]
      have e3 : (un x').2.1 = (un x).2.1 := by rw [hun]
      have e4 : (un x').2.2 = s' := by rw [hun]
      have hin : InL (good x') (un x') := ⟨hgd, by rw [e2]; omega, by rw [e2, e3]; omega, by rw [e3]; exact hbig⟩
      refine ⟨hin, by rw [e2, e3]; omega, hin, ?_, ?_, ?_⟩
      · rw [e2, e3, e4, hn]; exact hok2
      · rw [e2, e3, e4, hn]; exact hq1
      · rw [e2, e3, e4, hn]; exact hq2
    | inr y =>
      simp only [hg] at hq1 hq2
      have := hq2 rfl
      simp only [getR] at this
      cases ho : outR y with
      | next x => exact nomatch x
      | out y2 => rw [ho] at this; simp only [ho, Rd.up]; exact this
      | back z => rw [ho] at this; simp only [ho, Rd.up]; exact this
      | pan p => rw [ho] at this; simp only [ho, Rd.up]; exact this
  · have hl : (un x).2.1.drop (un x).1.toNat = [] := List.drop_eq_nil_of_le (by have := hx.lo; omega)
    rw [hl] at hq1
    exact hend x hx.good hi _ (hq1 rfl)

def FF (step : T → σ → Fr σ) (un : L.X → Int × List T × σ) (good : L.X → Prop) (outO : σ → Eo.X) (x : L.X) : Fr (Rd L.X Eo.X R.X) :=
  Fr.need (InL (good x) (un x)) (Fr.need (okF step ((un x).2.1.drop (un x).1.toNat) (un x).2.2)
    (Fr.val (Rd.out (outO (goF step ((un x).2.1.drop (un x).1.toNat) (un x).2.2)))))

theorem Does.fold {fr : L.X → Fr (Rd L.X Eo.X R.X)} (h : Does P c L ⟨n, id, L, Eo, R⟩ fr) (step : T → σ → Fr σ) (un : L.X → Int × List T × σ) (good : L.X → Prop) (outO : σ → Eo.X)
    (hround : ∀ x, good x → 0 ≤ (un x).1 → (un x).1 < (un x).2.1.length → ((un x).2.1.length : Int) ≤ 9223372036854775807 → ∀ e, (un x).2.1[(un x).1.toNat]? = some e → ∀ Q : Rd L.X Eo.X R.X → Prop,
      (step e (un x).2.2).satP (fun s' => ∀ x', un x' = ((un x).1 + 1, (un x).2.1, s') → good x' → Q (.next x')) → (fr x).satP Q)
    (hend : ∀ x, good x → ¬ (un x).1 < (un x).2.1.length → ∀ Q : Rd L.X Eo.X R.X → Prop, Q (.out (outO (un x).2.2)) → (fr x).satP Q) :
    Does P (.loop c) L ⟨n, id, L, Eo, R⟩ (FF step un good outO) := by
  refine Does.loop (n := n) (id := id) h (inv := fun x => InL (good x) (un x)) (μ := fun x => (((un x).2.1.length : Int) - (un x).1).toNat) ?_ (fun x Q hq => hq.1)
  intro x hx Q hq
  obtain ⟨_, hok, hq1⟩ := hq
  by_cases hi : (un x).1 < (un x).2.1.length
  · have hlo := hx.lo
    have hbig := hx.big
    have hl : (un x).1.toNat < (un x).2.1.length := by omega
    have e1 : (un x).2.1.drop (un x).1.toNat = (un x).2.1[(un x).1.toNat] :: (un x).2.1.drop ((un x).1.toNat + 1) := List.drop_eq_getElem_cons hl
    have hn : ((un x).1 + 1).toNat = (un x).1.toNat + 1 := by omega
    rw [e1] at hok hq1
    generalize he : (un x).2.1[(un x).1.toNat] = e at hok hq1
    have he' : (un x).2.1[(un x).1.toNat]? = some e := by rw [List.getElem?_eq_getElem hl, he]
    refine hround x hx.good hlo hi hbig e he' _ (Fr.satP_of hok.1 ?_)
    intro x' hun hgd
    have e2 : (un x').1 = (un x).1 + 1 := by rw [hun]
    have e3 : (un x').2.1 = (un x).2.1 := by rw [hun]
    have e4 : (un x').2.2 = (step e (un x).2.2).get := by rw [hun]
    have hin : InL (good x') (un x') := ⟨hgd, by rw [e2]; omega, by rw [e2, e3]; omega, by rw [e3]; exact hbig⟩
    refine ⟨hin, by rw [e2, e3]; omega, hin, ?_, ?_⟩
    · rw [e2, e3, e4, hn]; exact hok.2
    · rw [e2, e3, e4, hn]; exact hq1
  · have hl : (un x).2.1.drop (un x).1.toNat = [] := List.drop_eq_nil_of_le (by have := hx.lo; omega)
    rw [hl] at hq1
    exact hend x hx.good hi _ hq1

theorem okL_of {step : T → σ → Fr (σ ⊕ ρ)} (h : ∀ e s, (step e s).ok) : (l : List T) → (s : σ) → okL step l s
  | [], _ => trivial
  | e :: r, s => by
    refine ⟨h e s, ?_⟩
    split
    · exact okL_of h r _
    · trivial

theorem okF_of {step : T → σ → Fr σ} (h : ∀ e s, (step e s).ok) : (l : List T) → (s : σ) → okF step l s
  | [], _ => trivial
  | e :: r, s => ⟨h e s, okF_of h r _⟩

theorem goL_const {step : T → σ → Fr (σ ⊕ ρ)} {c d : ρ} (h : ∀ e s y, (step e s).get = .inr y → y = c) : (l : List T) → (s : σ) → isL (goL step l s) = false → getR d (goL step l s) = c
  | [], _, hh => by cases hh
  | e :: r, s, hh => by
    simp only [goL] at hh ⊢
    cases hg : (step e s).get with
    | inl s' =>
      simp only [hg] at hh ⊢
      exact goL_const h r s' hh
    | inr y => exact h e s y hg

/-- Whether a loop goes to its end: element by element. -/
theorem isL_go {step : T → σ → Fr (σ ⊕ ρ)} {p : T → σ → Bool} {f : T → σ → σ} (h : ∀ e s, (step e s).get = if p e s = true then .inl (f e s) else (step e s).get) (h2 : ∀ e s, p e s = false → isL (step e s).get = false) :
    (l : List T) → (s : σ) → isL (goL step l s) = (l.foldl (fun (a : Bool × σ) e => (a.1 && p e a.2, f e a.2)) (true, s)).1
  | l, s => by
    have key : ∀ (l : List T) (s : σ) (b : Bool), (l.foldl (fun (a : Bool × σ) e => (a.1 && p e a.2, f e a.2)) (b, s)).1 = (b && (l.foldl (fun (a : Bool × σ) e => (a.1 && p e a.2, f e a.2)) (true, s)).1) := by
      intro l
      induction l with
      | nil => intro s b; simp
      | cons e r ih =>
        intro s b
        simp only [List.foldl_cons, Bool.true_and]
        rw [ih, ih (f e s) (p e s), Bool.and_assoc]
    induction l generalizing s with
    | nil => rfl
    | cons e r ih =>
      simp only [goL, List.foldl_cons, Bool.true_and]
      rw [key]
      by_cases hp : p e s = true
      · have := h e s
        rw [if_pos hp] at this
        rw [this, hp, Bool.true_and]
        exact ih (f e s)
      · have hp' : p e s = false := by simpa using hp
        have h3 := h2 e s hp'
        rw [hp', Bool.false_and]
        cases hg : (step e s).get with
        | inl s' => rw [hg] at h3; cases h3
        | inr y => rfl

theorem zip_lt {A B : Type} {l : List A} {l2 : List B} (hz : l.length = l2.length) {i : Int} (h : i < ((l.zip l2).length : Int)) : i < (l.length : Int) := by
  simp only [List.length_zip] at h
  omega

theorem zip_nlt {A B : Type} {l : List A} {l2 : List B} (hz : l.length = l2.length) {i : Int} (h : ¬ i < ((l.zip l2).length : Int)) : ¬ i < (l.length : Int) := by
  simp only [List.length_zip] at h
  omega

theorem zip_le {A B : Type} {l : List A} {l2 : List B} (hz : l.length = l2.length) {b : Int} (h : ((l.zip l2).length : Int) ≤ b) : (l.length : Int) ≤ b := by
  simp only [List.length_zip] at h
  omega

theorem zip_fst {A B : Type} {l : List A} {l2 : List B} {i : Nat} {e : A × B} (h : (l.zip l2)[i]? = some e) : l[i]? = some e.1 := by
  rw [List.getElem?_zip_eq_some] at h
  exact h.1

theorem zip_snd {A B : Type} {l : List A} {l2 : List B} {i : Nat} {e : A × B} (h : (l.zip l2)[i]? = some e) : l2[i]? = some e.2 := by
  rw [List.getElem?_zip_eq_some] at h
  exact h.2

theorem getD_of {T : Type} {l : List T} {i : Nat} {e d : T} (h : l[i]? = some e) : l.getD i d = e := by
  rw [List.getD_eq_getElem?_getD, h]
  rfl

theorem wrap_next {i : Int} {n : Nat} (h0 : 0 ≤ i) (h1 : i < n) (h2 : (n : Int) ≤ 9223372036854775807) : IntKind.i64.wrap (i + 1) = i + 1 := IntWalk.i64_in _ (by omega)

theorem prev_wrap {i : Int} {n : Nat} (h0 : 0 ≤ i) (h1 : i < n) (h2 : (n : Int) ≤ 9223372036854775807) : IntKind.i64.wrap (i - 1) = i - 1 := IntWalk.i64_in _ (by omega)

theorem prev_get {T : Type} {l : List T} {i : Int} {e d : T} (h : l.getD i.toNat d = e) : l.getD (i + 1 - 1).toNat d = e := by
  rw [show i + 1 - 1 = i by omega]
  exact h

theorem prev_in {i : Int} {n : Nat} {b : Bool} (h1 : i < n) (hb : b = decide (i > 0)) (h : b = true) : 0 ≤ i - 1 ∧ i - 1 < n := by
  rw [hb] at h
  have := of_decide_eq_true h
  omega

end
end Go.Ab

/-
  Loops over lists from the last element to the first.
-/
namespace Go.Ab
open Go Go.RowKit

section
variable {P : Program} {c : Code} {L Eo R : LS} {n id : Nat} {T σ ρ : Type}

structure InD (good : Prop) (u : Int × List T × σ) : Prop where
  good : good
  lo : -1 ≤ u.1
  hi : u.1 < u.2.1.length
  big : (u.2.1.length : Int) ≤ 9223372036854775807

def FD (step : T → σ → Fr (σ ⊕ ρ)) (un : L.X → Int × List T × σ) (good : L.X → Prop) (outO : σ → Eo.X) (outR : ρ → Rd Empty Eo.X R.X) (d : σ) (d2 : ρ) (x : L.X) : Fr (Rd L.X Eo.X R.X) :=
  Fr.need (InD (good x) (un x)) (Fr.need (okL step ((un x).2.1.take ((un x).1 + 1).toNat).reverse (un x).2.2)
    (Fr.br (isL (goL step ((un x).2.1.take ((un x).1 + 1).toNat).reverse (un x).2.2)) (Fr.val (Rd.out (outO (getL d (goL step ((un x).2.1.take ((un x).1 + 1).toNat).reverse (un x).2.2)))))
      (Fr.val (Rd.up (outR (getR d2 (goL step ((un x).2.1.take ((un x).1 + 1).toNat).reverse (un x).2.2)))))))

theorem Does.down {fr : L.X → Fr (Rd L.X Eo.X R.X)} (h : Does P c L ⟨n, id, L, Eo, R⟩ fr) (step : T → σ → Fr (σ ⊕ ρ)) (un : L.X → Int × List T × σ) (good : L.X → Prop) (outO : σ → Eo.X) (outR : ρ → Rd Empty Eo.X R.X) (d : σ) (d2 : ρ)
    (hround : ∀ x, good x → 0 ≤ (un x).1 → (un x).1 < (un x).2.1.length → ((un x).2.1.length : Int) ≤ 9223372036854775807 → ∀ e, (un x).2.1[(un x).1.toNat]? = some e → ∀ Q : Rd L.X Eo.X R.X → Prop,
      (step e (un x).2.2).satP (fun
        | .inl s' => ∀ x', un x' = ((un x).1 - 1, (un x).2.1, s') → good x' → Q (.next x')
        | .inr y => Q (Rd.up (outR y))) → (fr x).satP Q)
    (hend : ∀ x, good x → ¬ (un x).1 ≥ 0 → ∀ Q : Rd L.X Eo.X R.X → Prop, Q (.out (outO (un x).2.2)) → (fr x).satP Q) :
    Does P (.loop c) L ⟨n, id, L, Eo, R⟩ (FD step un good outO outR d d2) := by
  refine Does.loop (n := n) (id := id) h (inv := fun x => InD (good x) (un x)) (μ := fun x => ((un x).1 + 1).toNat) ?_ (fun x Q hq => hq.1)
  intro x hx Q hq
  obtain ⟨_, hok, hq1, hq2⟩ := hq
  by_cases hi : (un x).1 ≥ 0
  · have hhi := hx.hi
    have hbig := hx.big
    have hl : (un x).1.toNat < (un x).2.1.length := by omega
    have e1 : ((un x).2.1.take ((un x).1 + 1).toNat).reverse = (un x).2.1[(un x).1.toNat] :: ((un x).2.1.take (un x).1.toNat).reverse := by
      have e0 : ((un x).1 + 1).toNat = (un x).1.toNat + 1 := by omega
      rw [e0, ← List.take_append_getElem hl, List.reverse_append]
      rfl
    have hn : ((un x).1 - 1 + 1).toNat = (un x).1.toNat := by omega
    rw [e1] at hok hq1 hq2
    generalize he : (un x).2.1[(un x).1.toNat] = e at hok hq1 hq2
    have he' : (un x).2.1[(un x).1.toNat]? = some e := by rw [List.getElem?_eq_getElem hl, he]
    refine hround x hx.good hi hhi hbig e he' _ (Fr.satP_of hok.1 ?_)
    have hok2 := hok.2
    simp only [goL] at hq1 hq2
    cases hg : (step e (un x).2.2).get with
    | inl s' =>
      simp only [hg] at hok2 hq1 hq2
      intro x' hun hgd
      have e2 : (un x').1 = (un x).1 - 1 := by rw [hun]
      have e3 : (un x').2.1 = (un x).2.1 := by rw [hun]
      have e4 : (un x').2.2 = s' := by rw [hun]
      have hin : InD (good x') (un x') := ⟨hgd, by rw [e2]; omega, by rw [e2, e3]; omega, by rw [e3]; exact hbig⟩
      refine ⟨hin, by rw [e2]; omega, hin, ?_, ?_, ?_⟩
      · rw [e2, e3, e4, hn]; exact hok2
      · rw [e2, e3, e4, hn]; exact hq1
      · rw [e2, e3, e4, hn]; exact hq2
    | inr y =>
      simp only [hg] at hq1 hq2
      have := hq2 rfl
      simp only [getR] at this
      cases ho : outR y with
      | next x => exact nomatch x
      | out y2 => rw [ho] at this; simp only [ho, Rd.up]; exact this
      | back z => rw [ho] at this; simp only [ho, Rd.up]; exact this
      | pan p => rw [ho] at this; simp only [ho, Rd.up]; exact this
  · have hl : ((un x).2.1.take ((un x).1 + 1).toNat).reverse = [] := by
      rw [show ((un x).1 + 1).toNat = 0 by omega]
      rfl
    rw [hl] at hq1
    exact hend x hx.good hi _ (hq1 rfl)

end
end Go.Ab
