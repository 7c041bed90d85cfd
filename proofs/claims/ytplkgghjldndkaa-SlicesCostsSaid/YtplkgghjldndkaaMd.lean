/-
  Parts of the proof, one behind the other: AbE, AbF, AbG, B1, B2, B4, B5, D1, D2, D3, D4, D5, C1, C4, C5, C2, E1, E2, H1, H2, H3, H4, H5, H6, H7, H8, H9, H10, H12, H13, H14, H15, H18, H20.
-/
import Derived.Test.YtplkgghjldndkaaMc
import Derived.IntWalk
import Derived.ScopeJumps
import Derived.RangeFuncNested
import Derived.Test.YtplkgghjldndkaaProg
import Derived.WalkKit
import Derived.RangeFuncBound
import Derived.RangeFuncCalls
import Derived.RangeFuncLeaves
import Derived.Shelf.Abstract
import Derived.Shelf.RegionOpen
import Derived.OwnWalkIn
import Derived.TacticsInMore
import Derived.LoopNIn
import Derived.LoopIn
import Derived.Lib.Hide
namespace Go.Ab
open Go Go.RowKit
def Ty.flat : Ty -> Bool
 | .sl _ => false
 | .fm _ => false
 | .pair a b => a.flat && b.flat
 | _ => true
section
variable {P : Program} {B : Nat} {w w' : World} {E : Env} {F F' : Nat -> Prop} {γ γ' : Nat -> Value} {m : Mem}
theorem RepT.flat : {t : Ty} -> t.flat = true -> {x : t.den} -> {g : Nat -> Value -> Prop} -> RepT w F t x g -> RepT w' F' t x g
 | .int _, _, _, _, h => h
 | .bool, _, _, _, h => h
 | .str, _, _, _, h => h
 | .unit, _, _, _, h => h
 | .sl _, hf, _, _, _ => by simp [Ty.flat] at hf
 | .fm _, hf, _, _, _ => by simp [Ty.flat] at hf
 | .pair a b, hf, _, _, h => by
  simp only [Ty.flat, Bool.and_eq_true] at hf
  exact ⟨RepT.flat hf.1 h.1, RepT.flat hf.2 h.2⟩
theorem RepV.flat {t : Ty} (hf : t.flat = true) {x : t.den} {v : Value} (h : RepV w F t x v) : RepV w' F' t x v := ⟨h.1, h.2.1, h.2.2.flat hf⟩
theorem RepVs.flat : {ts : List Ty} -> ts.all Ty.flat = true -> {x : denL ts} -> {vs : List Value} -> RepVs w F ts x vs -> RepVs w' F' ts x vs
 | [], _, _, _, h => h
 | t :: r, hf, _, _, ⟨v, vs', h1, h2, h3⟩ => by
  simp only [List.all_cons, Bool.and_eq_true] at hf
  exact ⟨v, vs', h1, h2.flat hf.1, RepVs.flat hf.2 h3⟩
theorem RepR.flat : {ts : List Ty} -> ts.all Ty.flat = true -> {x : denL ts} -> {v : Value} -> RepR w F ts x v -> RepR w' F' ts x v
 | [], hf, _, _, ⟨vs, h1, h2⟩ => ⟨vs, h1, RepVs.flat hf h2⟩
 | [t], hf, _, _, h => by
  simp only [List.all_cons, Bool.and_eq_true] at hf
  exact RepV.flat hf.1 h
 | t :: t' :: r, hf, _, _, ⟨vs, h1, h2⟩ => ⟨vs, h1, RepVs.flat hf h2⟩
theorem RowsL.flat {t : Ty} (hf : t.flat = true) {l : List t.den} {xs : List Value} (h : RowsL w F t l xs) : RowsL w' F' t l xs := fun i x hi => (h i x hi).flat hf
structure Mt where
 e : TypeId
 T : Ty
 ps : List PT
 rs : List Ty
 f : List T.den -> denP ps -> List T.den × denL rs
 ok : List T.den -> denP ps -> List Prop
def MtPost (w : World) (mt : Mt) (v : Value) (y : List mt.T.den × denL mt.rs) (e : Ending) (w' : World) : Prop :=
 ∃ u rows, e = .returned u /\ w.grownBy w' v.ownBlock /\ w'.ownsRow 0 mt.e mt.T.size v y.1.length rows /\ RowsL w' (fun _ => False) mt.T y.1 rows /\ (∀ u ∈ rows, u.oneCell' = true) /\ RepR w' (fun _ => False) mt.rs y.2 u
structure SoundMt (P : Program) (f : FuncId) (mt : Mt) : Prop where
 flat : mt.T.flat = true
 flats : mt.rs.all Ty.flat = true
 enters : ∀ args w, (callFunc f args).run P w = .ok (.enter f args) w
 calls : ∀ (w : World) (F : Nat -> Prop) (l : List mt.T.den) (xs : denP mt.ps) (v : Value) (vs rows : List Value), (∀ b, F b -> b < w.heap.size) -> w.ownsRow 0 mt.e mt.T.size v l.length rows -> (∀ g, v.ownBlock = some g -> ¬ F g) ->
  RowsL w F mt.T l rows -> (∀ u ∈ rows, u.oneCell' = true) -> v.oneCell' = true -> RepPs P w F mt.ps xs vs -> conj (mt.ok l xs) -> Calls P f (v :: vs).toArray w (MtPost w mt v (mt.f l xs))
def mtK (Γ : Gm) (f : FuncId) (mt : Mt) (_d : Nat) (g : FuncId) (args : List AV) (s : St) : Option Tr :=
 if g = f then match args with
  | .c (.own id) :: rest => match rsAs s.mem rest with
   | some (xs, u) => match upds s.mem u id with
    | some (.arr e t l) => if h : t = mt.T then if e = mt.e then match decPs Γ mt.ps xs with
      | some (x, n) => some (needL (n ++ mt.ok (castL h l) x) (.leaf (.val (encR mt.rs (mt.f (castL h l) x).2)) ⟨s.n, s.sl, upd (upds s.mem u) id (.arr mt.e mt.T (mt.f (castL h l) x).1), s.gs⟩))
      | none => none
     else none else none
    | _ => none
   | none => none
  | _ => none
 else none
theorem mtK_ok {Γ : Gm} (hΓ : GmOK P Γ) {f : FuncId} {mt : Mt} (h : SoundMt P f mt) : InlOK P (mtK Γ f mt) := by
 intro d g args s t ht
 unfold mtK at ht
 split at ht <;> try (cases ht; done)
 rename_i hg
 subst hg
 split at ht <;> try (cases ht; done)
 rename_i id rest
 split at ht <;> try (cases ht; done)
 rename_i xs u hrs
 split at ht <;> try (cases ht; done)
 rename_i e ty l hm1
 split at ht <;> try (cases ht; done)
 rename_i hty
 split at ht <;> try (cases ht; done)
 rename_i hee
 split at ht <;> try (cases ht; done)
 rename_i x n hdec
 simp only [Option.some.injEq] at ht
 subst ht
 subst hty
 subst hee
 refine ⟨h.enters, fun E a w F γ vs Q hi hr hq => ?_⟩
 obtain ⟨hn, hqv⟩ := needL_sat _ hq
 obtain ⟨hn1, hn2⟩ := conj_append.1 hn
 cases vs with
 | nil => exact hr.elim
 | cons v vs =>
  obtain ⟨⟨hone, hv⟩, hr⟩ := hr
  obtain ⟨F1, s1, m1, _, r1⟩ := rsAs_sound hi.mem (inv_bd hi) (SubM.of fun _ _ h => h) hrs hr
  have hps := decPs_rep hΓ hdec hn1 r1
  have hv1 : v = γ id := by
   have h2 : refOK (upds s.mem u) γ id v := s1.hR id v hv
   simpa [refOK, hm1] using h2
  obtain ⟨rows, o1, o2, o3, o4⟩ := m1.ob id _ hm1
  rw [← hv1] at o1 o2
  have hblk : ∀ g, v.ownBlock = some g -> E.B <= g /\ g < w.heap.size := fun g hg => o1.lt g hg
  have hc := h.calls w F1 l x v vs rows s1.bd (ownsRow_base o1 (fun _ _ => Nat.zero_le _)) o2 o3 o4 hone hps hn2
  refine hc.mono fun en w2 hp => ?_
  obtain ⟨u2, rows2, rfl, hgr, p1, p2, p3, p4⟩ := hp
  have hkeep : ∀ b, b < w.heap.size -> v.ownBlock ≠ some b -> w2.heap[b]? = w.heap[b]? := fun b hb hne => hgr.block b hb (fun h => hne h.symm)
  have hBs := Step.size' hi
  have hR : ∀ i v', refOK (upds s.mem u) γ i v' -> refOK (upd (upds s.mem u) id (.arr mt.e mt.T (mt.f l x).1)) γ i v' := fun i v' hv' => by
   unfold refOK at hv' ⊢
   by_cases hii : i = id
   ·subst hii
    rw [hm1] at hv'
    simpa [upd] using hv'
   ·simpa [upd, hii] using hv'
  have s2 : Step E.B w F1 γ (upds s.mem u) w2 F1 γ (upd (upds s.mem u) id (.arr mt.e mt.T (mt.f l x).1)) :=
   ⟨fun _ h => h, fun b hb => hkeep b (s1.bd b hb) (fun h => o2 b h hb), hR, fun b hb => hkeep b (by omega) (fun h => by have := (hblk b h).1; omega),
    hgr.os, hgr.tape, hgr.output, hgr.size, fun b hb => Nat.lt_of_lt_of_le (s1.bd b hb) hgr.size, fun b hb => .inl hb⟩
  have hex : ∀ i o, upd (upds s.mem u) id (.arr mt.e mt.T (mt.f l x).1) i = some o -> ∃ o0, upds s.mem u i = some o0 /\ exB o0 (γ i) = exB o (γ i) := fun i o ho => by
   by_cases hii : i = id
   ·subst hii
    simp only [upd, if_true, Option.some.injEq] at ho
    subst ho
    exact ⟨_, hm1, rfl⟩
   ·simp only [upd, if_neg hii] at ho
    exact ⟨o, ho, rfl⟩
  have m2 : MemOK P E.B w2 F1 γ (upd (upds s.mem u) id (.arr mt.e mt.T (mt.f l x).1)) := by
   refine ⟨fun i o ho => ?_, fun i j oi oj b hij hoi hoj hb hb' => ?_⟩
   ·by_cases hii : i = id
    ·subst hii
     simp only [upd, if_true, Option.some.injEq] at ho
     subst ho
     rw [← hv1]
     exact ⟨rows2, ownsRow_base p1 (fun g hg => (hblk g hg).1), o2, p2.flat h.flat, p3⟩
    ·simp only [upd, if_neg hii] at ho
     refine (m1.ob i o ho).keep (fun _ h => h) (fun b hb => hkeep b (s1.bd b hb) (fun h => o2 b h hb)) hR fun b hb => ?_
     obtain ⟨l1, l2, _⟩ := exB_lt (m1.ob i o ho) hb
     refine ⟨hkeep b l1 (fun hvb => ?_), l2⟩
     exact m1.apart i id o _ b hii ho hm1 hb (by rw [← hv1]; exact hvb)
   ·obtain ⟨oi0, a1, a2⟩ := hex i oi hoi
    obtain ⟨oj0, b1, b2⟩ := hex j oj hoj
    exact m1.apart i j oi0 oj0 b hij a1 b1 (a2.trans hb) (b2.trans hb')
  have s3 := s1.trans s2
  have hinv : InvG P E ⟨s.n, s.sl, upd (upds s.mem u) id (.arr mt.e mt.T (mt.f l x).1), s.gs⟩ a w2 [] F1 γ := by
   refine ⟨hi.n, hi.df, ?_, m2, fun t => (hi.sl t).mono s3.hF s3.hw s3.hR, hi.hg, fun t => s3.repA (hi.gh t)⟩
   obtain ⟨γ0, h0⟩ := hi.step
   exact ⟨γ0, h0.trans s3⟩
  exact ⟨.val (encR mt.rs (mt.f l x).2), _, F1, γ, hqv, hinv, u2, rfl, encR_rep (p4.flat h.flats)⟩
def startMt (n : Nat) (e : TypeId) (T : Ty) (l : List T.den) (args : List AV) : St :=
 ⟨n, fun i => (AV.c (.own (oid 0)) :: args).getD i .dead, fun i => if i = oid 0 then some (.arr e T l) else none, fun i => if i = 0 then .c (.own (oid 0)) else .dead⟩
def endM (P : Program) (rv : List ResultVar) (e : TypeId) (T : Ty) (rs : List Ty) (s : St) : Option (Fr (List T.den × denL rs)) :=
 match s.gs 0 with
 | .c (.own k) => match s.mem k with
  | some (.arr e' t l) => if h : t = T then if e' = e then match resAs P s rv with
    | some (vs, n) => match rsAs s.mem vs with
     | some (xs, _) => match decVs rs xs with
      | some y => some (Fr.needL n (.val (castL h l, y)))
      | none => none
     | none => none
    | none => none
   else none else none
  | _ => none
 | _ => none
def frM (P : Program) (rv : List ResultVar) (e : TypeId) (T : Ty) (rs : List Ty) : Tr -> Option (Fr (List T.den × denL rs))
 | .leaf .ret s => endM P rv e T rs s
 | .leaf .normal s => endM P rv e T rs s
 | .leaf _ _ => none
 | .br b x y => match frM P rv e T rs x, frM P rv e T rs y with
  | some x', some y' => some (.br b x' y')
  | _, _ => none
 | .need p x => match frM P rv e T rs x with
  | some x' => some (.need p x')
  | none => none
 | .two p x y => match frM P rv e T rs x, frM P rv e T rs y with
  | some x', some y' => some (.need (p -> x'.ok /\ x'.get = y'.get) y')
  | _, _ => none
theorem frM_sat {rv : List ResultVar} {e : TypeId} {T : Ty} {rs : List Ty} : {t : Tr} -> {f : Fr (List T.den × denL rs)} -> frM P rv e T rs t = some f -> f.ok -> t.sat fun x s => (x = .ret ∨ x = .normal) /\ ∃ n, endM P rv e T rs s = some (Fr.needL n (.val f.get)) /\ conj n
 | .leaf x s, f, h, hok => by
  have key : endM P rv e T rs s = some f -> ∃ n, endM P rv e T rs s = some (Fr.needL n (.val f.get)) /\ conj n := fun h => by
   have h0 := h
   unfold endM at h
   split at h <;> try (cases h; done)
   split at h <;> try (cases h; done)
   split at h <;> try (cases h; done)
   split at h <;> try (cases h; done)
   split at h <;> try (cases h; done)
   split at h <;> try (cases h; done)
   split at h <;> try (cases h; done)
   simp only [Option.some.injEq] at h
   subst h
   refine ⟨_, ?_, (needL_ok _ hok).1⟩
   rw [needL_get]
   exact h0
  cases x with
  | exit i => simp [frM] at h
  | panic i => simp [frM] at h
  | val i => simp [frM] at h
  | jump i => simp [frM] at h
  | normal => exact ⟨.inr rfl, key h⟩
  | ret => exact ⟨.inl rfl, key h⟩
 | .br b x y, f, h, hok => by
  simp only [frM] at h
  split at h <;> try (cases h; done)
  rename_i x' y' hx hy
  simp only [Option.some.injEq] at h
  subst h
  refine ⟨fun hb => ?_, fun hb => ?_⟩
  ·have := frM_sat hx (hok.1 hb)
   simpa only [Fr.get, hb, if_true] using this
  ·have := frM_sat hy (hok.2 hb)
   simpa only [Fr.get, hb, Bool.false_eq_true, if_false] using this
 | .need p x, f, h, hok => by
  simp only [frM] at h
  split at h <;> try (cases h; done)
  rename_i x' hx
  simp only [Option.some.injEq] at h
  subst h
  have := frM_sat hx hok.2
  exact ⟨hok.1, this⟩
 | .two p x y, f, h, hok => by
  simp only [frM] at h
  split at h <;> try (cases h; done)
  rename_i x' y' hx hy
  simp only [Option.some.injEq] at h
  subst h
  have h2 := frM_sat hy hok.2
  refine ⟨fun hp => ?_, h2⟩
  have := frM_sat hx (hok.1 hp).1
  rwa [(hok.1 hp).2] at this
def runMt (P : Program) (C : Cx) (Λ : Nat -> St -> Option Tr) (fn : Func) (e : TypeId) (T : Ty) (ps : List PT) (rs : List Ty) (l : List T.den) (xs : denP ps) : Option (Fr (List T.den × denL rs)) :=
 match fn.body with
 | some c => if (fn.name == "runtime.NumGoroutine") = false /\ ps.length + 1 <= fn.ntmps then match codeA P C 0 Λ c 0 (startMt fn.ntmps e T l (encPs ps xs)) with
   | some t => frM P fn.results.toList e T rs t
   | none => none
  else none
 | none => none
theorem mt_sound {C : Cx} (hC : CxOK P C) {Λ : Nat -> St -> Option Tr} {f : FuncId} {fn : Func} {e : TypeId} {T : Ty} {ps : List PT} {rs : List Ty} {fr : List T.den -> denP ps -> Fr (List T.den × denL rs)} (x0 : denP ps)
  (hf : P.funcs[f]? = some fn) (hT : T.flat = true) (hTs : rs.all Ty.flat = true) (hΛ : ∀ c E, fn.body = some c -> LamOK P E Λ c 0) (hrun : ∀ l xs, runMt P C Λ fn e T ps rs l xs = some (fr l xs)) :
  SoundMt P f ⟨e, T, ps, rs, fun l xs => (fr l xs).get, fun l xs => [(fr l xs).ok]⟩ := by
 have h0 := hrun [] x0
 unfold runMt at h0
 split at h0 <;> try (cases h0; done)
 rename_i c hb
 split at h0 <;> try (cases h0; done)
 rename_i hc
 refine ⟨hT, hTs, enters hf hb hc.1, fun w F l xs v vs rows hbd hown hnF hrows hcell hone hr hok => calls_of_wp hf hb ?_⟩
 have hr' := hrun l xs
 unfold runMt at hr'
 simp only [hb, hc, and_self, if_true] at hr'
 split at hr' <;> try (cases hr'; done)
 rename_i t ht
 have hlen : vs.length = ps.length := repPs_len hr
 have hFb : ∀ b, F b -> (b < w.heap.size /\ v.ownBlock ≠ some b) := fun b hb => ⟨hbd b hb, fun h => hnF b h hb⟩
 have hps : RepPs P w (fun b => b < w.heap.size /\ v.ownBlock ≠ some b) ps xs vs := RepPs.mono hFb (fun _ _ => rfl) hr
 have hargs : ∀ R : Nat -> Value -> Prop, R (oid 0) v -> Reps P w (fun b => b < w.heap.size /\ v.ownBlock ≠ some b) R (AV.c (.own (oid 0)) :: encPs ps xs) (v :: vs) := fun R hR => ⟨⟨hone, hR⟩, encPs_rep hps⟩
 have hstart : I P ⟨w, fun b => b < w.heap.size /\ v.ownBlock ≠ some b, fun _ => v, [], 0, Nat.zero_le _⟩ (startMt fn.ntmps e T l (encPs ps xs)) { tmps := (v :: vs).toArray ++ Array.replicate (fn.ntmps - (v :: vs).length) undef, defers := [] } w := by
  refine ⟨_, fun _ => v, ?_, rfl, ⟨fun _ => undef, ⟨fun _ h => h, fun _ _ => rfl, fun _ _ h => h.elim, fun b hb => absurd hb (Nat.not_lt_zero b), rfl, rfl, rfl, Nat.le_refl _, fun b hb => hb.1, fun b hb => .inl hb⟩⟩, ⟨fun id o ho => ?_, fun i j oi oj b hij hi hj => ?_⟩, fun t => ?_, fun t g want v ht => ?_, fun t => ?_⟩
  ·show _ = fn.ntmps
   simp only [Array.size_append, List.size_toArray, Array.size_replicate, List.length_cons]
   omega
  ·have ho' : (if id = oid 0 then some (Ob.arr e T l) else none) = some o := ho
   split at ho'
   ·simp only [Option.some.injEq] at ho'
    subst ho'
    exact ⟨rows, hown, fun g hg h => h.2 hg, hrows.flat hT, hcell⟩
   ·cases ho'
  ·have hi' : (if i = oid 0 then some (Ob.arr e T l) else none) = some oi := hi
   have hj' : (if j = oid 0 then some (Ob.arr e T l) else none) = some oj := hj
   split at hi'
   ·split at hj'
    ·rename_i h1 h2
     exact absurd (h1.trans h2.symm) hij
    ·cases hj'
   ·cases hi'
  ·have hg : ((v :: vs).toArray ++ Array.replicate (fn.ntmps - (v :: vs).length) undef).getD t undef = (v :: vs).getD t undef := by
    simp only [Array.getD_eq_getD_getElem?, List.getD_eq_getElem?_getD]
    rcases Nat.lt_or_ge t (v :: vs).length with hlt | hge
    ·rw [Array.getElem?_append_left (by simpa using hlt)]
     simp
    ·rw [Array.getElem?_append_right (by simpa using hge), List.getElem?_eq_none hge]
     simp only [Array.getElem?_replicate]
     split <;> rfl
   show SlotOK P w _ _ _ ((AV.c (.own (oid 0)) :: encPs ps xs).getD t .dead) (((v :: vs).toArray ++ Array.replicate (fn.ntmps - (v :: vs).length) undef).getD t undef)
   rw [hg]
   exact repA_slot (reps_get (hargs _ (by simp [refOK, startMt])) t)
  ·exfalso
   have := reps_get (hargs (fun _ _ => True) trivial) t
   have ht' : (AV.c (.own (oid 0)) :: encPs ps xs).getD t .dead = .maybe g want v := ht
   rw [ht'] at this
   exact this
  ·show RepA P w _ _ (if t = 0 then .c (.own (oid 0)) else .dead) v
   split
   ·exact ⟨hone, by simp [RepC, refOK, startMt]⟩
   ·trivial
 have hwp := codeA_sound hC c 0 (hΛ c _ hb) ht (frM_sat hr' hok) hstart
 have hsz : ((v :: vs).toArray).size = (v :: vs).length := by simp
 rw [hsz]
 refine wp_mono hwp ?_
 rintro ex a' w' ⟨xe, s, rfl, ⟨F', γ', hi⟩, hxe, n, hend, hnn⟩
 have hfin : a'.defers = [] /\ ∃ u, (results fn a'.tmps).run P w' = .ok u w' /\ MtPost w ⟨e, T, ps, rs, fun l xs => (fr l xs).get, fun l xs => [(fr l xs).ok]⟩ v (fr l xs).get (.returned u) w' := by
  unfold endM at hend
  split at hend <;> try (cases hend; done)
  rename_i k hgs
  split at hend <;> try (cases hend; done)
  rename_i e' t' l' hmk
  split at hend <;> try (cases hend; done)
  rename_i hty
  split at hend <;> try (cases hend; done)
  rename_i hee
  split at hend <;> try (cases hend; done)
  rename_i avs n' hres
  split at hend <;> try (cases hend; done)
  rename_i axs u hrs
  split at hend <;> try (cases hend; done)
  rename_i y hdec
  simp only [Option.some.injEq] at hend
  obtain ⟨hn', hy⟩ := needL_inj hend hnn
  subst hty
  subst hee
  obtain ⟨us, hran, hreps⟩ := res_run hi hres hn'
  obtain ⟨F'', hs, hm', _, hxs⟩ := rsAs_sound hi.mem (inv_bd hi) (SubM.of fun _ _ h => h) hrs hreps
  obtain ⟨γ0, h1⟩ := hi.step
  have hgv : v = γ' k := by
   have h2 := hi.gh 0
   rw [hgs] at h2
   have h3 : refOK s.mem γ' k v := h2.2
   simpa [refOK, hmk] using h3
  obtain ⟨rows2, q1, q2, q3, q4⟩ := hi.mem.ob k _ hmk
  rw [← hgv] at q1
  refine ⟨hi.df, _, results_run hran, _, rows2, rfl, ⟨h1.os, h1.tape, h1.output, h1.size, fun b hb hne => h1.hw b ⟨hb, fun h => hne h.symm⟩⟩, ?_, ?_, q4, ?_⟩
  ·rw [← hy]
   exact q1
  ·rw [← hy]
   exact q3.flat hT
  ·rw [← hy]
   exact (repR_of (decVs_rep hdec hxs)).flat hTs
 rcases hxe with rfl | rfl
 ·exact hfin
 ·exact hfin
theorem rowsL_wf {t : Ty} {l : List t.den} {xs : List Value} (h : RowsL w F t l xs) : ∀ x ∈ l, Wf t x := fun x hx => by
 obtain ⟨i, hi, rfl⟩ := List.mem_iff_getElem.1 hx
 exact RepT.wf (h i _ (List.getElem?_eq_getElem hi))
theorem ownsRow_len {e : TypeId} {size n : Nat} {v : Value} {xs : List Value} (h : w.ownsRow B e size v n xs) : n <= maxLen := by
 rcases h.2 with ⟨_, rfl⟩ | ⟨g, cap, cur, _, _, _, h1, h2, _⟩
 ·exact Nat.zero_le _
 ·exact Nat.le_trans h1 h2
theorem convMt {f : FuncId} {mt : Mt} (h : SoundMt P f mt) (g : List mt.T.den -> denP mt.ps -> List mt.T.den × denL mt.rs) (ok : List mt.T.den -> denP mt.ps -> List Prop)
  (hg : ∀ w F l xs vs, RepPs P w F mt.ps xs vs -> l.length <= maxLen -> (∀ x ∈ l, Wf mt.T x) -> conj (ok l xs) -> conj (mt.ok l xs) /\ mt.f l xs = g l xs) : SoundMt P f ⟨mt.e, mt.T, mt.ps, mt.rs, g, ok⟩ := by
 refine ⟨h.flat, h.flats, h.enters, fun w F l xs v vs rows hb ho hn hr hc h1 hp hok => ?_⟩
 obtain ⟨h2, h3⟩ := hg w F l xs vs hp (ownsRow_len ho) (rowsL_wf hr) hok
 have := h.calls w F l xs v vs rows hb ho hn hr hc h1 hp h2
 rw [h3] at this
 exact this
end
end Go.Ab

namespace Go.Ab
open Go Go.RowKit
def goL {T σ ρ : Type} (step : T -> σ -> Fr (σ ⊕ ρ)) : List T -> σ -> σ ⊕ ρ
 | [], s => .inl s
 | x :: r, s => match (step x s).get with
  | .inl s' => goL step r s'
  | .inr y => .inr y
def okL {T σ ρ : Type} (step : T -> σ -> Fr (σ ⊕ ρ)) : List T -> σ -> Prop
 | [], _ => True
 | x :: r, s => (step x s).ok /\ match (step x s).get with
  | .inl s' => okL step r s'
  | .inr _ => True
def goF {T σ : Type} (step : T -> σ -> Fr σ) : List T -> σ -> σ
 | [], s => s
 | x :: r, s => goF step r (step x s).get
def okF {T σ : Type} (step : T -> σ -> Fr σ) : List T -> σ -> Prop
 | [], _ => True
 | x :: r, s => (step x s).ok /\ okF step r (step x s).get
def isL {σ ρ : Type} : σ ⊕ ρ -> Bool
 | .inl _ => true
 | .inr _ => false
def getL {σ ρ : Type} (d : σ) : σ ⊕ ρ -> σ
 | .inl s => s
 | .inr _ => d
def getR {σ ρ : Type} (d : ρ) : σ ⊕ ρ -> ρ
 | .inl _ => d
 | .inr y => y
def Rd.up {X Y Z : Type} : Rd Empty Y Z -> Rd X Y Z
 | .next x => nomatch x
 | .out y => .out y
 | .back z => .back z
 | .pan p => .pan p
def dfL : (ts : List Ty) -> denL ts
 | [] => ()
 | t :: r => (t.dflt, dfL r)
def dfP : (ps : List PT) -> denP ps
 | [] => ()
 | .d t :: r => (t.dflt, dfP r)
 | .ptr t :: r => (t.dflt, dfP r)
 | .fn _ rs :: r => (fun _ => dfL rs, dfP r)
 | .pf _ rs :: r => ((fun _ => dfL rs, fun _ => False), dfP r)
def dfY : (fs : List YF) -> denY fs
 | [] => ()
 | (some _, _) :: r => ([], dfY r)
 | (none, t) :: r => (t.dflt, dfY r)
def dfM : (ms : List MI) -> denM ms
 | [] => ()
 | .o _ _ _ :: r => ([], dfM r)
 | .x _ _ ty :: r => (ty.dflt, dfM r)
 | .r _ _ _ :: r => dfM (r)
 | .y _ _ fs :: r => (dfY fs, dfM r)
 | .g _ _ _ :: r => dfM (r)
 | .al _ _ :: r => dfM (r)
section
variable {P : Program} {c : Code} {L Eo R : LS} {n id : Nat} {T σ ρ : Type}
structure InL (good : Prop) (u : Int × List T × σ) : Prop where
 good : good
 lo : 0 <= u.1
 hi : u.1 <= u.2.1.length
 big : (u.2.1.length : Int) <= 9223372036854775807
def FL (step : T -> σ -> Fr (σ ⊕ ρ)) (un : L.X -> Int × List T × σ) (good : L.X -> Prop) (outO : σ -> Eo.X) (outR : ρ -> Rd Empty Eo.X R.X) (d : σ) (d2 : ρ) (x : L.X) : Fr (Rd L.X Eo.X R.X) :=
 Fr.need (InL (good x) (un x)) (Fr.need (okL step ((un x).2.1.drop (un x).1.toNat) (un x).2.2)
  (Fr.br (isL (goL step ((un x).2.1.drop (un x).1.toNat) (un x).2.2)) (Fr.val (Rd.out (outO (getL d (goL step ((un x).2.1.drop (un x).1.toNat) (un x).2.2)))))
   (Fr.val (Rd.up (outR (getR d2 (goL step ((un x).2.1.drop (un x).1.toNat) (un x).2.2)))))))
theorem Does.list {fr : L.X -> Fr (Rd L.X Eo.X R.X)} (h : Does P c L ⟨n, id, L, Eo, R⟩ fr) (step : T -> σ -> Fr (σ ⊕ ρ)) (un : L.X -> Int × List T × σ) (good : L.X -> Prop) (outO : σ -> Eo.X) (outR : ρ -> Rd Empty Eo.X R.X) (d : σ) (d2 : ρ)
  (hround : ∀ x, good x -> 0 <= (un x).1 -> (un x).1 < (un x).2.1.length -> ((un x).2.1.length : Int) <= 9223372036854775807 -> ∀ e, (un x).2.1[(un x).1.toNat]? = some e -> ∀ Q : Rd L.X Eo.X R.X -> Prop,
   (step e (un x).2.2).satP (fun
    | .inl s' => ∀ x', un x' = ((un x).1 + 1, (un x).2.1, s') -> good x' -> Q (.next x')
    | .inr y => Q (Rd.up (outR y))) -> (fr x).satP Q)
  (hend : ∀ x, good x -> ¬ (un x).1 < (un x).2.1.length -> ∀ Q : Rd L.X Eo.X R.X -> Prop, Q (.out (outO (un x).2.2)) -> (fr x).satP Q) :
  Does P (.loop c) L ⟨n, id, L, Eo, R⟩ (FL step un good outO outR d d2) := by
 refine Does.loop (n := n) (id := id) h (inv := fun x => InL (good x) (un x)) (μ := fun x => (((un x).2.1.length : Int) - (un x).1).toNat) ?_ (fun x Q hq => hq.1)
 intro x hx Q hq
 obtain ⟨_, hok, hq1, hq2⟩ := hq
 by_cases hi : (un x).1 < (un x).2.1.length
 ·have hlo := hx.lo
  have hbig := hx.big
  have hl : (un x).1.toNat < (un x).2.1.length := by omega
  have e1 : (un x).2.1.drop (un x).1.toNat = (un x).2.1[(un x).1.toNat] :: (un x).2.1.drop ((un x).1.toNat + 1) := List.drop_eq_getElem_cons hl
  have hn : ((un x).1 + 1).toNat = (un x).1.toNat + 1 := by omega
  rw [e1] at hok hq1 hq2
  generalize he : (un x).2.1[(un x).1.toNat] = e at hok hq1 hq2
  have he' : (un x).2.1[(un x).1.toNat]? = some e := by rw [List.getElem?_eq_getElem hl, he]
  refine hround x hx.good hlo hi hbig e he' _ (Fr.satP_of hok.1 ?_)
  have hok2 := hok.2
  simp only [goL] at hq1 hq2
  cases hg : (step e (un x).2.2).get with
  | inl s' =>
   simp only [hg] at hok2 hq1 hq2
   intro x' hun hgd
   have e2 : (un x').1 = (un x).1 + 1 := by rw [hun]
   have e3 : (un x').2.1 = (un x).2.1 := by rw [hun]
   have e4 : (un x').2.2 = s' := by rw [hun]
   have hin : InL (good x') (un x') := ⟨hgd, by rw [e2]; omega, by rw [e2, e3]; omega, by rw [e3]; exact hbig⟩
   refine ⟨hin, by rw [e2, e3]; omega, hin, ?_, ?_, ?_⟩
   ·rw [e2, e3, e4, hn]; exact hok2
   ·rw [e2, e3, e4, hn]; exact hq1
   ·rw [e2, e3, e4, hn]; exact hq2
  | inr y =>
   simp only [hg] at hq1 hq2
   have := hq2 rfl
   simp only [getR] at this
   cases ho : outR y with
   | next x => exact nomatch x
   | out y2 => rw [ho] at this; simp only [ho, Rd.up]; exact this
   | back z => rw [ho] at this; simp only [ho, Rd.up]; exact this
   | pan p => rw [ho] at this; simp only [ho, Rd.up]; exact this
 ·have hl : (un x).2.1.drop (un x).1.toNat = [] := List.drop_eq_nil_of_le (by have := hx.lo; omega)
  rw [hl] at hq1
  exact hend x hx.good hi _ (hq1 rfl)
def FF (step : T -> σ -> Fr σ) (un : L.X -> Int × List T × σ) (good : L.X -> Prop) (outO : σ -> Eo.X) (x : L.X) : Fr (Rd L.X Eo.X R.X) :=
 Fr.need (InL (good x) (un x)) (Fr.need (okF step ((un x).2.1.drop (un x).1.toNat) (un x).2.2)
  (Fr.val (Rd.out (outO (goF step ((un x).2.1.drop (un x).1.toNat) (un x).2.2)))))
theorem Does.fold {fr : L.X -> Fr (Rd L.X Eo.X R.X)} (h : Does P c L ⟨n, id, L, Eo, R⟩ fr) (step : T -> σ -> Fr σ) (un : L.X -> Int × List T × σ) (good : L.X -> Prop) (outO : σ -> Eo.X)
  (hround : ∀ x, good x -> 0 <= (un x).1 -> (un x).1 < (un x).2.1.length -> ((un x).2.1.length : Int) <= 9223372036854775807 -> ∀ e, (un x).2.1[(un x).1.toNat]? = some e -> ∀ Q : Rd L.X Eo.X R.X -> Prop,
   (step e (un x).2.2).satP (fun s' => ∀ x', un x' = ((un x).1 + 1, (un x).2.1, s') -> good x' -> Q (.next x')) -> (fr x).satP Q)
  (hend : ∀ x, good x -> ¬ (un x).1 < (un x).2.1.length -> ∀ Q : Rd L.X Eo.X R.X -> Prop, Q (.out (outO (un x).2.2)) -> (fr x).satP Q) :
  Does P (.loop c) L ⟨n, id, L, Eo, R⟩ (FF step un good outO) := by
 refine Does.loop (n := n) (id := id) h (inv := fun x => InL (good x) (un x)) (μ := fun x => (((un x).2.1.length : Int) - (un x).1).toNat) ?_ (fun x Q hq => hq.1)
 intro x hx Q hq
 obtain ⟨_, hok, hq1⟩ := hq
 by_cases hi : (un x).1 < (un x).2.1.length
 ·have hlo := hx.lo
  have hbig := hx.big
  have hl : (un x).1.toNat < (un x).2.1.length := by omega
  have e1 : (un x).2.1.drop (un x).1.toNat = (un x).2.1[(un x).1.toNat] :: (un x).2.1.drop ((un x).1.toNat + 1) := List.drop_eq_getElem_cons hl
  have hn : ((un x).1 + 1).toNat = (un x).1.toNat + 1 := by omega
  rw [e1] at hok hq1
  generalize he : (un x).2.1[(un x).1.toNat] = e at hok hq1
  have he' : (un x).2.1[(un x).1.toNat]? = some e := by rw [List.getElem?_eq_getElem hl, he]
  refine hround x hx.good hlo hi hbig e he' _ (Fr.satP_of hok.1 ?_)
  intro x' hun hgd
  have e2 : (un x').1 = (un x).1 + 1 := by rw [hun]
  have e3 : (un x').2.1 = (un x).2.1 := by rw [hun]
  have e4 : (un x').2.2 = (step e (un x).2.2).get := by rw [hun]
  have hin : InL (good x') (un x') := ⟨hgd, by rw [e2]; omega, by rw [e2, e3]; omega, by rw [e3]; exact hbig⟩
  refine ⟨hin, by rw [e2, e3]; omega, hin, ?_, ?_⟩
  ·rw [e2, e3, e4, hn]; exact hok.2
  ·rw [e2, e3, e4, hn]; exact hq1
 ·have hl : (un x).2.1.drop (un x).1.toNat = [] := List.drop_eq_nil_of_le (by have := hx.lo; omega)
  rw [hl] at hq1
  exact hend x hx.good hi _ hq1
theorem okL_of {step : T -> σ -> Fr (σ ⊕ ρ)} (h : ∀ e s, (step e s).ok) : (l : List T) -> (s : σ) -> okL step l s
 | [], _ => trivial
 | e :: r, s => by
  refine ⟨h e s, ?_⟩
  split
  ·exact okL_of h r _
  ·trivial
theorem zip_lt {A B : Type} {l : List A} {l2 : List B} (hz : l.length = l2.length) {i : Int} (h : i < ((l.zip l2).length : Int)) : i < (l.length : Int) := by
 simp only [List.length_zip] at h
 omega
theorem zip_nlt {A B : Type} {l : List A} {l2 : List B} (hz : l.length = l2.length) {i : Int} (h : ¬ i < ((l.zip l2).length : Int)) : ¬ i < (l.length : Int) := by
 simp only [List.length_zip] at h
 omega
theorem zip_le {A B : Type} {l : List A} {l2 : List B} (hz : l.length = l2.length) {b : Int} (h : ((l.zip l2).length : Int) <= b) : (l.length : Int) <= b := by
 simp only [List.length_zip] at h
 omega
theorem zip_fst {A B : Type} {l : List A} {l2 : List B} {i : Nat} {e : A × B} (h : (l.zip l2)[i]? = some e) : l[i]? = some e.1 := by
 rw [List.getElem?_zip_eq_some] at h
 exact h.1
theorem zip_snd {A B : Type} {l : List A} {l2 : List B} {i : Nat} {e : A × B} (h : (l.zip l2)[i]? = some e) : l2[i]? = some e.2 := by
 rw [List.getElem?_zip_eq_some] at h
 exact h.2
theorem getD_of {T : Type} {l : List T} {i : Nat} {e d : T} (h : l[i]? = some e) : l.getD i d = e := by
 rw [List.getD_eq_getElem?_getD, h]
 rfl
theorem wrap_next {i : Int} {n : Nat} (h0 : 0 <= i) (h1 : i < n) (h2 : (n : Int) <= 9223372036854775807) : IntKind.i64.wrap (i + 1) = i + 1 := IntWalk.i64_in _ (by omega)
end
end Go.Ab

namespace Go.Ab
open Go Go.RowKit
section
variable {P : Program} {c : Code} {L Eo R : LS} {n id : Nat} {T σ ρ : Type}
end
end Go.Ab
namespace Go.Ab
variable {α : Type} {key : α -> Int}
def SortK (key : α -> Int) (l : List α) : Prop := l.Pairwise fun x y => key x <= key y
def SameK (key : α -> Int) (l s : List α) : Prop := ∀ k, s.filter (fun x => key x == k) = l.filter (fun x => key x == k)
theorem SameK.refl (l : List α) : SameK key l l := fun _ => rfl
theorem SameK.trans {a b c : List α} (h : SameK key a b) (k : SameK key b c) : SameK key a c := fun n => (k n).trans (h n)
theorem SameK.symm {a b : List α} (h : SameK key a b) : SameK key b a := fun n => (h n).symm
theorem SameK.app {a b c d : List α} (h : SameK key a b) (k : SameK key c d) : SameK key (a ++ c) (b ++ d) := fun n => by simp [h n, k n]
theorem SameK.mem {l s : List α} (h : SameK key l s) {x : α} : x ∈ s ↔ x ∈ l := by
 have := congrArg (x ∈ ·) (h (key x))
 simpa [List.mem_filter] using this
theorem SameK.swap {a b : List α} (h : ∀ x ∈ a, ∀ y ∈ b, key x ≠ key y) : SameK key (a ++ b) (b ++ a) := fun n => by
 simp only [List.filter_append]
 by_cases ha : ∃ x ∈ a, key x = n
 ·obtain ⟨x, hx, hk⟩ := ha
  have hb : b.filter (fun x => key x == n) = [] := by
   rw [List.filter_eq_nil_iff]
   intro y hy
   have := h x hx y hy
   simp
   omega
  rw [hb]
  simp
 ·have ha' : a.filter (fun x => key x == n) = [] := by
   rw [List.filter_eq_nil_iff]
   intro y hy hk
   exact ha ⟨y, hy, by simpa using hk⟩
  rw [ha']
  simp
theorem SameK.eq : {s t : List α} -> SortK key s -> SortK key t -> SameK key s t -> s = t
 | [], t, _, _, h => by
  cases t with
  | nil => rfl
  | cons y t => have := (h.mem (x := y)).1 (by simp); simp at this
 | x :: s, [], _, _, h => by have := (h.mem (x := x)).2 (by simp); simp at this
 | x :: s, y :: t, hs, ht, h => by
  have hs' := List.pairwise_cons.1 hs
  have ht' := List.pairwise_cons.1 ht
  have hxy : key x <= key y := by
   rcases List.mem_cons.1 ((h.mem (x := y)).1 (by simp)) with e | e
   ·exact Int.le_of_eq (by rw [e])
   ·exact hs'.1 y e
  have hyx : key y <= key x := by
   rcases List.mem_cons.1 ((h.mem (x := x)).2 (by simp)) with e | e
   ·exact Int.le_of_eq (by rw [e])
   ·exact ht'.1 x e
  have hk : key x = key y := by omega
  have h0 := h (key x)
  simp only [List.filter_cons, hk, beq_self_eq_true, if_true, List.cons.injEq] at h0
  obtain ⟨rfl, h0⟩ := h0
  have : s = t := SameK.eq hs'.2 ht'.2 fun n => by
   have := h n
   simp only [List.filter_cons] at this
   split at this
   ·simpa using this
   ·exact this
  rw [this]
def insB (lt : α -> α -> Bool) (x : α) : List α -> List α
 | [] => [x]
 | y :: r => if lt y x then y :: insB lt x r else x :: y :: r
def sortB (lt : α -> α -> Bool) : List α -> List α
 | [] => []
 | x :: r => insB lt x (sortB lt r)
theorem insB_perm {lt : α -> α -> Bool} {x : α} : (l : List α) -> (insB lt x l).Perm (x :: l)
 | [] => List.Perm.refl _
 | y :: r => by
  simp only [insB]
  split
  ·exact (List.Perm.cons y (insB_perm r)).trans (List.Perm.swap x y r)
  ·exact List.Perm.refl _
theorem sortB_perm {lt : α -> α -> Bool} : (l : List α) -> (sortB lt l).Perm l
 | [] => List.Perm.refl _
 | x :: r => (insB_perm _).trans (List.Perm.cons x (sortB_perm r))
theorem sortB_length {lt : α -> α -> Bool} (l : List α) : (sortB lt l).length = l.length := (sortB_perm l).length_eq
theorem sortB_mem {lt : α -> α -> Bool} {l : List α} {x : α} : x ∈ sortB lt l ↔ x ∈ l := (sortB_perm l).mem_iff
def LtK (lt : α -> α -> Bool) (key : α -> Int) (l : List α) : Prop := ∀ x ∈ l, ∀ y ∈ l, lt x y = decide (key x < key y)
theorem LtK.sub {lt : α -> α -> Bool} {l s : List α} (h : LtK lt key l) (hs : ∀ x ∈ s, x ∈ l) : LtK lt key s := fun x hx y hy => h x (hs x hx) y (hs y hy)
theorem insB_sort {lt : α -> α -> Bool} {x : α} : {l : List α} -> LtK lt key (x :: l) -> SortK key l -> SortK key (insB lt x l) /\ SameK key (x :: l) (insB lt x l)
 | [], _, _ => ⟨List.pairwise_singleton _ _, SameK.refl _⟩
 | y :: r, h, hs => by
  have hs' := List.pairwise_cons.1 hs
  have hl := h y (by simp) x (by simp)
  simp only [insB]
  split
  ·rename_i hyx
   rw [hyx] at hl
   have hlt : key y < key x := by simpa using hl.symm
   obtain ⟨h1, h2⟩ := insB_sort (x := x) (h.sub (by intro z hz; simp at hz ⊢; rcases hz with rfl | hz <;> simp [*])) hs'.2
   refine ⟨List.pairwise_cons.2 ⟨fun z hz => ?_, h1⟩, ?_⟩
   ·rcases List.mem_cons.1 ((h2.mem).1 hz) with rfl | hz
    ·omega
    ·exact hs'.1 z hz
   ·have h3 : SameK key ([x] ++ [y]) ([y] ++ [x]) := SameK.swap fun a ha b hb => by simp at ha hb; subst ha; subst hb; omega
    have h4 : SameK key (([x] ++ [y]) ++ r) (([y] ++ [x]) ++ r) := h3.app (SameK.refl r)
    have h5 : SameK key ([y] ++ (x :: r)) ([y] ++ insB lt x r) := (SameK.refl [y]).app h2
    exact h4.trans h5
  ·rename_i hyx
   have hf : lt y x = false := by simpa using hyx
   rw [hf] at hl
   have hle : key x <= key y := by simpa using hl.symm
   exact ⟨List.pairwise_cons.2 ⟨fun z hz => by
    rcases List.mem_cons.1 hz with rfl | hz
    ·exact hle
    ·exact Int.le_trans hle (hs'.1 z hz), hs⟩, SameK.refl _⟩
theorem sortB_sort {lt : α -> α -> Bool} : {l : List α} -> LtK lt key l -> SortK key (sortB lt l) /\ SameK key l (sortB lt l)
 | [], _ => ⟨List.Pairwise.nil, SameK.refl _⟩
 | x :: r, h => by
  obtain ⟨h1, h2⟩ := sortB_sort (l := r) (h.sub (by intro z hz; simp [hz]))
  obtain ⟨h3, h4⟩ := insB_sort (x := x) (l := sortB lt r) (h.sub (by
   intro z hz
   rcases List.mem_cons.1 hz with rfl | hz
   ·simp
   ·simp [sortB_mem.1 hz])) h1
  exact ⟨h3, SameK.trans (SameK.app (SameK.refl [x]) h2) h4⟩
theorem eq_sortB {lt : α -> α -> Bool} {l s : List α} (h : LtK lt key l) (hs : SortK key s) (hk : SameK key l s) : s = sortB lt l := by
 obtain ⟨h1, h2⟩ := sortB_sort h
 exact SameK.eq hs h1 (hk.symm.trans h2)
def partB (lt : α -> α -> Bool) (a b : Nat) (l : List α) : List α := l.take a ++ (sortB lt ((l.take b).drop a) ++ l.drop b)
theorem partB_eq {lt : α -> α -> Bool} {a b : Nat} {p s q : List α} (ha : p.length = a) (hb : (p ++ s).length = b) : partB lt a b (p ++ (s ++ q)) = p ++ (sortB lt s ++ q) := by
 subst ha hb
 have h1 : (p ++ (s ++ q)).take (p ++ s).length = p ++ s := by rw [← List.append_assoc]; exact List.take_left' rfl
 have h2 : (p ++ (s ++ q)).drop (p ++ s).length = q := by rw [← List.append_assoc]; exact List.drop_left' rfl
 unfold partB
 rw [h1, h2, List.take_left' rfl, List.drop_left' rfl]
theorem split3 {l : List α} {a b : Nat} (hab : a <= b) (hb : b <= l.length) : ∃ p s q, l = p ++ (s ++ q) /\ p.length = a /\ s.length = b - a /\ q.length = l.length - b :=
 ⟨l.take a, (l.take b).drop a, l.drop b, by
  have h1 : (l.take b).take a = l.take a := by rw [List.take_take, Nat.min_eq_left hab]
  rw [← List.append_assoc, ← h1, List.take_append_drop, List.take_append_drop], by simp; omega, by simp; omega, by simp⟩
def swapL (l : List α) (d : α) (i j : Nat) : List α := (l.set i (l.getD j d)).set j (l.getD i d)
end Go.Ab

namespace Go.Ab
section
variable {α : Type} {key : α -> Int} {d : α}
theorem getD_mid {p s q : List α} {i : Nat} (h : i < s.length) : (p ++ (s ++ q)).getD (p.length + i) d = s.getD i d := by
 simp [List.getD_eq_getElem?_getD, List.getElem?_append_right, List.getElem?_append_left h]
theorem swap_cons {p r q : List α} {x y : α} {i j : Nat} (hi : i = p.length) (hj : j = p.length + 1 + r.length) : swapL (p ++ (x :: (r ++ (y :: q)))) d i j = p ++ (y :: (r ++ (x :: q))) := by
 subst hi hj
 unfold swapL
 have h1 : (p ++ (x :: (r ++ (y :: q)))).getD (p.length + 1 + r.length) d = y := by
  rw [show p ++ (x :: (r ++ (y :: q))) = (p ++ [x] ++ r) ++ (y :: q) by simp]
  simp only [List.getD_eq_getElem?_getD]
  rw [List.getElem?_append_right (by simp; omega)]
  simp [show p.length + 1 + r.length - (p.length + (r.length + 1)) = 0 by omega]
 have h2 : (p ++ (x :: (r ++ (y :: q)))).getD p.length d = x := by simp [List.getD_eq_getElem?_getD]
 rw [h1, h2]
 have h3 : (p ++ (x :: (r ++ (y :: q)))).set p.length y = p ++ (y :: (r ++ (y :: q))) := by simp
 rw [h3]
 rw [show p ++ (y :: (r ++ (y :: q))) = (p ++ [y] ++ r) ++ (y :: q) by simp, List.set_append_right _ _ (by simp; omega)]
 simp [show p.length + 1 + r.length - (p.length + (r.length + 1)) = 0 by omega]
theorem swap_next {p q : List α} {x y : α} {i : Nat} (hi : i = p.length) : swapL (p ++ (x :: (y :: q))) d i (i + 1) = p ++ (y :: (x :: q)) :=
 swap_cons (r := []) hi (by simp [hi])
theorem swapL_comm {l : List α} {i j : Nat} (h : i ≠ j) : swapL l d j i = swapL l d i j := by
 unfold swapL
 rw [List.set_comm _ _ (by omega)]
theorem swap_prev {p q : List α} {x y : α} {i : Nat} (hi : i = p.length) : swapL (p ++ (x :: (y :: q))) d (i + 1) i = p ++ (y :: (x :: q)) := by
 rw [swapL_comm (by omega), swap_next hi]
def insDown (lt : α -> α -> Bool) (d : α) (a : Nat) : Nat -> List α -> List α
 | 0, l => l
 | j + 1, l => if a < j + 1 then bif lt (l.getD (j + 1) d) (l.getD j d) then insDown lt d a j (swapL l d (j + 1) j) else l else l
def insFrom (lt : α -> α -> Bool) (d : α) (a : Nat) : Nat -> Nat -> List α -> List α
 | 0, _, l => l
 | n + 1, i, l => insFrom lt d a n (i + 1) (insDown lt d a i l)
theorem snoc_cases (s : List α) : s = [] ∨ ∃ t y, s = t ++ [y] := by
 cases h : s.reverse with
 | nil => exact .inl (by simpa using h)
 | cons y t => exact .inr ⟨t.reverse, y, by have := congrArg List.reverse h; simpa using this⟩
theorem insDown_eq {lt : α -> α -> Bool} {p : List α} {x : α} : (n : Nat) -> (s q : List α) -> s.length = n -> LtK lt key (s ++ [x]) -> SortK key s ->
  ∃ t, insDown lt d p.length (p.length + n) (p ++ (s ++ (x :: q))) = p ++ (t ++ q) /\ SortK key t /\ SameK key (s ++ [x]) t
 | 0, s, q, hn, _, _ => by
  obtain rfl := List.length_eq_zero_iff.1 hn
  refine ⟨[x], ?_, List.pairwise_singleton _ _, SameK.refl _⟩
  cases hp : p.length with
  | zero => simp [insDown]
  | succ j => simp [insDown]
 | n + 1, s, q, hn, hl, hs => by
  rcases snoc_cases s with rfl | ⟨s', y, rfl⟩
  ·simp at hn
  ·have hn' : s'.length = n := by simpa using hn
   have hs' := List.pairwise_append.1 hs
   have e1 : p ++ ((s' ++ [y]) ++ (x :: q)) = (p ++ s') ++ (y :: (x :: q)) := by simp
   have hk : lt x y = decide (key x < key y) := hl x (by simp) y (by simp)
   have g1 : (p ++ ((s' ++ [y]) ++ (x :: q))).getD (p.length + n + 1) d = x := by
    rw [e1]
    simp only [List.getD_eq_getElem?_getD]
    rw [List.getElem?_append_right (by simp; omega)]
    simp [hn', show p.length + n + 1 - (p.length + n) = 1 by omega]
   have g2 : (p ++ ((s' ++ [y]) ++ (x :: q))).getD (p.length + n) d = y := by
    rw [e1]
    simp only [List.getD_eq_getElem?_getD]
    rw [List.getElem?_append_right (by simp; omega)]
    simp [hn']
   rw [show p.length + (n + 1) = (p.length + n) + 1 by omega]
   simp only [insDown, g1, g2]
   rw [if_pos (by omega), hk]
   by_cases hlt : key x < key y
   ·simp only [hlt, decide_true, cond_true]
    rw [e1, swap_prev (by simp [hn'])]
    obtain ⟨t, h1, h2, h3⟩ := insDown_eq (p := p) (x := x) n s' (y :: q) hn' (hl.sub (by intro z hz; simp at hz ⊢; rcases hz with h | h <;> simp [h])) hs'.1
    have e2 : (p ++ s') ++ (x :: (y :: q)) = p ++ (s' ++ (x :: (y :: q))) := by simp
    rw [e2, h1]
    refine ⟨t ++ [y], by simp, ?_, ?_⟩
    ·refine List.pairwise_append.2 ⟨h2, List.pairwise_singleton _ _, fun a ha b hb => ?_⟩
     simp at hb
     subst hb
     rcases List.mem_append.1 (h3.mem.1 ha) with h | h
     ·exact hs'.2.2 a h _ (by simp)
     ·simp at h
      subst h
      omega
    ·have h4 : SameK key ((s' ++ [y]) ++ [x]) (s' ++ [x] ++ [y]) := by
      rw [List.append_assoc, List.append_assoc]
      exact (SameK.refl s').app (SameK.swap fun a ha b hb => by simp at ha hb; subst ha hb; omega)
     exact h4.trans (h3.app (SameK.refl [y]))
   ·simp only [hlt, decide_false, cond_false]
    refine ⟨s' ++ [y] ++ [x], by simp, ?_, SameK.refl _⟩
    refine List.pairwise_append.2 ⟨hs, List.pairwise_singleton _ _, fun a ha b hb => ?_⟩
    simp at hb
    subst hb
    rcases List.mem_append.1 ha with h | h
    ·have := hs'.2.2 a h y (by simp)
     omega
    ·simp at h
     subst h
     omega
theorem insFrom_eq {lt : α -> α -> Bool} {p q : List α} : (u s : List α) -> LtK lt key (s ++ u) -> SortK key s -> ∃ t, insFrom lt d p.length u.length (p.length + s.length) (p ++ (s ++ (u ++ q))) = p ++ (t ++ q) /\ SortK key t /\ SameK key (s ++ u) t
 | [], s, _, hs => ⟨s, by simp [insFrom], hs, by simpa using SameK.refl s⟩
 | x :: u, s, hl, hs => by
  obtain ⟨t, h1, h2, h3⟩ := insDown_eq (d := d) (p := p) (x := x) s.length s (u ++ q) rfl (hl.sub (by intro z hz; simp at hz ⊢; rcases hz with h | h <;> simp [h])) hs
  have hlen : t.length = s.length + 1 := by
   have := congrArg List.length h1
   have hd : ∀ (n : Nat) (l : List α), (insDown lt d p.length n l).length = l.length := by
    intro n
    induction n with
    | zero => intro l; rfl
    | succ n ih =>
     intro l
     simp only [insDown]
     split
     ·cases lt (l.getD (n + 1) d) (l.getD n d)
      ·rfl
      ·simp [ih, swapL]
     ·rfl
   rw [hd] at this
   simp at this
   omega
  obtain ⟨t', k1, k2, k3⟩ := insFrom_eq (p := p) (q := q) u t (hl.sub (by
   intro z hz
   rcases List.mem_append.1 hz with h | h
   ·have := h3.mem.1 h
    simp at this ⊢
    rcases this with h | h <;> simp [h]
   ·simp [h])) h2
  refine ⟨t', ?_, k2, ?_⟩
  ·simp only [List.length_cons, insFrom, List.cons_append]
   rw [h1, show p.length + s.length + 1 = p.length + t.length by omega]
   exact k1
  ·have : s ++ x :: u = (s ++ [x]) ++ u := by simp
   rw [this]
   exact (h3.app (SameK.refl u)).trans k3
theorem insFrom_part {lt : α -> α -> Bool} {a b : Nat} {l : List α} (hab : a <= b) (hb : b <= l.length) (hl : LtK lt key l) : insFrom lt d a (b - (a + 1)) (a + 1) l = partB lt a b l := by
 obtain ⟨p, s, q, rfl, hp, hs, _⟩ := split3 hab hb
 subst hp
 cases s with
 | nil =>
  have : b = p.length := by simp at hs; omega
  subst this
  rw [partB_eq rfl (by simp)]
  simp [insFrom, sortB, show p.length - (p.length + 1) = 0 by omega]
 | cons x u =>
  simp at hs
  have hb' : b = p.length + (1 + u.length) := by omega
  subst hb'
  rw [partB_eq rfl (by simp; omega)]
  have hl' : LtK lt key (x :: u) := hl.sub fun z hz => List.mem_append_right _ (List.mem_append_left _ hz)
  obtain ⟨t, h1, h2, h3⟩ := insFrom_eq (d := d) (p := p) (q := q) u [x] (by simpa using hl') (List.pairwise_singleton _ _)
  have e : t = sortB lt (x :: u) := eq_sortB hl' h2 (by simpa using h3)
  subst e
  rw [← h1]
  simp [show p.length + (1 + u.length) - (p.length + 1) = u.length by omega]
def upS (d : α) : Nat -> Nat -> List α -> List α
 | 0, _, l => l
 | n + 1, k, l => upS d n (k + 1) (swapL l d k (k + 1))
def downS (d : α) : Nat -> Nat -> List α -> List α
 | 0, _, l => l
 | n + 1, k, l => downS d n (k - 1) (swapL l d k (k - 1))
theorem upS_eq {x : α} : (s p q : List α) -> upS d s.length p.length (p ++ (x :: (s ++ q))) = p ++ (s ++ (x :: q))
 | [], p, q => by simp [upS]
 | y :: s, p, q => by
  simp only [List.length_cons, upS, List.cons_append]
  rw [swap_next rfl]
  have := upS_eq (x := x) s (p ++ [y]) q
  simpa using this
theorem downS_eq {x : α} : (n : Nat) -> (s p q : List α) -> s.length = n -> downS d n (p.length + n) (p ++ (s ++ (x :: q))) = p ++ (x :: (s ++ q))
 | 0, s, p, q, h => by
  obtain rfl := List.length_eq_zero_iff.1 h
  simp [downS]
 | n + 1, s, p, q, h => by
  rcases snoc_cases s with rfl | ⟨s', y, rfl⟩
  ·simp at h
  ·have hn : s'.length = n := by simpa using h
   rw [show p.length + (n + 1) = (p.length + n) + 1 by omega]
   simp only [downS, Nat.add_sub_cancel]
   have e1 : p ++ ((s' ++ [y]) ++ (x :: q)) = (p ++ s') ++ (y :: (x :: q)) := by simp
   rw [e1, swap_prev (by simp [hn])]
   have := downS_eq (x := x) n s' p (y :: q) hn
   simpa using this
def swapR (d : α) : Nat -> Nat -> Nat -> List α -> List α
 | 0, _, _, l => l
 | n + 1, a, b, l => swapR d n (a + 1) (b + 1) (swapL l d a b)
theorem swapR_eq : (x z y p q : List α) -> x.length = z.length -> ∀ {b : Nat}, b = p.length + x.length + y.length -> swapR d x.length p.length b (p ++ (x ++ (y ++ (z ++ q)))) = p ++ (z ++ (y ++ (x ++ q)))
 | [], z, y, p, q, h, b, hb => by
  obtain rfl := List.length_eq_zero_iff.1 h.symm
  simp [swapR]
 | u :: x, [], y, p, q, h, b, hb => by simp at h
 | u :: x, v :: z, y, p, q, h, b, hb => by
  simp only [List.length_cons, swapR, List.cons_append]
  have e1 : p ++ (u :: (x ++ (y ++ (v :: (z ++ q))))) = p ++ (u :: ((x ++ y) ++ (v :: (z ++ q)))) := by simp
  rw [e1, swap_cons rfl (by simp at hb ⊢; omega)]
  have := swapR_eq x z (y ++ [u]) (p ++ [v]) q (by simpa using h) (b := b + 1) (by simp at hb ⊢; omega)
  simpa using this
def rotG (d : α) (m : Nat) : Nat -> Nat -> Nat -> List α -> Nat × List α
 | 0, i, _, l => (i, l)
 | f + 1, i, j, l => if i = j then (i, l) else if i > j then rotG d m f (i - j) j (swapR d j (m - i) m l) else rotG d m f i (j - i) (swapR d i (m - i) (m + j - i) l)
def rotF (d : α) (a m b : Nat) (l : List α) : List α := let r := rotG d m (b - a) (m - a) (b - m) l; swapR d r.1 (m - r.1) m r.2
theorem rotG_eq {m : Nat} : (f : Nat) -> (x y p q : List α) -> x.length + y.length <= f -> 0 < x.length -> 0 < y.length -> m = p.length + x.length ->
  swapR d (rotG d m f x.length y.length (p ++ (x ++ (y ++ q)))).1 (m - (rotG d m f x.length y.length (p ++ (x ++ (y ++ q)))).1) m (rotG d m f x.length y.length (p ++ (x ++ (y ++ q)))).2 = p ++ (y ++ (x ++ q))
 | 0, x, y, p, q, h, h1, _, _ => by omega
 | f + 1, x, y, p, q, h, h1, h2, hm => by
  simp only [rotG]
  split
  ·rename_i he
   subst hm
   have := swapR_eq (d := d) x y [] p q he (b := p.length + x.length) (by simp)
   simpa [show p.length + x.length - x.length = p.length by omega] using this
  ·split
   ·rename_i hne hgt
    obtain ⟨x1, x2, rfl, hx1⟩ : ∃ x1 x2, x = x1 ++ x2 /\ x1.length = y.length := ⟨x.take y.length, x.drop y.length, by simp, by simp; omega⟩
    simp only [List.length_append] at hm h hgt h1 ⊢
    have e := swapR_eq (d := d) x1 y x2 p q hx1 (b := m) (by omega)
    have e0 : m - (x1.length + x2.length) = p.length := by omega
    rw [e0, ← hx1]
    rw [show p ++ (x1 ++ x2 ++ (y ++ q)) = p ++ (x1 ++ (x2 ++ (y ++ q))) by simp, e]
    have := rotG_eq (m := m) f x2 x1 (p ++ y) q (by omega) (by omega) (by omega) (by simp; omega)
    rw [show x1.length + x2.length - x1.length = x2.length by omega]
    simpa using this
   ·rename_i hne hgt
    obtain ⟨y1, y2, rfl, hy2⟩ : ∃ y1 y2, y = y1 ++ y2 /\ y2.length = x.length := ⟨y.take (y.length - x.length), y.drop (y.length - x.length), by simp, by simp; omega⟩
    simp only [List.length_append] at hm h hgt h2 hne ⊢
    have e := swapR_eq (d := d) x y2 y1 p q hy2.symm (b := m + (y1.length + y2.length) - x.length) (by omega)
    have e0 : m - x.length = p.length := by omega
    rw [e0]
    rw [show p ++ (x ++ (y1 ++ y2 ++ q)) = p ++ (x ++ (y1 ++ (y2 ++ q))) by simp, e]
    have := rotG_eq (m := m) f y2 y1 p (x ++ q) (by omega) (by omega) (by omega) (by omega)
    rw [show y1.length + y2.length - x.length = y1.length by omega, ← hy2]
    simpa using this
theorem rotF_eq {a m b : Nat} {x y p q : List α} (h1 : 0 < x.length) (h2 : 0 < y.length) (ha : a = p.length) (hm : m = a + x.length) (hb : b = m + y.length) : rotF d a m b (p ++ (x ++ (y ++ q))) = p ++ (y ++ (x ++ q)) := by
 have := rotG_eq (d := d) (m := m) (b - a) x y p q (by omega) h1 h2 (by omega)
 unfold rotF
 rw [show m - a = x.length by omega, show b - m = y.length by omega]
 exact this
def bsG (Q : Nat -> Bool) : Nat -> Nat -> Nat -> Nat
 | 0, i, _ => i
 | f + 1, i, j => if i < j then bif Q ((i + j) / 2) then bsG Q f ((i + j) / 2 + 1) j else bsG Q f i ((i + j) / 2) else i
theorem bsG_spec {Q : Nat -> Bool} : (f i j : Nat) -> j - i <= f -> i <= j -> (∀ u v, i <= u -> u <= v -> v < j -> Q v = true -> Q u = true) ->
  i <= bsG Q f i j /\ bsG Q f i j <= j /\ (∀ k, i <= k -> k < bsG Q f i j -> Q k = true) /\ (∀ k, bsG Q f i j <= k -> k < j -> Q k = false)
 | 0, i, j, h, hij, _ => by
  simp only [bsG]
  exact ⟨Nat.le_refl _, hij, fun k h1 h2 => by omega, fun k h1 h2 => by omega⟩
 | f + 1, i, j, h, hij, hmono => by
  simp only [bsG]
  by_cases hlt : i < j
  ·rw [if_pos hlt]
   cases hq : Q ((i + j) / 2) with
   | true =>
    simp only [cond_true]
    obtain ⟨a1, a2, a3, a4⟩ := bsG_spec (Q := Q) f ((i + j) / 2 + 1) j (by omega) (by omega) (fun u v hu huv hv => hmono u v (by omega) huv hv)
    refine ⟨by omega, a2, fun k h1 h2 => ?_, a4⟩
    by_cases hk : k <= (i + j) / 2
    ·exact hmono k _ h1 hk (by omega) hq
    ·exact a3 k (by omega) h2
   | false =>
    simp only [cond_false]
    obtain ⟨a1, a2, a3, a4⟩ := bsG_spec (Q := Q) f i ((i + j) / 2) (by omega) (by omega) (fun u v hu huv hv => hmono u v hu huv (by omega))
    refine ⟨a1, by omega, a3, fun k h1 h2 => ?_⟩
    by_cases hk : k < (i + j) / 2
    ·exact a4 k h1 hk
    ·cases hqk : Q k with
     | false => rfl
     | true => rw [hmono _ k (by omega) (by omega) h2 hqk] at hq; cases hq
  ·rw [if_neg hlt]
   exact ⟨Nat.le_refl _, hij, fun k h1 h2 => by omega, fun k h1 h2 => by omega⟩
end
end Go.Ab

namespace Go.Ab
section
variable {α : Type} {key : α -> Int} {d : α}
def seg (a b : Nat) (l : List α) : List α := (l.take b).drop a
theorem seg_eq {p s q : List α} {a b : Nat} (ha : p.length = a) (hb : a + s.length = b) : seg a b (p ++ (s ++ q)) = s := by
 subst ha hb
 unfold seg
 have h1 : (p ++ (s ++ q)).take (p.length + s.length) = p ++ s := by rw [← List.append_assoc]; exact List.take_left' (by simp)
 rw [h1, List.drop_left' rfl]
theorem seg_split {l : List α} {a m b : Nat} (h1 : a <= m) (h2 : m <= b) (h3 : b <= l.length) : ∃ p q, l = p ++ (seg a m l ++ (seg m b l ++ q)) /\ p.length = a /\ (seg a m l).length = m - a /\ (seg m b l).length = b - m /\ q.length = l.length - b := by
 obtain ⟨p, s, q, rfl, hp, hs, hq⟩ := split3 (Nat.le_trans h1 h2) h3
 obtain ⟨x, y, rfl, hx⟩ : ∃ x y, s = x ++ y /\ x.length = m - a := ⟨s.take (m - a), s.drop (m - a), by simp, by simp; omega⟩
 have hy : y.length = b - m := by simp at hs; omega
 have e1 : seg a m (p ++ (x ++ y ++ q)) = x := by
  rw [List.append_assoc]
  exact seg_eq hp (by omega)
 have e2 : seg m b (p ++ (x ++ y ++ q)) = y := by
  rw [show p ++ (x ++ y ++ q) = (p ++ x) ++ (y ++ q) by simp]
  exact seg_eq (by simp; omega) (by omega)
 rw [e1, e2]
 exact ⟨p, q, by simp, hp, hx, hy, by omega⟩
theorem partB_length {lt : α -> α -> Bool} {a b : Nat} {l : List α} (h1 : a <= b) (h2 : b <= l.length) : (partB lt a b l).length = l.length := by
 unfold partB
 simp [sortB_length]
 omega
theorem sortB_self {lt : α -> α -> Bool} {l : List α} (h : LtK lt key l) (hs : SortK key l) : sortB lt l = l := (eq_sortB h hs (SameK.refl l)).symm
theorem partB_same {lt : α -> α -> Bool} {a b : Nat} {l : List α} (hab : a <= b) (hb : b <= l.length) (hl : LtK lt key l) : SameK key l (partB lt a b l) := by
 obtain ⟨p, s, q, rfl, hp, hs, _⟩ := split3 hab hb
 rw [partB_eq hp (by simp; omega)]
 have h := (sortB_sort (l := s) (hl.sub fun z hz => List.mem_append_right _ (List.mem_append_left _ hz))).2
 exact (SameK.refl p).app (h.app (SameK.refl q))
def symS (lt : α -> α -> Bool) (d : α) (a m b : Nat) (l : List α) : Nat :=
 bsG (fun c => !lt (l.getD ((a + b) / 2 + m - 1 - c) d) (l.getD c d)) ((if (a + b) / 2 < m then (a + b) / 2 else m) - (if (a + b) / 2 < m then (a + b) / 2 + m - b else a)) (if (a + b) / 2 < m then (a + b) / 2 + m - b else a) (if (a + b) / 2 < m then (a + b) / 2 else m)
def symR (d : α) (m st en : Nat) (l : List α) : List α := if st < m /\ m < en then rotF d st m en l else l
def symX (lt : α -> α -> Bool) (d : α) (a m b : Nat) (l : List α) : List α :=
 if m - a = 1 then upS d (bsG (fun h => lt (l.getD h d) (l.getD a d)) (b - m) m b - 1 - a) a l
 else if b - m = 1 then downS d (m - bsG (fun h => !lt (l.getD m d) (l.getD h d)) (m - a) a m) m l
 else
  let st := symS lt d a m b l
  let mid := (a + b) / 2
  let en := mid + m - st
  let l1 := symR d m st en l
  let l2 := if a < st /\ st < mid then partB lt a mid l1 else l1
  if mid < en /\ en < b then partB lt mid b l2 else l2
theorem key_at {l : List α} {i j : Nat} (hs : SortK key l) (hij : i <= j) (hj : j < l.length) : key (l.getD i d) <= key (l.getD j d) := by
 rcases Nat.lt_or_ge i j with h | h
 ·have := List.pairwise_iff_getElem.1 hs i j (by omega) hj h
  simpa [List.getD_eq_getElem?_getD, List.getElem?_eq_getElem hj, List.getElem?_eq_getElem (show i < l.length by omega)] using this
 ·have : i = j := by omega
  subst this
  exact Int.le_refl _
theorem getD_mem {l : List α} {i : Nat} (h : i < l.length) : l.getD i d ∈ l := by
 simp [List.getD_eq_getElem?_getD, List.getElem?_eq_getElem h]
theorem ex_at {l : List α} {x : α} (h : x ∈ l) : ∃ i, i < l.length /\ l.getD i d = x := by
 obtain ⟨i, hi, rfl⟩ := List.getElem_of_mem h
 exact ⟨i, hi, by simp [List.getD_eq_getElem?_getD, List.getElem?_eq_getElem hi]⟩
theorem sym_parts {lt : α -> α -> Bool} {a m b : Nat} {p A B q : List α} (hp : p.length = a) (hA : A.length = m - a) (hB : B.length = b - m) (h1 : a < m) (h2 : m < b)
  (hl : LtK lt key (A ++ B)) (sA : SortK key A) (sB : SortK key B) :
  ∃ A1 A2 B1 B2, A = A1 ++ A2 /\ B = B1 ++ B2 /\ a + A1.length = symS lt d a m b (p ++ (A ++ (B ++ q))) /\ m + B1.length + symS lt d a m b (p ++ (A ++ (B ++ q))) = (a + b) / 2 + m /\
   (∀ x ∈ A1, ∀ y ∈ B2, key x <= key y) /\ (∀ y ∈ B1, ∀ x ∈ A2, key y < key x) := by
 have gA : ∀ i, i < A.length -> (p ++ (A ++ (B ++ q))).getD (a + i) d = A.getD i d := fun i hi => by rw [← hp]; exact getD_mid hi
 have gB : ∀ i, i < B.length -> (p ++ (A ++ (B ++ q))).getD (m + i) d = B.getD i d := fun i hi => by
  rw [show p ++ (A ++ (B ++ q)) = (p ++ A) ++ (B ++ q) by simp, show m = (p ++ A).length by simp; omega]
  exact getD_mid hi
 generalize hL : p ++ (A ++ (B ++ q)) = L at gA gB ⊢
 have hQ : ∀ c, a <= c -> c < m -> m <= (a + b) / 2 + m - 1 - c -> (a + b) / 2 + m - 1 - c < b ->
   (!lt (L.getD ((a + b) / 2 + m - 1 - c) d) (L.getD c d)) = decide (key (A.getD (c - a) d) <= key (B.getD ((a + b) / 2 + m - 1 - c - m) d)) := fun c c1 c2 c3 c4 => by
  have e1 := gA (c - a) (by omega)
  have e2 := gB ((a + b) / 2 + m - 1 - c - m) (by omega)
  rw [show a + (c - a) = c by omega] at e1
  rw [show m + ((a + b) / 2 + m - 1 - c - m) = (a + b) / 2 + m - 1 - c by omega] at e2
  rw [e1, e2, hl _ (List.mem_append_right _ (getD_mem (by omega))) _ (List.mem_append_left _ (getD_mem (by omega)))]
  rw [Bool.eq_iff_iff]
  simp
 generalize hs0 : (if (a + b) / 2 < m then (a + b) / 2 + m - b else a) = s0
 generalize hr0 : (if (a + b) / 2 < m then (a + b) / 2 else m) = r0
 have b1 : a <= s0 /\ s0 <= r0 /\ r0 <= m /\ r0 <= (a + b) / 2 /\ (a + b) / 2 + m <= b + s0 /\ (s0 = a ∨ s0 + b = (a + b) / 2 + m) /\ (r0 = m ∨ r0 = (a + b) / 2) := by
  subst hs0 hr0
  split <;> omega
 obtain ⟨c1, c2, c3, c4, c5, c6, c7⟩ := b1
 obtain ⟨r1, r2, r3, r4⟩ := bsG_spec (Q := fun c => !lt (L.getD ((a + b) / 2 + m - 1 - c) d) (L.getD c d)) (r0 - s0) s0 r0 (Nat.le_refl _) c2 (fun u v hu huv hv h => by
  rw [hQ v (by omega) (by omega) (by omega) (by omega)] at h
  rw [hQ u (by omega) (by omega) (by omega) (by omega)]
  simp only [decide_eq_true_eq] at h ⊢
  have k1 := key_at (d := d) sA (i := u - a) (j := v - a) (by omega) (by omega)
  have k2 := key_at (d := d) sB (i := (a + b) / 2 + m - 1 - v - m) (j := (a + b) / 2 + m - 1 - u - m) (by omega) (by omega)
  omega)
 have hS : symS lt d a m b L = bsG (fun c => !lt (L.getD ((a + b) / 2 + m - 1 - c) d) (L.getD c d)) (r0 - s0) s0 r0 := by
  unfold symS
  rw [hs0, hr0]
 rw [hS]
 generalize bsG (fun c => !lt (L.getD ((a + b) / 2 + m - 1 - c) d) (L.getD c d)) (r0 - s0) s0 r0 = st at r1 r2 r3 r4 ⊢
 refine ⟨A.take (st - a), A.drop (st - a), B.take ((a + b) / 2 - st), B.drop ((a + b) / 2 - st), by simp, by simp, ?_, ?_, ?_, ?_⟩
 ·simp; omega
 ·simp; omega
 ·intro x hx y hy
  obtain ⟨i, hi, rfl⟩ := ex_at (d := d) hx
  obtain ⟨j, hj, rfl⟩ := ex_at (d := d) hy
  simp at hi hj
  have e1 : (A.take (st - a)).getD i d = A.getD i d := by simp [List.getD_eq_getElem?_getD, show i < st - a by omega]
  have e2 : (B.drop ((a + b) / 2 - st)).getD j d = B.getD ((a + b) / 2 - st + j) d := by simp [List.getD_eq_getElem?_getD]
  rw [e1, e2]
  have hq := r3 (st - 1) (by omega) (by omega)
  rw [hQ (st - 1) (by omega) (by omega) (by omega) (by omega)] at hq
  simp only [decide_eq_true_eq] at hq
  have k1 := key_at (d := d) sA (i := i) (j := st - 1 - a) (by omega) (by omega)
  have k2 := key_at (d := d) sB (i := (a + b) / 2 + m - 1 - (st - 1) - m) (j := (a + b) / 2 - st + j) (by omega) (by omega)
  omega
 ·intro y hy x hx
  obtain ⟨i, hi, rfl⟩ := ex_at (d := d) hx
  obtain ⟨j, hj, rfl⟩ := ex_at (d := d) hy
  simp at hi hj
  have e1 : (A.drop (st - a)).getD i d = A.getD (st - a + i) d := by simp [List.getD_eq_getElem?_getD]
  have e2 : (B.take ((a + b) / 2 - st)).getD j d = B.getD j d := by simp [List.getD_eq_getElem?_getD, show j < (a + b) / 2 - st by omega]
  rw [e1, e2]
  have hq := r4 st (Nat.le_refl _) (by omega)
  rw [hQ st (by omega) (by omega) (by omega) (by omega)] at hq
  simp only [decide_eq_false_iff_not] at hq
  have k1 := key_at (d := d) sA (i := st - a) (j := st - a + i) (by omega) (by omega)
  have k2 := key_at (d := d) sB (i := j) (j := (a + b) / 2 + m - 1 - st - m) (by omega) (by omega)
  omega
theorem sort_two {lt : α -> α -> Bool} {A1 A2 B1 B2 : List α} (hl : LtK lt key ((A1 ++ A2) ++ (B1 ++ B2))) (sA : SortK key (A1 ++ A2)) (sB : SortK key (B1 ++ B2)) (h1 : ∀ x ∈ A1, ∀ y ∈ B2, key x <= key y) (h2 : ∀ y ∈ B1, ∀ x ∈ A2, key y < key x) :
  sortB lt (A1 ++ B1) ++ sortB lt (A2 ++ B2) = sortB lt ((A1 ++ A2) ++ (B1 ++ B2)) := by
 have l1 : LtK lt key (A1 ++ B1) := hl.sub fun z hz => by simp at hz ⊢; rcases hz with h | h <;> simp [h]
 have l2 : LtK lt key (A2 ++ B2) := hl.sub fun z hz => by simp at hz ⊢; rcases hz with h | h <;> simp [h]
 obtain ⟨s1, k1⟩ := sortB_sort l1
 obtain ⟨s2, k2⟩ := sortB_sort l2
 have pA := List.pairwise_append.1 sA
 have pB := List.pairwise_append.1 sB
 refine eq_sortB hl (List.pairwise_append.2 ⟨s1, s2, fun x hx y hy => ?_⟩) ?_
 ·rw [sortB_mem] at hx hy
  rcases List.mem_append.1 hx with hx | hx <;> rcases List.mem_append.1 hy with hy | hy
  ·exact pA.2.2 x hx y hy
  ·exact h1 x hx y hy
  ·exact Int.le_of_lt (h2 x hx y hy)
  ·exact pB.2.2 x hx y hy
 ·have e1 : SameK key (A1 ++ (A2 ++ B1) ++ B2) (A1 ++ (B1 ++ A2) ++ B2) := ((SameK.refl A1).app (SameK.swap fun x hx y hy => by have := h2 y hy x hx; omega)).app (SameK.refl B2)
  have e2 := k1.app k2
  have e1' : SameK key ((A1 ++ A2) ++ (B1 ++ B2)) ((A1 ++ B1) ++ (A2 ++ B2)) := by simpa using e1
  exact e1'.trans e2
theorem symX_eq {lt : α -> α -> Bool} {a m b : Nat} {p A B q : List α} (hp : p.length = a) (hA : A.length = m - a) (hB : B.length = b - m) (h1 : a < m) (h2 : m < b)
  (hl : LtK lt key (A ++ B)) (sA : SortK key A) (sB : SortK key B) : symX lt d a m b (p ++ (A ++ (B ++ q))) = p ++ (sortB lt (A ++ B) ++ q) := by
 unfold symX
 split
 ·
  rename_i hm
  cases A with
  | nil => simp at hA; omega
  | cons x A =>
   obtain rfl : A = [] := by simp at hA; exact List.length_eq_zero_iff.1 (by omega)
   have gx : (p ++ ([x] ++ (B ++ q))).getD a d = x := by subst hp; simp [List.getD_eq_getElem?_getD]
   have gB : ∀ i, i < B.length -> (p ++ ([x] ++ (B ++ q))).getD (m + i) d = B.getD i d := fun i hi => by
    rw [show p ++ ([x] ++ (B ++ q)) = (p ++ [x]) ++ (B ++ q) by simp, show m = (p ++ [x]).length by simp; omega]
    exact getD_mid hi
   have hQ : ∀ k, m <= k -> k < b -> lt ((p ++ ([x] ++ (B ++ q))).getD k d) ((p ++ ([x] ++ (B ++ q))).getD a d) = decide (key (B.getD (k - m) d) < key x) := fun k k1 k2 => by
    have := gB (k - m) (by omega)
    rw [show m + (k - m) = k by omega] at this
    rw [this, gx]
    exact hl _ (List.mem_append_right _ (getD_mem (by omega))) _ (by simp)
   obtain ⟨r1, r2, r3, r4⟩ := bsG_spec (Q := fun h => lt ((p ++ ([x] ++ (B ++ q))).getD h d) ((p ++ ([x] ++ (B ++ q))).getD a d)) (b - m) m b (Nat.le_refl _) (by omega) (fun u v hu huv hv h => by
    rw [hQ v (by omega) hv] at h
    rw [hQ u hu (by omega)]
    simp only [decide_eq_true_eq] at h ⊢
    have := key_at (d := d) sB (i := u - m) (j := v - m) (by omega) (by omega)
    omega)
   generalize bsG (fun h => lt ((p ++ ([x] ++ (B ++ q))).getD h d) ((p ++ ([x] ++ (B ++ q))).getD a d)) (b - m) m b = r at r1 r2 r3 r4 ⊢
   obtain ⟨B1, B2, rfl, hB1⟩ : ∃ B1 B2, B = B1 ++ B2 /\ B1.length = r - m := ⟨B.take (r - m), B.drop (r - m), by simp, by simp; omega⟩
   have hB' : B1.length + B2.length = b - m := by simpa using hB
   have f1 : ∀ y ∈ B1, key y < key x := fun y hy => by
    obtain ⟨j, hj, rfl⟩ := ex_at (d := d) hy
    have := r3 (m + j) (by omega) (by omega)
    rw [hQ (m + j) (by omega) (by omega)] at this
    simp only [decide_eq_true_eq, Nat.add_sub_cancel_left] at this
    rwa [show (B1 ++ B2).getD j d = B1.getD j d by simp [List.getD_eq_getElem?_getD, List.getElem?_append_left hj]] at this
   have f2 : ∀ y ∈ B2, key x <= key y := fun y hy => by
    obtain ⟨j, hj, rfl⟩ := ex_at (d := d) hy
    have := r4 (r + j) (by omega) (by omega)
    rw [hQ (r + j) (by omega) (by omega)] at this
    simp only [decide_eq_false_iff_not] at this
    rw [show (B1 ++ B2).getD (r + j - m) d = B2.getD j d by
     simp only [List.getD_eq_getElem?_getD]
     rw [List.getElem?_append_right (by omega), show r + j - m - B1.length = j by omega]] at this
    omega
   rw [show r - 1 - a = B1.length by omega]
   have hup := upS_eq (d := d) (x := x) B1 p (B2 ++ q)
   rw [hp] at hup
   have e0 : p ++ ([x] ++ (B1 ++ B2 ++ q)) = p ++ (x :: (B1 ++ (B2 ++ q))) := by simp
   rw [e0, hup]
   have pB := List.pairwise_append.1 sB
   have hS : B1 ++ (x :: B2) = sortB lt ([x] ++ (B1 ++ B2)) := by
    refine eq_sortB hl (List.pairwise_append.2 ⟨pB.1, List.pairwise_cons.2 ⟨fun y hy => f2 y hy, pB.2.1⟩, fun y hy z hz => ?_⟩) ?_
    ·rcases List.mem_cons.1 hz with rfl | hz
     ·exact Int.le_of_lt (f1 y hy)
     ·exact pB.2.2 y hy z hz
    ·have e1 : SameK key (([x] ++ B1) ++ B2) ((B1 ++ [x]) ++ B2) := (SameK.swap fun u hu y hy => by simp at hu; subst hu; have := f1 y hy; omega).app (SameK.refl B2)
     simpa using e1
   rw [← hS]
   simp
 ·split
  ·
   rename_i _ hm
   cases B with
   | nil => simp at hB; omega
   | cons x B =>
    obtain rfl : B = [] := by simp at hB; exact List.length_eq_zero_iff.1 (by omega)
    have gx : (p ++ (A ++ ([x] ++ q))).getD m d = x := by
     rw [show p ++ (A ++ ([x] ++ q)) = (p ++ A) ++ (x :: q) by simp, show m = (p ++ A).length by simp; omega]
     simp only [List.getD_eq_getElem?_getD]
     rw [List.getElem?_append_right (Nat.le_refl _)]
     simp
    have gA : ∀ i, i < A.length -> (p ++ (A ++ ([x] ++ q))).getD (a + i) d = A.getD i d := fun i hi => by rw [← hp]; exact getD_mid hi
    have hQ : ∀ k, a <= k -> k < m -> (!lt ((p ++ (A ++ ([x] ++ q))).getD m d) ((p ++ (A ++ ([x] ++ q))).getD k d)) = decide (key (A.getD (k - a) d) <= key x) := fun k k1 k2 => by
     have := gA (k - a) (by omega)
     rw [show a + (k - a) = k by omega] at this
     rw [this, gx, hl _ (List.mem_append_right _ (by simp)) _ (List.mem_append_left _ (getD_mem (by omega))), Bool.eq_iff_iff]
     simp
    obtain ⟨r1, r2, r3, r4⟩ := bsG_spec (Q := fun h => !lt ((p ++ (A ++ ([x] ++ q))).getD m d) ((p ++ (A ++ ([x] ++ q))).getD h d)) (m - a) a m (Nat.le_refl _) (by omega) (fun u v hu huv hv h => by
     rw [hQ v (by omega) hv] at h
     rw [hQ u hu (by omega)]
     simp only [decide_eq_true_eq] at h ⊢
     have := key_at (d := d) sA (i := u - a) (j := v - a) (by omega) (by omega)
     omega)
    generalize bsG (fun h => !lt ((p ++ (A ++ ([x] ++ q))).getD m d) ((p ++ (A ++ ([x] ++ q))).getD h d)) (m - a) a m = r at r1 r2 r3 r4 ⊢
    obtain ⟨A1, A2, rfl, hA1⟩ : ∃ A1 A2, A = A1 ++ A2 /\ A1.length = r - a := ⟨A.take (r - a), A.drop (r - a), by simp, by simp; omega⟩
    have hA' : A1.length + A2.length = m - a := by simpa using hA
    have f1 : ∀ y ∈ A1, key y <= key x := fun y hy => by
     obtain ⟨j, hj, rfl⟩ := ex_at (d := d) hy
     have := r3 (a + j) (by omega) (by omega)
     rw [hQ (a + j) (by omega) (by omega)] at this
     simp only [decide_eq_true_eq, Nat.add_sub_cancel_left] at this
     rwa [show (A1 ++ A2).getD j d = A1.getD j d by simp [List.getD_eq_getElem?_getD, List.getElem?_append_left hj]] at this
    have f2 : ∀ y ∈ A2, key x < key y := fun y hy => by
     obtain ⟨j, hj, rfl⟩ := ex_at (d := d) hy
     have := r4 (r + j) (by omega) (by omega)
     rw [hQ (r + j) (by omega) (by omega)] at this
     simp only [decide_eq_false_iff_not] at this
     rw [show (A1 ++ A2).getD (r + j - a) d = A2.getD j d by
      simp only [List.getD_eq_getElem?_getD]
      rw [List.getElem?_append_right (by omega), show r + j - a - A1.length = j by omega]] at this
     omega
    have hdn := downS_eq (d := d) (x := x) A2.length A2 (p ++ A1) q rfl
    have e0 : p ++ (A1 ++ A2 ++ ([x] ++ q)) = (p ++ A1) ++ (A2 ++ (x :: q)) := by simp
    have e1 : m = (p ++ A1).length + A2.length := by simp; omega
    rw [e0, show m - r = A2.length by omega]
    rw [← e1] at hdn
    rw [hdn]
    have pA := List.pairwise_append.1 sA
    have hS : A1 ++ (x :: A2) = sortB lt ((A1 ++ A2) ++ [x]) := by
     refine eq_sortB hl (List.pairwise_append.2 ⟨pA.1, List.pairwise_cons.2 ⟨fun y hy => Int.le_of_lt (f2 y hy), pA.2.1⟩, fun y hy z hz => ?_⟩) ?_
     ·rcases List.mem_cons.1 hz with rfl | hz
      ·exact f1 y hy
      ·exact pA.2.2 y hy z hz
     ·have e1 : SameK key (A1 ++ (A2 ++ [x])) (A1 ++ ([x] ++ A2)) := (SameK.refl A1).app (SameK.swap fun u hu y hy => by simp at hy; subst hy; have := f2 u hu; omega)
      simpa using e1
    rw [← hS]
    simp
  ·
   obtain ⟨A1, A2, B1, B2, rfl, rfl, e1, e2, f1, f2⟩ := sym_parts (d := d) (q := q) hp hA hB h1 h2 hl sA sB
   simp only
   generalize symS lt d a m b (p ++ (A1 ++ A2 ++ (B1 ++ B2 ++ q))) = st at e1 e2 ⊢
   simp only [List.length_append] at hA hB
   have hen : (a + b) / 2 + m - st = m + B1.length := by omega
   rw [hen]
   have hR : symR d m st (m + B1.length) (p ++ (A1 ++ A2 ++ (B1 ++ B2 ++ q))) = p ++ (A1 ++ B1 ++ (A2 ++ B2 ++ q)) := by
    unfold symR
    split
    ·rename_i hc
     have := rotF_eq (d := d) (a := st) (m := m) (b := m + B1.length) (x := A2) (y := B1) (p := p ++ A1) (q := B2 ++ q) (by omega) (by omega) (by simp; omega) (by omega) rfl
     simpa using this
    ·rename_i hc
     by_cases hb1 : B1 = []
     ·subst hb1; simp
     ·have := List.length_pos_iff.2 hb1
      have : A2 = [] := List.length_eq_zero_iff.1 (by omega)
      subst this; simp
   rw [hR]
   have l1 : LtK lt key (A1 ++ B1) := hl.sub fun z hz => by simp at hz ⊢; rcases hz with h | h <;> simp [h]
   have l2 : LtK lt key (A2 ++ B2) := hl.sub fun z hz => by simp at hz ⊢; rcases hz with h | h <;> simp [h]
   have pA := List.pairwise_append.1 sA
   have pB := List.pairwise_append.1 sB
   have hmid : (a + b) / 2 = a + (A1.length + B1.length) := by omega
   have hL : (if a < st /\ st < (a + b) / 2 then partB lt a ((a + b) / 2) (p ++ (A1 ++ B1 ++ (A2 ++ B2 ++ q))) else p ++ (A1 ++ B1 ++ (A2 ++ B2 ++ q))) = p ++ (sortB lt (A1 ++ B1) ++ (A2 ++ B2 ++ q)) := by
    split
    ·exact partB_eq hp (by simp; omega)
    ·rename_i hc
     have : sortB lt (A1 ++ B1) = A1 ++ B1 := by
      refine sortB_self l1 ?_
      by_cases ha1 : A1 = []
      ·subst ha1; simpa [SortK] using pB.1
      ·have := List.length_pos_iff.2 ha1
       have : B1 = [] := List.length_eq_zero_iff.1 (by omega)
       subst this
       simpa [SortK] using pA.1
     rw [this]
   rw [hL]
   have hRt : (if (a + b) / 2 < m + B1.length /\ m + B1.length < b then partB lt ((a + b) / 2) b (p ++ (sortB lt (A1 ++ B1) ++ (A2 ++ B2 ++ q))) else p ++ (sortB lt (A1 ++ B1) ++ (A2 ++ B2 ++ q))) = p ++ (sortB lt (A1 ++ B1) ++ (sortB lt (A2 ++ B2) ++ q)) := by
    split
    ·have := partB_eq (lt := lt) (a := (a + b) / 2) (b := b) (p := p ++ sortB lt (A1 ++ B1)) (s := A2 ++ B2) (q := q) (by simp [sortB_length]; omega) (by simp [sortB_length]; omega)
     simpa using this
    ·rename_i hc
     have : sortB lt (A2 ++ B2) = A2 ++ B2 := by
      refine sortB_self l2 ?_
      by_cases ha1 : A2 = []
      ·subst ha1; simpa [SortK] using pB.2.1
      ·have := List.length_pos_iff.2 ha1
       have : B2 = [] := List.length_eq_zero_iff.1 (by omega)
       subst this
       simpa [SortK] using pA.2.1
     rw [this]
   rw [hRt, ← sort_two hl sA sB f1 f2]
   simp
end
end Go.Ab

namespace Go.Ab
section
variable {α : Type} {key : α -> Int}
theorem seg_before {lt : α -> α -> Bool} {a b a' b' : Nat} {l : List α} (h1 : b' <= a) (h2 : a <= l.length) : seg a' b' (partB lt a b l) = seg a' b' l := by
 unfold seg partB
 rw [List.take_append_of_le_length (by simp; omega), List.take_take, Nat.min_eq_left h1]
theorem seg_length {a b : Nat} {l : List α} : (seg a b l).length = min b l.length - a := by simp [seg]
theorem seg_same {lt : α -> α -> Bool} {a b : Nat} {l : List α} (h1 : a <= b) (h2 : b <= l.length) : seg a b (partB lt a b l) = sortB lt (seg a b l) := by
 unfold partB
 exact seg_eq (by simp; omega) (by rw [sortB_length]; simp; omega)
theorem drop_partB {lt : α -> α -> Bool} {a b c : Nat} {l : List α} (h1 : a <= b) (h2 : b <= l.length) (h3 : b <= c) : (partB lt a b l).drop c = l.drop c := by
 unfold partB
 rw [← List.append_assoc, List.drop_append, List.drop_eq_nil_of_le (by simp [sortB_length]; omega)]
 simp [sortB_length]
 congr 1
 omega
theorem seg_of_drop {a b c : Nat} {l s : List α} (h : l.drop c = s.drop c) (hc : c <= a) : seg a b l = seg a b s := by
 unfold seg
 rw [List.drop_take, List.drop_take]
 have : ∀ t : List α, t.drop a = (t.drop c).drop (a - c) := fun t => by rw [List.drop_drop]; congr 1; omega
 rw [this l, this s, h]
def BlkS (key : α -> Int) (w : Nat) (l : List α) : Prop := ∀ k, SortK key (seg (k * w) (k * w + w) l)
def blkW (lt : α -> α -> Bool) (w n : Nat) : Nat -> Nat -> List α -> Nat × List α
 | 0, a, l => (a, l)
 | f + 1, a, l => if a + w <= n then blkW lt w n f (a + w) (partB lt a (a + w) l) else (a, l)
structure BlkW (key : α -> Int) (w n : Nat) (l : List α) (r : Nat × List α) : Prop where
 mul : ∃ c, r.1 = c * w
 le : r.1 <= n
 lt : n < r.1 + w
 len : r.2.length = n
 same : SameK key l r.2
 drop : r.2.drop r.1 = l.drop r.1
 done : ∀ k, k * w + w <= r.1 -> SortK key (seg (k * w) (k * w + w) r.2)
theorem blkW_spec {lt : α -> α -> Bool} {w n : Nat} (hw : 0 < w) : (f a : Nat) -> (l : List α) -> n < f + a -> a <= n -> l.length = n -> (∃ c, a = c * w) -> LtK lt key l -> (∀ k, k * w + w <= a -> SortK key (seg (k * w) (k * w + w) l)) ->
  BlkW key w n l (blkW lt w n f a l)
 | 0, a, l, h, ha, _, _, _, _ => by omega
 | f + 1, a, l, h, ha, hn, ⟨c, hc⟩, hl, hd => by
  simp only [blkW]
  split
  ·rename_i hle
   have hsame := partB_same (key := key) (lt := lt) (a := a) (b := a + w) (by omega) (by omega) hl
   have hseg : SortK key (seg a (a + w) (partB lt a (a + w) l)) := by
    rw [seg_same (by omega) (by omega)]
    refine (sortB_sort (hl.sub fun z hz => ?_)).1
    exact List.mem_of_mem_take (List.mem_of_mem_drop hz)
   have r := blkW_spec hw f (a + w) (partB lt a (a + w) l) (by omega) hle (by rw [partB_length (by omega) (by omega)]; exact hn) ⟨c + 1, by rw [hc, Nat.succ_mul]⟩ (hl.sub fun z hz => hsame.mem.1 hz) (fun k hk => by
    rcases Nat.lt_trichotomy k c with h | h | h
    ·have h1 : (k + 1) * w <= c * w := Nat.mul_le_mul_right _ h
     rw [Nat.succ_mul] at h1
     rw [seg_before (by omega) (by omega)]
     exact hd k (by omega)
    ·subst h
     rw [← hc]
     exact hseg
    ·have h1 : (c + 1) * w <= k * w := Nat.mul_le_mul_right _ h
     rw [Nat.succ_mul] at h1
     omega)
   refine ⟨r.mul, r.le, r.lt, r.len, hsame.trans r.same, ?_, r.done⟩
   rw [r.drop]
   obtain ⟨c', hc'⟩ := r.mul
   have : a + w <= (blkW lt w n f (a + w) (partB lt a (a + w) l)).1 := by
    clear r hc' c'
    have : ∀ (f a : Nat) (l : List α), a <= (blkW lt w n f a l).1 := by
     intro f
     induction f with
     | zero => intro a l; exact Nat.le_refl _
     | succ f ih =>
      intro a l
      simp only [blkW]
      split
      ·exact Nat.le_trans (by omega) (ih _ _)
      ·exact Nat.le_refl _
    exact this _ _ _
   exact drop_partB (by omega) (by omega) this
  ·exact ⟨⟨c, hc⟩, ha, by omega, hn, SameK.refl _, rfl, fun k hk => hd k hk⟩
theorem BlkW.last {lt : α -> α -> Bool} {w n : Nat} {l : List α} {r : Nat × List α} (h : BlkW key w n l r) (hl : LtK lt key l) : BlkS key w (partB lt r.1 n r.2) /\ SameK key l (partB lt r.1 n r.2) /\ (partB lt r.1 n r.2).length = n := by
 have hlen := h.len
 have hl2 : LtK lt key r.2 := hl.sub fun z hz => h.same.mem.1 hz
 refine ⟨fun k => ?_, h.same.trans (partB_same h.le (by omega) hl2), by rw [partB_length h.le (by omega)]; exact hlen⟩
 obtain ⟨c, hc⟩ := h.mul
 have hle := h.le
 have hlt := h.lt
 rcases Nat.lt_trichotomy k c with hk | hk | hk
 ·have h1 : (k + 1) * w <= c * w := Nat.mul_le_mul_right _ hk
  rw [Nat.succ_mul] at h1
  rw [seg_before (by omega) (by omega)]
  exact h.done k (by omega)
 ·subst hk
  rw [← hc]
  have : seg r.1 (r.1 + w) (partB lt r.1 n r.2) = seg r.1 n (partB lt r.1 n r.2) := by
   have e := partB_length (lt := lt) h.le (Nat.le_of_eq hlen.symm)
   unfold seg
   rw [List.take_of_length_le (by omega), List.take_of_length_le (by omega)]
  rw [this, seg_same h.le (by omega)]
  exact (sortB_sort (hl2.sub fun z hz => List.mem_of_mem_take (List.mem_of_mem_drop hz))).1
 ·have h1 : (c + 1) * w <= k * w := Nat.mul_le_mul_right _ hk
  rw [Nat.succ_mul] at h1
  have : seg (k * w) (k * w + w) (partB lt r.1 n r.2) = [] := by
   have e := partB_length (lt := lt) h.le (Nat.le_of_eq hlen.symm)
   apply List.eq_nil_of_length_eq_zero
   rw [seg_length]
   omega
  rw [this]
  exact List.Pairwise.nil
def passB (lt : α -> α -> Bool) (w n : Nat) (l : List α) : List α :=
 let r := blkW lt (2 * w) n (n + 1) 0 l
 if r.1 + w < n then partB lt r.1 n r.2 else r.2
theorem passB_spec {lt : α -> α -> Bool} {w n : Nat} {l : List α} (hw : 0 < w) (hn : l.length = n) (hl : LtK lt key l) (hb : BlkS key w l) :
  BlkS key (2 * w) (passB lt w n l) /\ SameK key l (passB lt w n l) /\ (passB lt w n l).length = n := by
 have r := blkW_spec (key := key) (lt := lt) (w := 2 * w) (n := n) (by omega) (n + 1) 0 l (by omega) (by omega) hn ⟨0, by simp⟩ hl (fun k hk => by omega)
 unfold passB
 generalize blkW lt (2 * w) n (n + 1) 0 l = r0 at r ⊢
 simp only
 split
 ·exact r.last hl
 ·rename_i hc
  refine ⟨fun k => ?_, r.same, r.len⟩
  obtain ⟨c, hcc⟩ := r.mul
  have hle := r.le
  have hlt := r.lt
  have hlen := r.len
  rcases Nat.lt_trichotomy k c with hk | hk | hk
  ·have h1 : (k + 1) * (2 * w) <= c * (2 * w) := Nat.mul_le_mul_right _ hk
   rw [Nat.succ_mul] at h1
   exact r.done k (by omega)
  ·subst hk
   have h1 : k * (2 * w) = (2 * k) * w := by rw [Nat.mul_comm 2 k, Nat.mul_assoc]
   have h2 : seg (k * (2 * w)) (k * (2 * w) + 2 * w) r0.2 = seg ((2 * k) * w) ((2 * k) * w + w) r0.2 := by
    rw [← h1]
    unfold seg
    rw [List.take_of_length_le (by omega), List.take_of_length_le (by omega)]
   rw [h2, seg_of_drop (c := r0.1) r.drop (by omega)]
   exact hb (2 * k)
  ·have h1 : (c + 1) * (2 * w) <= k * (2 * w) := Nat.mul_le_mul_right _ hk
   rw [Nat.succ_mul] at h1
   have : seg (k * (2 * w)) (k * (2 * w) + 2 * w) r0.2 = [] := by
    apply List.eq_nil_of_length_eq_zero
    rw [seg_length]
    omega
   rw [this]
   exact List.Pairwise.nil
def passes (lt : α -> α -> Bool) (n : Nat) : Nat -> Nat -> List α -> List α
 | 0, _, l => l
 | f + 1, w, l => if w < n then passes lt n f (2 * w) (passB lt w n l) else l
theorem passes_spec {lt : α -> α -> Bool} {n : Nat} : (f w : Nat) -> (l : List α) -> 0 < w -> n <= f + w -> l.length = n -> LtK lt key l -> BlkS key w l -> passes lt n f w l = sortB lt l
 | 0, w, l, hw, hf, hn, hl, hb => by
  simp only [passes]
  refine eq_sortB hl ?_ (SameK.refl l)
  have := hb 0
  unfold seg at this
  simpa [List.take_of_length_le (show l.length <= w by omega)] using this
 | f + 1, w, l, hw, hf, hn, hl, hb => by
  simp only [passes]
  split
  ·obtain ⟨h1, h2, h3⟩ := passB_spec hw hn hl hb
   rw [passes_spec f (2 * w) _ (by omega) (by omega) h3 (hl.sub fun z hz => h2.mem.1 hz) h1]
   obtain ⟨k1, k2⟩ := sortB_sort (l := passB lt w n l) (hl.sub fun z hz => h2.mem.1 hz)
   exact eq_sortB hl k1 (h2.trans k2)
  ·refine eq_sortB hl ?_ (SameK.refl l)
   have := hb 0
   unfold seg at this
   simpa [List.take_of_length_le (show l.length <= w by omega)] using this
def stableB (lt : α -> α -> Bool) (l : List α) : List α :=
 let r := blkW lt 20 l.length (l.length + 1) 0 l
 passes lt l.length l.length 20 (partB lt r.1 l.length r.2)
theorem stableB_eq {lt : α -> α -> Bool} {l : List α} (hl : LtK lt key l) : stableB lt l = sortB lt l := by
 have r := blkW_spec (key := key) (lt := lt) (w := 20) (n := l.length) (by omega) (l.length + 1) 0 l (by omega) (by omega) rfl ⟨0, by simp⟩ hl (fun k hk => by omega)
 unfold stableB
 obtain ⟨h1, h2, h3⟩ := r.last hl
 simp only
 rw [passes_spec _ 20 _ (by omega) (by omega) h3 (hl.sub fun z hz => h2.mem.1 hz) h1]
 obtain ⟨k1, k2⟩ := sortB_sort (hl.sub fun z hz => h2.mem.1 hz)
 exact eq_sortB hl k1 (h2.trans k2)
end
end Go.Ab

namespace Go.Ab
open Go Go.RowKit
def Tr.jn (l : Nat) : Tr -> Tr
 | .leaf (.jump i) s => if i = l then .leaf .normal s else .need False (.leaf .ret s)
 | .leaf .normal s => .need False (.leaf .ret s)
 | .leaf e s => .leaf e s
 | .br b x y => .br b (x.jn l) (y.jn l)
 | .need p x => .need p (x.jn l)
 | .two p x y => .two p (x.jn l) (y.jn l)
theorem Tr.sat_jn {l : Nat} {Q : XE -> St -> Prop} : {t : Tr} -> (t.jn l).sat Q -> t.sat fun e s => match e with
  | .jump i => i = l /\ Q .normal s
  | .normal => False
  | e => Q e s
 | .leaf e s, hq => by
  cases e with
  | normal => exact hq.1
  | exit i => exact hq
  | ret => exact hq
  | panic p => exact hq
  | val v => exact hq
  | jump i =>
   simp only [Tr.jn] at hq
   split at hq
   ·rename_i h
    exact ⟨h, hq⟩
   ·exact hq.1.elim
 | .br b x y, hq => ⟨fun hb => Tr.sat_jn (hq.1 hb), fun hb => Tr.sat_jn (hq.2 hb)⟩
 | .need p x, hq => ⟨hq.1, Tr.sat_jn hq.2⟩
 | .two p x y, hq => ⟨fun hb => Tr.sat_jn (hq.1 hb), Tr.sat_jn hq.2⟩
def AfterJ (P : Program) (E : Env) (l : Nat) (p : Pt) (Q : p.Out -> Prop) (e : Exit) (a : Act) (w : World) : Prop :=
 ∃ r, Q r /\ match r with
  | .next m => e = .goto l /\ I P E (p.M.tpl p.n m) a w
  | .out y => e = .exit p.id /\ I P E (p.E.tpl p.n y) a w
  | .back z => e = .ret /\ I P E (p.R.tpl p.n z) a w
  | .pan v => e = .panic [{ v := v.val, recovered := false }] /\ ∃ s, s.n = p.n /\ I P E s a w
def DoesJ (P : Program) (l : Nat) (c : Code) (L : LS) (p : Pt) (f : L.X -> Fr p.Out) : Prop :=
 ∀ (E : Env) (a : Act) (w : World) (x : L.X) (Q : p.Out -> Prop), I P E (L.tpl p.n x) a w -> (f x).satP Q -> c.wp P (AfterJ P E l p Q) a w
def runPieceJ (P : Program) (C : Cx) (bs : Nat) (Λ : Nat -> St -> Option Tr) (l : Nat) (c : Code) (L : LS) (p : Pt) (x : L.X) : Option (Fr p.Out) :=
 match codeA P C bs Λ c 0 (L.tpl p.n x) with
 | some t => p.lp.rdOf C.Γ (t.jn l)
 | none => none
def RunOK (P : Program) (E : Env) (c : Code) (run : St -> Option Tr) : Prop :=
 ∀ s t, run s = some t -> ∀ Q : XE -> St -> Prop, t.sat Q -> ∀ (a : Act) (w : World), I P E s a w -> c.wp P (After P E Q) a w
def thenA (r1 r2 : St -> Option Tr) (s : St) : Option Tr :=
 match r1 s with
 | some t => t.bind r2
 | none => none
def runFx (P : Program) (run : St -> Option Tr) (fn : Func) (ps : List PT) (rs : List Ty) (xs : denP ps) : Option (Fr (denL rs)) :=
 if (fn.name == "runtime.NumGoroutine") = false /\ ps.length <= fn.ntmps then match run (startA fn.ntmps (encPs ps xs)) with
  | some t => frOf P fn.results.toList rs t
  | none => none
 else none
section
variable {P : Program} {E : Env}
theorem DoesJ.of_run {C : Cx} (hC : CxOK P C) {bs l : Nat} {Λ : Nat -> St -> Option Tr} {c : Code} {L : LS} {p : Pt} (hM : p.M.low = true) (hE : p.E.low = true) (hR : p.R.low = true) (hΛ : ∀ E, LamOK P E Λ c 0) {f : L.X -> Fr p.Out}
  (hr : ∀ x, runPieceJ P C bs Λ l c L p x = some (f x)) : DoesJ P l c L p f := by
 intro E a w x Q hi hq
 have hrx := hr x
 unfold runPieceJ at hrx
 split at hrx <;> try (cases hrx; done)
 rename_i t ht
 have hsat := Tr.sat_jn (p.lp.rd_sat hrx hq)
 refine wp_mono (codeA_sound hC c 0 (hΛ E) ht hsat hi) ?_
 rintro e a' w' ⟨xe, s', rfl, his, hqs⟩
 cases xe with
 | normal => exact hqs.elim
 | exit i =>
  obtain ⟨rfl, hn', y, n', hy, hn, hqy⟩ := hqs
  have := ext_sound hC.ct hE his hy hn
  rw [hn'] at this
  exact ⟨.out y, hqy, rfl, this⟩
 | ret =>
  obtain ⟨hn', y, n', hy, hn, hqy⟩ := hqs
  have := ext_sound hC.ct hR his hy hn
  rw [hn'] at this
  exact ⟨.back y, hqy, rfl, this⟩
 | panic v => exact ⟨.pan v, hqs.2, rfl, s', hqs.1, his⟩
 | val _ => exact hqs.elim
 | jump _ =>
  obtain ⟨rfl, hn', y, n', hy, hn, hqy⟩ := hqs
  have := ext_sound hC.ct hM his hy hn
  rw [hn'] at this
  exact ⟨.next y, hqy, rfl, this⟩
theorem DoesJ.scope {c rest : Code} {L N Eo R : LS} {n id l : Nat} {f : L.X -> Fr (Rd L.X Eo.X R.X)} (hf : findLabel c l = some rest) (h1 : DoesJ P l c L ⟨n, id, L, Eo, R⟩ f) (h2 : DoesJ P l rest L ⟨n, id, L, Eo, R⟩ f)
  {F : L.X -> Fr (Rd N.X Eo.X R.X)} {inv : L.X -> Prop} {μ : L.X -> Nat}
  (hlaw : ∀ x, inv x -> ∀ Q : Rd N.X Eo.X R.X -> Prop, (F x).satP Q -> (f x).satP fun
   | .next x' => inv x' /\ μ x' < μ x /\ (F x').satP Q
   | .out y => Q (.out y)
   | .back z => Q (.back z)
   | .pan p => Q (.pan p)) (hinv : ∀ x Q, (F x).satP Q -> inv x) : Does P (.scope c) L ⟨n, id, N, Eo, R⟩ F := by
 intro E a w x Q hi hq
 have key : ∀ x a w (c' : Code) (J : Nat -> Act -> World -> Prop), (∀ a w (x' : L.X), inv x' -> μ x' < μ x -> I P E (L.tpl n x') a w -> (F x').satP Q -> ∃ m, m < μ x /\ J m a w) -> DoesJ P l c' L ⟨n, id, L, Eo, R⟩ f -> inv x -> I P E (L.tpl n x) a w -> (F x).satP Q ->
   c'.wp P (Exit.jump l (fun a w => ∃ m, m < μ x /\ J m a w) (AfterR P E ⟨n, id, N, Eo, R⟩ Q)) a w := by
  intro x a w c' J hJ h hx hix hFx
  refine wp_mono (h E a w x _ hix (hlaw x hx Q hFx)) ?_
  rintro e a' w' ⟨r, hr, hm⟩
  cases r with
  | next x' =>
   obtain ⟨rfl, hi'⟩ := hm
   exact ⟨rfl, hJ a' w' x' hr.1 hr.2.1 hi' hr.2.2⟩
  | out y =>
   obtain ⟨rfl, hi'⟩ := hm
   exact ⟨.out y, hr, rfl, hi'⟩
  | back z =>
   obtain ⟨rfl, hi'⟩ := hm
   exact ⟨.back z, hr, rfl, hi'⟩
  | pan v =>
   obtain ⟨rfl, hi'⟩ := hm
   exact ⟨.pan v, hr, rfl, hi'⟩
 have hmono : ∀ {J J' : Act -> World -> Prop} {c' : Code} {a : Act} {w : World}, (∀ a w, J a w -> J' a w) -> c'.wp P (Exit.jump l J (AfterR P E ⟨n, id, N, Eo, R⟩ Q)) a w -> c'.wp P (Exit.jump l J' (AfterR P E ⟨n, id, N, Eo, R⟩ Q)) a w := by
  intro J J' c' a w hJ h
  refine wp_mono h fun e a' w' he => ?_
  cases e with
  | goto l' => exact ⟨he.1, hJ _ _ he.2⟩
  | _ => exact he
 refine wp_scope_jumps l (fun a w => ∃ m, ∃ x, inv x /\ μ x = m /\ I P E (L.tpl n x) a w /\ (F x).satP Q) (fun a w => leastOf fun m => ∃ x, inv x /\ μ x = m /\ I P E (L.tpl n x) a w /\ (F x).satP Q) hf ?_ ?_
 ·exact hmono (fun a w ⟨m, _, h⟩ => ⟨m, h⟩) (key x a w c (fun m a w => ∃ x, inv x /\ μ x = m /\ I P E (L.tpl n x) a w /\ (F x).satP Q) (fun a w x' q1 q2 q3 q4 => ⟨μ x', q2, x', q1, rfl, q3, q4⟩) h1 (hinv x Q hq) hi hq)
 ·rintro a w ⟨m, hm⟩
  obtain ⟨⟨x', q1, q2, q3, q4⟩, _⟩ := leastOf_spec (p := fun m => ∃ x, inv x /\ μ x = m /\ I P E (L.tpl n x) a w /\ (F x).satP Q) ⟨m, hm⟩
  refine hmono (fun a1 w1 ⟨m1, r1, r2⟩ => ⟨⟨m1, r2⟩, ?_⟩) (key x' a w rest (fun m a w => ∃ x, inv x /\ μ x = m /\ I P E (L.tpl n x) a w /\ (F x).satP Q) (fun a w x' q1 q2 q3 q4 => ⟨μ x', q2, x', q1, rfl, q3, q4⟩) h2 q1 q3 q4)
  rw [← q2]
  exact Nat.lt_of_le_of_lt ((leastOf_spec (p := fun m => ∃ x, inv x /\ μ x = m /\ I P E (L.tpl n x) a1 w1 /\ (F x).satP Q) ⟨m1, r2⟩).2 m1 r2) r1
theorem Does.run {C : Cx} (hC : CxOK P C) {c : Code} {L : LS} {p : Pt} {F : L.X -> Fr p.Out} (hL : L.low = true) (h : Does P c L p F) : RunOK P E c (p.han C.Γ L F) := by
 intro s t hs Q hq a w hi
 unfold Pt.han at hs
 split at hs <;> try (cases hs; done)
 rename_i hsn
 split at hs <;> try (cases hs; done)
 rename_i x n hx
 simp only [Option.some.injEq] at hs
 subst hs
 obtain ⟨hq1, hq2⟩ := needL_sat _ hq
 have hi' := ext_sound hC.ct hL hi hx hq1
 rw [hsn] at hi'
 refine wp_mono (h E a w x _ hi' (p.toTr_sat hq2)) ?_
 rintro e a' w' ⟨r, hr, hm⟩
 cases r with
 | next m =>
  obtain ⟨rfl, hi'⟩ := hm
  exact ⟨.normal, _, rfl, hi', hr⟩
 | out y =>
  obtain ⟨rfl, hi'⟩ := hm
  exact ⟨.exit p.id, _, rfl, hi', hr⟩
 | back z =>
  obtain ⟨rfl, hi'⟩ := hm
  exact ⟨.ret, _, rfl, hi', hr⟩
 | pan v =>
  obtain ⟨rfl, s', hn', hi'⟩ := hm
  have hdead : I P E ⟨p.n, fun _ => .dead, fun _ => none, fun _ => .dead⟩ a' w' := by
   have := ext_sound hC.ct (L := ⟨[], []⟩) rfl hi' (x := ((), ())) (n := []) rfl trivial
   rw [hn'] at this
   obtain ⟨F', γ', h⟩ := this
   exact ⟨F', γ', h.n, h.df, h.step, h.mem, fun t => trivial, fun t g want v ht => (nomatch ht), fun t => trivial⟩
  exact ⟨.panic v, _, rfl, hdead, hr⟩
theorem codeA_run {C : Cx} (hC : CxOK P C) {bs : Nat} {Λ : Nat -> St -> Option Tr} {c : Code} (hΛ : LamOK P E Λ c 0) : RunOK P E c (codeA P C bs Λ c 0) :=
 fun _ _ h _ hq _ _ hi => codeA_sound hC c 0 hΛ h hq hi
theorem thenA_run {x y : Code} {r1 r2 : St -> Option Tr} (h1 : RunOK P E x r1) (h2 : RunOK P E y r2) : RunOK P E (.seq x y) (thenA r1 r2) := by
 intro s t h Q hq a w hi
 unfold thenA at h
 split at h <;> try (cases h; done)
 rename_i t1 ht1
 refine wp_seq (wp_mono (h1 s t1 ht1 _ (Tr.sat_bind h hq) a w hi) ?_)
 rintro e a' w' ⟨xe, s', rfl, hi', hq'⟩
 cases xe with
 | normal =>
  obtain ⟨u, hu, hqu⟩ := hq'
  exact h2 _ u hu Q hqu a' w' hi'
 | exit i => exact ⟨.exit i, s', rfl, hi', hq'⟩
 | ret => exact ⟨.ret, s', rfl, hi', hq'⟩
 | panic p => exact ⟨.panic p, s', rfl, hi', hq'⟩
 | val v => exact ⟨.val v, s', rfl, hi', hq'⟩
 | jump l => exact ⟨.jump l, s', rfl, hi', hq'⟩
theorem fx_sound {f : FuncId} {fn : Func} {c : Code} {run : St -> Option Tr} {ps : List PT} {rs : List Ty} {fr : denP ps -> Fr (denL rs)} (x0 : denP ps)
  (hf : P.funcs[f]? = some fn) (hb : fn.body = some c) (hrn : ∀ E, RunOK P E c run) (hrun : ∀ xs, runFx P run fn ps rs xs = some (fr xs)) : SoundCt P f ⟨ps, rs, fun xs => (fr xs).get, fun xs => [(fr xs).ok]⟩ := by
 have h0 := hrun x0
 unfold runFx at h0
 split at h0 <;> try (cases h0; done)
 rename_i hc
 obtain ⟨hname, hn⟩ := hc
 refine ⟨enters hf hb hname, fun w F xs vs hbd hr hok => calls_of_wp hf hb ?_⟩
 have hr' := hrun xs
 unfold runFx at hr'
 rw [if_pos ⟨hname, hn⟩] at hr'
 split at hr' <;> try (cases hr'; done)
 rename_i t ht
 have hlen : vs.length = ps.length := by
  have : ∀ {ps : List PT} {xs : denP ps} {vs : List Value}, RepPs P w F ps xs vs -> vs.length = ps.length := by
   intro ps
   induction ps with
   | nil => intro xs vs h; cases h; rfl
   | cons p r ih =>
    intro xs vs h
    obtain ⟨v, vs', rfl, _, h3⟩ := h
    simp [ih h3]
  exact this hr
 have hstart := start_inv (D := []) (n := fn.ntmps) hbd (fun R => encPs_rep (R := R) hr) (by omega)
 have hwp := hrn _ _ t ht _ (fr_sat hr' hok) _ _ hstart
 have hsz : (vs.toArray).size = vs.length := by simp
 rw [hsz]
 refine wp_mono hwp ?_
 rintro e a' w' ⟨xe, s, rfl, ⟨F', γ', hi⟩, hxe, n, hend, hnn⟩
 have hfin : a'.defers = [] /\ ∃ v, (results fn a'.tmps).run P w' = .ok v w' /\ Post w F rs (fr xs).get (.returned v) w' := by
  unfold endA at hend
  split at hend <;> try (cases hend; done)
  rename_i avs n' hres
  split at hend <;> try (cases hend; done)
  rename_i axs u hrs
  split at hend <;> try (cases hend; done)
  rename_i y hdec
  simp only [Option.some.injEq] at hend
  obtain ⟨hn', hy⟩ := needL_inj hend hnn
  subst hy
  obtain ⟨us, hran, hreps⟩ := res_run hi hres hn'
  obtain ⟨F'', hs, hm', _, hxs⟩ := rsAs_sound hi.mem (inv_bd hi) (SubM.of fun _ _ h => h) hrs hreps
  obtain ⟨γ0, h0⟩ := hi.step
  have hst := h0.trans hs
  refine ⟨hi.df, _, results_run hran, _, F'', rfl, ⟨hst.os, hst.tape, hst.output, hst.size, hst.old⟩, hst.hF, fun b hb => ⟨hst.new b hb, hst.bd b hb⟩, repR_of (decVs_rep hdec hxs)⟩
 rcases hxe with rfl | rfl
 ·exact hfin
 ·exact hfin
end
end Go.Ab
namespace Go.Ab
open Go Go.RowKit
structure Pan where
 bad : Bool
 pv : PV
 good : List Prop
section
variable {P : Program} {w w' : World} {E : Env} {F F' : Nat -> Prop} {b : Nat} {γ γ' γ0 : Nat -> Value} {ops : Array Oper} {es : List (Ef × Option Pan)} {C : Cx}
end
section
variable {P : Program} {w w' : World} {E : Env} {F F' : Nat -> Prop} {γ γ' : Nat -> Value}
end
end Go.Ab

namespace Go.Ab
open Go Go.RowKit
section
variable {P : Program} {E : Env}
end
end Go.Ab

namespace Go.Ab
open Go Go.RowKit
theorem alloc_old_ab (w : World) (o : Obj) (i : Nat) (h : i < w.heap.size) : (w.alloc o).heap[i]? = w.heap[i]? := by
 first
  | exact heap_alloc_old w o i h
  | exact heap_alloc_old w o h
end Go.Ab

namespace Go.Ab
open Go Go.RowKit
section
variable {F : Fence} {n : Nat} {P : Program} {w : World}
end
end Go.Ab

namespace Go.Ab
open Go Go.RowKit
section
variable {P : Program} {w w' : World} {E : Env} {F F' : Nat -> Prop} {γ γ' : Nat -> Value}
end
end Go.Ab

namespace Go.Ab
open Go Go.RowKit
section
variable {P : Program} {w w' : World} {F : Nat -> Prop}
theorem run_copy_rows (w : World) (dT sT ty elem : TypeId) (k g o dLen dCap : Nat) (a : Addr) (sLen sCap : Nat) (cs : List Value) (cur : Array Value) (t : TypeId)
  (hu : P.underlying dT = some (.slice elem)) (hs : (P.info? elem).map (·.size) = some k) (hn : cs.length = Nat.min sLen dLen * k)
  (hsrc : ∀ j v, cs[j]? = some v -> w.cell? (a.add j) = some v) (hg : w.heap[g]? = some (.cells cur t (0, 0))) (hfit : o + cs.length <= cur.size) (h1 : ∀ v ∈ cs, v.oneCell' = true) :
  (Builtin.copy_ #[dT, sT] ty #[.slice (some ⟨g, o, none⟩) dLen dCap, .slice (some a) sLen sCap]).run P w = .ok (goInt (Nat.min sLen dLen)) (w.setRow g (cur.toList.take o ++ cs ++ cur.toList.drop (o + cs.length)).toArray) := by
 have hl := run_loadCells_list (P := P) w a cs hsrc
 have hst := run_storeCells_at P g o t cs 0 cur w hg (by simpa using hfit) h1
 simp only [Nat.add_zero] at hst
 cases hq : P.info? elem with
 | none => simp [hq] at hs
 | some i =>
  have hi : i.size = k := by simpa [hq] using hs
  simp [Builtin.copy_, run_underlying hu, Builtin.lenOf, Builtin.firstCells, sizeOf, typeInfo, hq, hi, ← hn, hl, hst]
theorem seg_take {α : Type} (l m : List α) (p q : Nat) (h : p <= q) (hq : q <= l.length) : (l.take q ++ m).take p = l.take p := by
 rw [List.take_append_of_le_length (by simp; omega), List.take_take, Nat.min_eq_left h]
theorem ins_shift {α : Type} (cur xs news : List α) (q p k : Nat) (hx : cur.take q = xs) (hl : q + k <= cur.length) (hp : p <= q) (hn : news.length = k) (C1 C2 : List α)
  (h1 : C1 = cur.take (p + k) ++ xs.drop p ++ cur.drop (p + k + (xs.drop p).length)) (h2 : C2 = C1.take p ++ news ++ C1.drop (p + news.length)) :
  C1.length = cur.length /\ C2.length = cur.length /\ C2.take (q + k) = xs.take p ++ news ++ xs.drop p := by
 have hxl : xs.length = q := by rw [← hx, List.length_take]; omega
 have hd : (xs.drop p).length = q - p := by rw [List.length_drop, hxl]
 have hc1 : C1.length = cur.length := by rw [h1]; simp only [List.length_append, List.length_take, List.length_drop, hxl]; omega
 have e1 : C1.take p = xs.take p := by
  rw [h1, List.append_assoc, seg_take cur _ p (p + k) (by omega) (by omega), ← hx, List.take_take, Nat.min_eq_left hp]
 have e2 : C1.drop (p + k) = xs.drop p ++ cur.drop (p + k + (xs.drop p).length) := by
  rw [h1, List.append_assoc]
  exact List.drop_left' (by rw [List.length_take]; omega)
 rw [hn, e1, e2] at h2
 refine ⟨hc1, ?_, ?_⟩
 ·rw [h2]; simp only [List.length_append, List.length_take, List.length_drop, hxl, hn]; omega
 ·rw [h2, ← List.append_assoc]
  exact List.take_left' (by simp only [List.length_append, List.length_take, List.length_drop, hxl, hn]; omega)
theorem ins_grow {α : Type} (row xs news : List α) (q p k : Nat) (hxl : xs.length = q) (hp : p <= q) (hx : row.take p = xs.take p) (hl : q + k <= row.length) (hn : news.length = k) (C1 C2 : List α)
  (h1 : C1 = row.take p ++ news ++ row.drop (p + news.length)) (h2 : C2 = C1.take (p + k) ++ xs.drop p ++ C1.drop (p + k + (xs.drop p).length)) :
  C1.length = row.length /\ C2.length = row.length /\ C2.take (q + k) = xs.take p ++ news ++ xs.drop p := by
 have hd : (xs.drop p).length = q - p := by rw [List.length_drop, hxl]
 have hc1 : C1.length = row.length := by rw [h1]; simp only [List.length_append, List.length_take, List.length_drop, hn]; omega
 have e1 : C1.take (p + k) = xs.take p ++ news := by
  rw [h1, hx]
  exact List.take_left' (by simp only [List.length_append, List.length_take, hxl, hn]; omega)
 have hc2 : C2.length = row.length := by rw [h2]; simp only [List.length_append, List.length_take, List.length_drop, hc1, hxl]; omega
 refine ⟨hc1, hc2, ?_⟩
 rw [h2, e1]
 exact List.take_left' (by simp only [List.length_append, List.length_take, List.length_drop, hxl, hn]; omega)
end
theorem wp_copy_is {P : Program} (w : World) {o : Oper} {a : Act} {K : Act -> World -> Prop} {Q : Exit -> Act -> World -> Prop} (d s : Operand) (t t' : TypeId)
  (ho : o.op = .call { callee := .builtin .copy, args := #[d, s], argTypes := #[t, t'] }) (v u : Value) (hd : a.eval d = v) (hs : a.eval s = u) {v' : Value} {w' : World}
  (hr : (Builtin.copy_ #[t, t'] o.type #[v, u]).run P w = .ok v' w') (h : K (a.put o.dst v') w') : o.wp P a w K Q := by
 unfold Oper.wp execOp
 simp only [ho, resolve, invoke, builtin, Sem.run_bind, Sem.run_pure, Result.andThen_ok, List.map_toArray, List.map_cons, List.map_nil, hd, hs, hr]
 exact h
theorem wpList_copy_is {P : Program} (w : World) {ops : Array Oper} {rest : List Oper} {o : Oper} {a : Act} {Q : Exit -> Act -> World -> Prop} (hgd : o.guard = none) (d s : Operand) (t t' : TypeId)
  (ho : o.op = .call { callee := .builtin .copy, args := #[d, s], argTypes := #[t, t'] }) (v u : Value) (hd : a.eval d = v) (hs : a.eval s = u) {v' : Value} {w' : World}
  (hr : (Builtin.copy_ #[t, t'] o.type #[v, u]).run P w = .ok v' w') (h : wpList P ops Q rest (a.put o.dst v') w') : wpList P ops Q (o :: rest) a w :=
 wpList_plain hgd fun _ hK => wp_copy_is w d s t t' ho v u hd hs hr (hK _ _ h)
theorem step_copy_is {P : Program} {ops : Array Oper} {o : Oper} {a : Act} {w : World} {K : Act -> World -> Prop} {Q : Exit -> Act -> World -> Prop} {E : Prop}
  (hg : o.guard = none) (d x : Operand) (dT sT : TypeId) (hop : o.op = Op.call { callee := Callee.builtin Builtin.copy, args := #[d, x], argTypes := #[dT, sT] })
  (v u : Value) (hd : a.eval d = v) (hx : a.eval x = u) {v' : Value} {w' : World} (hr : (Builtin.copy_ #[dT, sT] o.type #[v, u]).run P w = .ok v' w') (hK : K (a.put o.dst v') w') :
  if Region.wanted o (yielded ops a.tmps) = true then Oper.wp P o a w K Q else E := by
 have hw : Region.wanted o (yielded ops a.tmps) = true := by simp [Region.wanted, hg]
 rw [if_pos hw]
 exact wp_copy_is w d x dT sT hop v u hd hx hr hK
theorem cell_take {w : World} {g q : Nat} {cur : Array Value} {t : TypeId} {xs : List Value} (hg : w.heap[g]? = some (.cells cur t (0, 0))) (ht : cur.toList.take q = xs) {j : Nat} {v : Value} (hj : xs[j]? = some v) : w.cell? ⟨g, j, none⟩ = some v := by
 rw [cell_of_row w g j cur t (0, 0) hg]
 rw [← ht, List.getElem?_take] at hj
 split at hj
 ·simpa using hj
 ·cases hj
end Go.Ab
namespace Go.Proofs.Ytplkgghjldndkaa
open Go Go.Ab Go.RowKit Go.Proofs
abbrev i64 : Ty := .int .i64
abbrev u64 : Ty := .int .u64
abbrev ints : Ty := .sl i64
abbrev spanT : Ty := .pair i64 (.pair i64 .unit)
abbrev stepT : Ty := .pair ints (.pair ints .unit)
abbrev riskT : Ty := .pair i64 (.pair i64 (.pair i64 (.pair i64 .unit)))
abbrev coverT : Ty := .pair i64 (.pair i64 (.pair i64 (.pair i64 (.pair i64 .unit))))
abbrev sliceT : Ty := .pair spanT (.pair .bool (.pair riskT (.pair (.sl coverT) (.pair i64 .unit))))
def noΛ : Nat -> St -> Option Tr := fun _ _ => none
def C0 : Cx := ⟨⟨fun _ => none, fun _ => none⟩, fun _ => none, fun _ _ _ _ => none⟩
theorem mixed : Try.prog.follows .mixedOrders = true := by kernel_rfl
theorem C0_ok : CxOK Try.prog C0 := ⟨mixed, ⟨fun _ _ h => (nomatch h), fun _ _ h => (nomatch h)⟩, fun _ _ h => (nomatch h), fun _ _ _ _ _ h => (nomatch h)⟩
theorem noΛ_ok {E : Env} : (c : Code) -> (k : Nat) -> LamOK Try.prog E noΛ c k
 | .seq a b, k => ⟨noΛ_ok a k, noΛ_ok b _⟩
 | .cond _ a b, k => ⟨noΛ_ok a k, noΛ_ok b _⟩
 | .block _ c, k => noΛ_ok c k
 | .loop _, _ => fun _ _ h => nomatch h
 | .skip, _ => trivial
 | .ret, _ => trivial
 | .exit _, _ => trivial
 | .region _ _ _, _ => trivial
 | .label _, _ => trivial
 | .goto _, _ => trivial
 | .scope c, k => noΛ_ok c k
 | .rangeFunc _ _ _ _, _ => trivial
 | .refuse _, _ => trivial
theorem plain {C : Cx} (hC : CxOK Try.prog C) {f : FuncId} {fn : Func} {ps : List PT} {rs : List Ty} {fr : denP ps -> Fr (denL rs)} (x0 : denP ps) (hf : Try.prog.funcs[f]? = some fn)
  (hrun : ∀ xs, runFn Try.prog C noΛ fn ps rs xs = some (fr xs)) (g : denP ps -> denL rs) (ok : denP ps -> List Prop)
  (hg : ∀ w F xs vs, RepPs Try.prog w F ps xs vs -> conj (ok xs) -> (fr xs).ok /\ (fr xs).get = g xs) : SoundCt Try.prog f ⟨ps, rs, g, ok⟩ :=
 conv (fn_sound hC x0 hf (fun c E _ => noΛ_ok c 0) hrun) g ok hg
def money (v : Int) : Bool := decide (v ≥ -4000000000000000000) && decide (v <= 4000000000000000000)
def fullS (s : spanT.den) : Bool := decide (s.1 ≥ 1) && (decide (s.1 < s.2.1) && decide (s.2.1 <= 292195))
def rightS (s : spanT.den) : Bool := decide (s.1 ≥ 1) && (decide (s.1 <= s.2.1) && decide (s.2.1 <= 292195))
def cRightS : Ct := ⟨[.d spanT], [.bool], fun x => (rightS x.1, ()), fun _ => []⟩
theorem three (a b c : Bool) : (bif bif a then b else false then c else false) = (a && (b && c)) := by cases a <;> cases b <;> rfl
theorem rightS_ok : SoundCt Try.prog 92 cRightS :=
 plain (ps := [.d spanT]) (rs := [.bool]) C0_ok (fn := Try.f92) (fr := fun x => Fr.val (bif bif decide (x.1.1 ≥ 1) then decide (x.1.1 <= x.1.2.1) else false then decide (x.1.2.1 <= 292195) else false, ())) ((0, 0, ()), ()) (by kernel_rfl) (fun x => by kernel_rfl) _ _
  (fun _ _ x _ _ _ => ⟨trivial, by simp only [Fr.get, rightS, three]⟩)
def cNaN : Ct := ⟨[.d i64], [.bool], fun _ => (false, ()), fun _ => []⟩
theorem nan1_ok : SoundCt Try.prog 146 cNaN :=
 plain (ps := [.d i64]) (rs := [.bool]) C0_ok (fn := Try.f146) (fr := fun x => Fr.val (x.1 != x.1, ())) (0, ()) (by kernel_rfl) (fun x => by kernel_rfl) _ _ (fun _ _ x _ _ _ => ⟨trivial, by simp [Fr.get]⟩)
theorem nan2_ok : SoundCt Try.prog 126 cNaN :=
 plain (ps := [.d i64]) (rs := [.bool]) C0_ok (fn := Try.f126) (fr := fun x => Fr.val (x.1 != x.1, ())) (0, ()) (by kernel_rfl) (fun x => by kernel_rfl) _ _ (fun _ _ x _ _ _ => ⟨trivial, by simp [Fr.get]⟩)
def Γ1 : FuncId -> Option Ct := fun f => if f = 146 then some cNaN else if f = 126 then some cNaN else none
def C1 : Cx := ⟨Γ1, fun _ => none, fun _ _ _ _ => none⟩
theorem onlyCt {Γ : FuncId -> Option Ct} (h : ∀ f ct, Γ f = some ct -> SoundCt Try.prog f ct) : CxOK Try.prog ⟨Γ, fun _ => none, fun _ _ _ _ => none⟩ :=
 ⟨mixed, ⟨h, fun _ _ h => (nomatch h)⟩, fun _ _ h => (nomatch h), fun _ _ _ _ _ h => (nomatch h)⟩
theorem C1_ok : CxOK Try.prog C1 := onlyCt fun f ct h => by
 simp only [Γ1] at h
 split at h
 ·rename_i hf; subst hf; cases h; exact nan1_ok
 ·split at h
  ·rename_i hf; subst hf; cases h; exact nan2_ok
  ·cases h
def cLess : Ct := ⟨[.d i64, .d i64], [.bool], fun x => (decide (x.1 < x.2.1), ()), fun _ => []⟩
theorem less_ok : SoundCt Try.prog 127 cLess :=
 plain (ps := [.d i64, .d i64]) (rs := [.bool]) C1_ok (fn := Try.f127) (fr := fun x => Fr.val (bif bif (cNaN.f (x.1, ())).1 then !(cNaN.f (x.2.1, ())).1 else false then true else decide (x.1 < x.2.1), ())) (0, 0, ()) (by kernel_rfl) (fun x => by kernel_rfl) _ _
  (fun _ _ x _ _ _ => ⟨trivial, rfl⟩)
def bodyOf : Code -> Nat -> Option Code
 | .loop c, 0 => some c
 | .seq a b, k => if k < loopsIn a then bodyOf a k else bodyOf b (k - loopsIn a)
 | .cond _ a b, k => if k < loopsIn a then bodyOf a k else bodyOf b (k - loopsIn a)
 | .block _ c, k => bodyOf c k
 | .scope c, k => bodyOf c k
 | _, _ => none
def loopOf (f : Func) (k : Nat) : Code := (f.body.bind (bodyOf · k)).getD .skip
def Γ2 : FuncId -> Option Ct := fun f => if f = 146 then some cNaN else if f = 127 then some cLess else none
def C2 : Cx := ⟨Γ2, fun _ => none, fun _ _ _ _ => none⟩
theorem C2_ok : CxOK Try.prog C2 := onlyCt fun f ct h => by
 simp only [Γ2] at h
 split at h
 ·rename_i hf; subst hf; cases h; exact nan1_ok
 ·split at h
  ·rename_i hf; subst hf; cases h; exact less_ok
  ·cases h
def cnt (l : List Int) (x : Int) : Nat := l.countP fun y => decide (y < x)
theorem cnt_at {l : List Int} {x : Int} {i : Nat} (h1 : ∀ k y, k < i -> l[k]? = some y -> y < x) (h2 : ∀ k y, i <= k -> l[k]? = some y -> ¬ y < x) (hi : i <= l.length) : cnt l x = i := by
 unfold cnt
 rw [← List.take_append_drop i l, List.countP_append]
 have e1 : (l.take i).countP (fun y => decide (y < x)) = (l.take i).length := by
  rw [List.countP_eq_length]
  intro y hy
  obtain ⟨k, hk⟩ := List.mem_iff_getElem?.1 hy
  rw [List.getElem?_take] at hk
  split at hk
  ·rename_i hlt
   simpa using h1 k y hlt hk
  ·cases hk
 have e2 : (l.drop i).countP (fun y => decide (y < x)) = 0 := by
  rw [List.countP_eq_zero]
  intro y hy
  obtain ⟨k, hk⟩ := List.mem_iff_getElem?.1 hy
  rw [List.getElem?_drop] at hk
  simpa using h2 (i + k) y (by omega) hk
 rw [e1, e2, List.length_take]
 omega
abbrev ptB : Pt := ⟨54, 0, ⟨[(0, .d ints), (1, .d i64), (6, .d i64), (7, .d i64), (8, .d i64)], []⟩, ⟨[(0, .d ints), (1, .d i64), (6, .d i64), (7, .d i64)], []⟩, ⟨[], []⟩⟩
def mid (i j : Int) : Int := IntKind.i64.wrap ((IntKind.u64.wrap (IntKind.i64.wrap (i + j))).fdiv (2 ^ min (Int.toNat 1) IntKind.u64.bits))
def frB (x : ptB.M.X) : Fr ptB.Out :=
 Fr.br (decide (x.1.2.2.2.1 < x.1.2.2.2.2.1))
  (Fr.need (¬ (1 : Int) < 0)
   (Fr.need (0 <= mid x.1.2.2.2.1 x.1.2.2.2.2.1 /\ mid x.1.2.2.2.1 x.1.2.2.2.2.1 < x.1.1.length)
    (Fr.br (cLess.f (x.1.1.getD (mid x.1.2.2.2.1 x.1.2.2.2.2.1).toNat i64.dflt, x.1.2.1, ())).1
     (Fr.val (Rd.next ((x.1.1, x.1.2.1, x.1.2.2.1, IntKind.i64.wrap (mid x.1.2.2.2.1 x.1.2.2.2.2.1 + 1), x.1.2.2.2.2.1, ()), ())))
     (Fr.val (Rd.next ((x.1.1, x.1.2.1, x.1.2.2.1, x.1.2.2.2.1, mid x.1.2.2.2.1 x.1.2.2.2.2.1, ()), ()))))))
  (Fr.val (Rd.out ((x.1.1, x.1.2.1, x.1.2.2.1, x.1.2.2.2.1, ()), ())))
theorem semB : Does Try.prog (loopOf Try.f143 0) ptB.M ptB frB :=
 Does.of_run C2_ok (bs := 0) (Λ := noΛ) rfl rfl rfl (fun E => noΛ_ok _ 0) (fun x => by kernel_rfl)
theorem mid_eq {i j : Int} (hi : 0 <= i) (hij : i <= j) (hj : j <= 9223372036854775807) : mid i j = (i + j) / 2 := by
 unfold mid
 have h1 : IntKind.u64.wrap (IntKind.i64.wrap (i + j)) = i + j := by
  rw [IntKind.wrap_i64, IntKind.wrap_u64]
  omega
 have h2 : (2 : Int) ^ min (Int.toNat 1) IntKind.u64.bits = 2 := by decide
 rw [h1, h2, Int.fdiv_eq_ediv_of_nonneg _ (by decide), IntWalk.i64_in _ (by omega)]
structure InvB (l : List Int) (x i j : Int) : Prop where
 lo : 0 <= i
 le : i <= j
 hi : j <= l.length
 big : (l.length : Int) <= 9223372036854775807
 up : l.Pairwise (· < ·)
 below : ∀ (k : Nat) (y : Int), (k : Int) < i -> l[k]? = some y -> y < x
 above : ∀ (k : Nat) (y : Int), j <= k -> l[k]? = some y -> ¬ y < x
def FB (x : ptB.M.X) : Fr ptB.Out :=
 Fr.need (InvB x.1.1 x.1.2.1 x.1.2.2.2.1 x.1.2.2.2.2.1) (Fr.val (Rd.out ((x.1.1, x.1.2.1, x.1.2.2.1, (cnt x.1.1 x.1.2.1 : Int), ()), ())))
theorem up_get {l : List Int} (h : l.Pairwise (· < ·)) {a b : Nat} {y z : Int} (hab : a < b) (ha : l[a]? = some y) (hb : l[b]? = some z) : y < z := by
 obtain ⟨h1, rfl⟩ := List.getElem?_eq_some_iff.1 ha
 obtain ⟨h2, rfl⟩ := List.getElem?_eq_some_iff.1 hb
 exact (List.pairwise_iff_getElem.1 h) a b h1 h2 hab
theorem lawB (l : List Int) (x n i j : Int) (hinv : InvB l x i j) (Q : ptB.Out -> Prop) (hQ : Q (Rd.out ((l, x, n, (cnt l x : Int), ()), ()))) :
  (frB ((l, x, n, i, j, ()), ())).satP fun
   | .next x' => InvB x'.1.1 x'.1.2.1 x'.1.2.2.2.1 x'.1.2.2.2.2.1 /\ (x'.1.2.2.2.2.1 - x'.1.2.2.2.1).toNat < (j - i).toNat /\ (FB x').satP Q
   | .out y => Q (.out y)
   | .back z => Q (.back z)
   | .pan p => Q (.pan p) := by
 obtain ⟨h1, h2, h3, h4, h5, h6, h7⟩ := hinv
 simp only [frB, Fr.satP, decide_eq_true_eq, decide_eq_false_iff_not]
 refine ⟨fun hij => ?_, fun hij => ?_⟩
 ·have hij : i < j := hij
  have hm := mid_eq h1 h2 (by omega)
  have hmid : 0 <= (i + j) / 2 /\ (i + j) / 2 < l.length := by omega
  rw [hm]
  refine ⟨by omega, hmid, ?_⟩
  obtain ⟨y, hy⟩ : ∃ y, l[((i + j) / 2).toNat]? = some y := by
   have : ((i + j) / 2).toNat < l.length := by omega
   exact ⟨_, List.getElem?_eq_getElem this⟩
  have hget : l.getD ((i + j) / 2).toNat i64.dflt = y := by
   rw [List.getD_eq_getElem?_getD, hy]
   rfl
  rw [hget]
  show (decide (y < x) = true -> _) /\ (decide (y < x) = false -> _)
  simp only [decide_eq_true_eq, decide_eq_false_iff_not]
  refine ⟨fun hyx => ?_, fun hyx => ?_⟩
  ·have hyx : y < x := hyx
   have hw : IntKind.i64.wrap ((i + j) / 2 + 1) = (i + j) / 2 + 1 := IntWalk.i64_in _ (by omega)
   rw [hw]
   have hn : InvB l x ((i + j) / 2 + 1) j := ⟨by omega, by omega, h3, h4, h5, fun k z hk hz => by
    by_cases hk2 : k < ((i + j) / 2).toNat
    ·exact Int.lt_trans (up_get h5 hk2 hz hy) hyx
    ·have : k = ((i + j) / 2).toNat := by omega
     subst this
     rw [hy] at hz
     cases hz
     exact hyx, h7⟩
   exact ⟨hn, by show (j - ((i + j) / 2 + 1)).toNat < (j - i).toNat; omega, hn, hQ⟩
  ·have hyx : ¬ y < x := hyx
   have hn : InvB l x i ((i + j) / 2) := ⟨h1, by omega, by omega, h4, h5, h6, fun k z hk hz => by
    by_cases hk2 : ((i + j) / 2).toNat < k
    ·have := up_get h5 hk2 hy hz
     omega
    ·have : k = ((i + j) / 2).toNat := by omega
     subst this
     rw [hy] at hz
     cases hz
     exact hyx⟩
   exact ⟨hn, by show ((i + j) / 2 - i).toNat < (j - i).toNat; omega, hn, hQ⟩
 ·have hij : ¬ i < j := hij
  have hij' : i = j := by omega
  subst hij'
  have hc : cnt l x = i.toNat := cnt_at (fun k y hk hy => h6 k y (by omega) hy) (fun k y hk hy => h7 k y (by omega) hy) (by omega)
  rw [hc] at hQ
  have : ((i.toNat : Nat) : Int) = i := by omega
  rw [this] at hQ
  exact hQ
theorem loopB : Does Try.prog (.loop (loopOf Try.f143 0)) ptB.M ptB FB := by
 refine Does.loop (n := 54) (id := 0) semB (inv := fun x => InvB x.1.1 x.1.2.1 x.1.2.2.2.1 x.1.2.2.2.2.1) (μ := fun x => (x.1.2.2.2.2.1 - x.1.2.2.2.1).toNat) ?_ (fun x Q h => h.1)
 rintro ⟨⟨l, x, n, i, j, _⟩, _⟩ hinv Q hq
 exact lawB l x n i j hinv Q hq.2
def cntLe (l : List Int) (x : Int) : Nat := l.countP fun y => decide (y <= x)
def valAt (f : stepT.den) (d : Int) : Int := match cntLe f.1 d with
 | 0 => 0
 | k + 1 => f.2.1.getD k 0
def rises : List Int -> List Int -> Int -> Int -> Bool
 | d :: l, v :: r, day, last => (decide (day < d) && (decide (d <= 292194) && (!(v == last) && money v))) && rises l r d v
 | _, _, _, _ => true
def rightSt (f : stepT.den) : Bool := decide (f.1.length = f.2.1.length) && rises f.1 f.2.1 0 0
end Go.Proofs.Ytplkgghjldndkaa
namespace Go.Proofs.Ytplkgghjldndkaa
open Go Go.Ab Go.RowKit Go.Proofs Go.Shelf
attribute [local go_sem] Oper.semAt_some
def piecesGo (f : stepT.den) (e : Int) : List Int -> Int -> List (Int × Int × Int)
 | [], a => [(a, e, valAt f a)]
 | d :: l, a => if d <= a ∨ e <= d then piecesGo f e l a else (a, d, valAt f a) :: piecesGo f e l d
def KpS (n₀ B1 B2 : Nat) (W W' : World) : Prop := Below n₀ W W' /\ W'.heap[B1]? = W.heap[B1]? /\ W'.heap[B2]? = W.heap[B2]?
theorem KpS.refl (n₀ B1 B2 : Nat) (W : World) : KpS n₀ B1 B2 W W := ⟨Below.refl _ _, rfl, rfl⟩
theorem KpS.trans {n₀ B1 B2 : Nat} {A B C : World} (h : KpS n₀ B1 B2 A B) (k : KpS n₀ B1 B2 B C) : KpS n₀ B1 B2 A C := ⟨h.1.trans k.1, k.2.1.trans h.2.1, k.2.2.trans h.2.2⟩
theorem KpS.below {n₀ B1 B2 : Nat} {W W' : World} (h : Below W.heap.size W W') (h0 : n₀ <= W.heap.size) (h1 : B1 < W.heap.size) (h2 : B2 < W.heap.size) : KpS n₀ B1 B2 W W' := ⟨h.mono h0, h.block _ h1, h.block _ h2⟩
end Go.Proofs.Ytplkgghjldndkaa
namespace Go.Proofs.Ytplkgghjldndkaa
open Go Go.Ab Go.RowKit Go.Proofs Go.Shelf
attribute [local go_sem] Oper.semAt_some
theorem cell_of_block {W : World} {b : Nat} {cs : Array Value} {t : TypeId} {x : Nat × Nat} (h : W.heap[b]? = some (.cells cs t x)) (i : Nat) : W.cell? ⟨b, i, none⟩ = cs[i]? := by
 simp [World.cell?, h]
section
variable {α : Type} {g : α -> Int × Int × Int}
theorem nextEl {β : Type} {g : α -> β} {all pre : List α} {y : β} {rest : List β} (h : pre.map g ++ y :: rest = all.map g) (hp : pre <+: all) : ∃ x, g x = y /\ pre ++ [x] <+: all := by
 obtain ⟨t, rfl⟩ := hp
 rw [List.map_append] at h
 have h' := List.append_cancel_left h
 cases t with
 | nil => cases h'
 | cons x t =>
  simp only [List.map_cons, List.cons.injEq] at h'
  exact ⟨x, h'.1.symm, t, by simp⟩
def PieceRel (g : α -> Int × Int × Int) (f : stepT.den) (e1 : Int) (at_ : List Int) (all : List α) (k : Nat) (cur : Int) (pre : List α) : Prop := pre <+: all /\ pre.map g ++ piecesGo f e1 (at_.drop k) cur = all.map g
theorem PieceRel.skip {f : stepT.den} {e1 : Int} {at_ : List Int} {all : List α} {k : Nat} {cur : Int} {pre : List α} (h : PieceRel g f e1 at_ all k cur pre) {d : Int} (hd : at_[k]? = some d) (hc : d <= cur ∨ e1 <= d) : PieceRel g f e1 at_ all (k + 1) cur pre := by
 obtain ⟨hk, rfl⟩ := List.getElem?_eq_some_iff.1 hd
 refine ⟨h.1, ?_⟩
 have h2 := h.2
 rw [List.drop_eq_getElem_cons hk] at h2
 rw [← h2]
 conv => rhs; unfold piecesGo
 rw [if_pos hc]
theorem PieceRel.step {f : stepT.den} {e1 : Int} {at_ : List Int} {all : List α} {k : Nat} {cur : Int} {pre : List α} (h : PieceRel g f e1 at_ all k cur pre) {d : Int} (hd : at_[k]? = some d) (hc : ¬ (d <= cur ∨ e1 <= d)) :
  ∃ x, g x = (cur, d, valAt f cur) /\ PieceRel g f e1 at_ all (k + 1) d (pre ++ [x]) /\ pre.length < all.length := by
 obtain ⟨hk, rfl⟩ := List.getElem?_eq_some_iff.1 hd
 have h2 := h.2
 rw [List.drop_eq_getElem_cons hk] at h2
 unfold piecesGo at h2
 rw [if_neg hc] at h2
 obtain ⟨x, hx, hp⟩ := nextEl h2 h.1
 refine ⟨x, hx, ⟨hp, ?_⟩, ?_⟩
 ·rw [← h2]
  simp [hx]
 ·have := hp.length_le
  simp at this
  omega
theorem PieceRel.last {f : stepT.den} {e1 : Int} {at_ : List Int} {all : List α} {k : Nat} {cur : Int} {pre : List α} (h : PieceRel g f e1 at_ all k cur pre) (hk : at_.length <= k) :
  ∃ x, g x = (cur, e1, valAt f cur) /\ pre ++ [x] = all /\ pre.length < all.length := by
 have h2 := h.2
 rw [List.drop_eq_nil_of_le hk] at h2
 obtain ⟨x, hx, hp⟩ := nextEl (y := (cur, e1, valAt f cur)) (rest := []) h2 h.1
 have hl := congrArg List.length h2
 simp [piecesGo] at hl
 refine ⟨x, hx, hp.eq_of_length (by simp; omega), by omega⟩
end
end Go.Proofs.Ytplkgghjldndkaa
namespace Go.Proofs.Ytplkgghjldndkaa
open Go Go.Ab Go.RowKit Go.Proofs Go.Shelf
attribute [local go_sem] Oper.semAt_some
theorem money_iff {v : Int} : money v = true ↔ -4000000000000000000 <= v /\ v <= 4000000000000000000 := by simp [money]
end Go.Proofs.Ytplkgghjldndkaa
namespace Go.Proofs.Ytplkgghjldndkaa
open Go Go.Ab Go.RowKit Go.Proofs Go.Shelf
attribute [local go_sem] Oper.semAt_some
structure Four (W : World) (z : Nat) (va vb x0 x1 x4 x5 : Value) : Prop where
 b0 : W.heap[z]? = some (.cells #[va, vb] 155 (0, 0))
 b1 : W.heap[z + 1]? = some (.cells #[x0, x1] 27 (0, 0))
 b2 : Boxed W (z + 1 + 1) 3 x4
 b3 : Boxed W (z + 1 + 1 + 1) 42 x5
theorem Four.below {W W' : World} {z m : Nat} {va vb x0 x1 x4 x5 : Value} (h : Four W z va vb x0 x1 x4 x5) (hb : Below m W W') (hm : z + 3 < m) : Four W' z va vb x0 x1 x4 x5 :=
 ⟨(hb.block _ (by omega)).trans h.b0, (hb.block _ (by omega)).trans h.b1, (hb.block _ (by omega)).trans h.b2, (hb.block _ (by omega)).trans h.b3⟩
theorem Four.cells {W : World} {z : Nat} {va vb x0 x1 x4 x5 : Value} (h : Four W z va vb x0 x1 x4 x5) :
  W.cell? ⟨z, 0, none⟩ = some va /\ W.cell? ⟨z, 1, none⟩ = some vb /\ W.cell? ⟨z + 1, 0, none⟩ = some x0 /\ W.cell? ⟨z + 1, 1, none⟩ = some x1 /\
   W.cell? ⟨z + 1 + 1, 0, none⟩ = some x4 /\ W.frozen? ⟨z + 1 + 1, 0, none⟩ = false /\ W.cell? ⟨z + 1 + 1 + 1, 0, none⟩ = some x5 /\ W.frozen? ⟨z + 1 + 1 + 1, 0, none⟩ = false :=
 ⟨cell_of_block h.b0 0, cell_of_block h.b0 1, cell_of_block h.b1 0, cell_of_block h.b1 1, h.b2.cell, h.b2.frozen, h.b3.cell, h.b3.frozen⟩
theorem box_abides {X Y : World} {row : Option Nat} {B b : Nat} {t : TypeId} {v : Value} (h : Boxed X b t v) (hg : X.grownBy Y row) (hr : ∀ r, row = some r -> B <= r /\ ∃ o : Obj, X.heap[r]? = some o /\ o.isCells = false) : Boxed Y b t v :=
 boxed_own b t (fun (_ : Unit) => v) () X Y row h hg (fun r e => (hr r e).2)
end Go.Proofs.Ytplkgghjldndkaa
namespace Go.Proofs.Ytplkgghjldndkaa
open Go Go.Ab Go.RowKit Go.Proofs Go.Shelf
theorem fullS_iff {a b : Int} {u : Unit} : fullS (a, b, u) = true ↔ 1 <= a /\ a < b /\ b <= 292195 := by
 simp [fullS]
end Go.Proofs.Ytplkgghjldndkaa
namespace Go.Proofs.Ytplkgghjldndkaa
open Go Go.Ab Go.RowKit Go.Proofs
abbrev slsT : Ty := .sl sliceT
theorem bif_and (a b : Bool) : (bif a then b else false) = (a && b) := by cases a <;> rfl
theorem bif_or (a b : Bool) : (bif a then true else b) = (a || b) := by cases a <;> rfl
theorem i64w {n : Int} (h : -9223372036854775808 <= n /\ n <= 9223372036854775807) : IntKind.i64.wrap n = n := IntWalk.i64_in _ h
def m32 (a : Int) : Int := IntKind.u64.wrap ((BitVec.ofInt IntKind.u64.bits a &&& BitVec.ofInt IntKind.u64.bits 4294967295).toNat : Int)
def h32 (a : Int) : Int := a.fdiv (2 ^ min (Int.toNat 32) IntKind.u64.bits)
theorem u64w {n : Int} (h : 0 <= n /\ n <= 18446744073709551615) : IntKind.u64.wrap n = n := IntWalk.u64_in _ h
theorem m32_eq {a : Int} (h : 0 <= a /\ a <= 18446744073709551615) : m32 a = a % 4294967296 := by
 obtain ⟨n, rfl⟩ : ∃ n : Nat, a = n := ⟨a.toNat, by omega⟩
 unfold m32
 have e1 : (BitVec.ofInt IntKind.u64.bits (n : Int) &&& BitVec.ofInt IntKind.u64.bits 4294967295).toNat = n % 4294967296 := by
  have h1 : (BitVec.ofInt IntKind.u64.bits (n : Int)).toNat = n := by
   rw [BitVec.toNat_ofInt]
   show ((n : Int) % ((2 ^ 64 : Nat) : Int)).toNat = n
   omega
  have h2 : (BitVec.ofInt IntKind.u64.bits (4294967295 : Int)).toNat = 2 ^ 32 - 1 := by decide
  rw [BitVec.toNat_and, h1, h2, Nat.and_two_pow_sub_one_eq_mod]
 rw [e1, u64w (by omega)]
 omega
theorem h32_eq {a : Int} : h32 a = a / 4294967296 := by
 unfold h32
 have : (2 : Int) ^ min (Int.toNat 32) IntKind.u64.bits = 4294967296 := by decide
 rw [this, Int.fdiv_eq_ediv_of_nonneg _ (by decide)]
def mulT (x y : Int) : Int := IntKind.u64.wrap (IntKind.u64.wrap (h32 x * m32 y) + h32 (IntKind.u64.wrap (m32 x * m32 y)))
def frMul (x : denP [.d u64, .d u64]) : Fr (denL [u64, u64]) :=
 Fr.need (¬ (32 : Int) < 0) (Fr.need (¬ (32 : Int) < 0) (Fr.need (¬ (32 : Int) < 0) (Fr.need (¬ (32 : Int) < 0) (Fr.need (¬ (32 : Int) < 0)
  (Fr.val (IntKind.u64.wrap (IntKind.u64.wrap (IntKind.u64.wrap (h32 x.1 * h32 x.2.1) + h32 (mulT x.1 x.2.1)) + h32 (IntKind.u64.wrap (m32 (mulT x.1 x.2.1) + IntKind.u64.wrap (m32 x.1 * h32 x.2.1)))),
   IntKind.u64.wrap (x.1 * x.2.1), ()))))))
def cMul : Ct := ⟨[.d u64, .d u64], [u64, u64], fun x => (x.1 * x.2.1 / 18446744073709551616, x.1 * x.2.1 % 18446744073709551616, ()), fun _ => []⟩
theorem prod_bd {a b n : Int} (ha : 0 <= a /\ a <= n) (hb : 0 <= b /\ b <= n) : 0 <= a * b /\ a * b <= n * n :=
 ⟨Int.mul_nonneg ha.1 hb.1, Int.mul_le_mul ha.2 hb.2 hb.1 (by omega)⟩
theorem mul_split (a1 a0 b1 b0 : Int) : (a1 * 4294967296 + a0) * (b1 * 4294967296 + b0) = a1 * b1 * 18446744073709551616 + (a1 * b0 + a0 * b1) * 4294967296 + a0 * b0 := by grind
theorem mul_plain {x y : Int} (hx : 0 <= x /\ x <= 18446744073709551615) (hy : 0 <= y /\ y <= 18446744073709551615) :
  IntKind.u64.wrap (IntKind.u64.wrap (IntKind.u64.wrap (h32 x * h32 y) + h32 (mulT x y)) + h32 (IntKind.u64.wrap (m32 (mulT x y) + IntKind.u64.wrap (m32 x * h32 y)))) = x * y / 18446744073709551616 := by
 have ex : x = x / 4294967296 * 4294967296 + x % 4294967296 := by omega
 have ey : y = y / 4294967296 * 4294967296 + y % 4294967296 := by omega
 have hs := mul_split (x / 4294967296) (x % 4294967296) (y / 4294967296) (y % 4294967296)
 rw [← ex, ← ey] at hs
 rw [hs]
 unfold mulT
 rw [m32_eq hx, m32_eq hy]
 simp only [h32_eq]
 have b1 : 0 <= x / 4294967296 /\ x / 4294967296 <= 4294967295 := by omega
 have b2 : 0 <= x % 4294967296 /\ x % 4294967296 <= 4294967295 := by omega
 have b3 : 0 <= y / 4294967296 /\ y / 4294967296 <= 4294967295 := by omega
 have b4 : 0 <= y % 4294967296 /\ y % 4294967296 <= 4294967295 := by omega
 have p11 := prod_bd b1 b3
 have p10 := prod_bd b1 b4
 have p01 := prod_bd b2 b3
 have p00 := prod_bd b2 b4
 clear hs ex ey b1 b2 b3 b4
 generalize x / 4294967296 * (y / 4294967296) = q11 at *
 generalize x / 4294967296 * (y % 4294967296) = q10 at *
 generalize x % 4294967296 * (y / 4294967296) = q01 at *
 generalize x % 4294967296 * (y % 4294967296) = q00 at *
 rw [u64w (n := q11) (by omega), u64w (n := q10) (by omega), u64w (n := q01) (by omega), u64w (n := q00) (by omega), u64w (n := q10 + q00 / 4294967296) (by omega), m32_eq (a := q10 + q00 / 4294967296) (by omega),
  u64w (n := (q10 + q00 / 4294967296) % 4294967296 + q01) (by omega)]
 rw [u64w (n := q11 + (q10 + q00 / 4294967296) / 4294967296) (by omega), u64w (by omega)]
 omega
theorem u64_of {w : World} {F : Nat -> Prop} {n : Int} {v : Value} (h : RepV w F u64 n v) : 0 <= n /\ n <= 18446744073709551615 := h.2.2.2
theorem i64_of {w : World} {F : Nat -> Prop} {n : Int} {v : Value} (h : RepV w F i64 n v) : -9223372036854775808 <= n /\ n <= 9223372036854775807 := h.2.2.2
theorem mul_ok : SoundCt Try.prog 134 cMul :=
 flat (ps := [.d u64, .d u64]) (rs := [u64, u64]) (cx_ok (cs := []) (ps := []) mixed trivial trivial) (fn := Try.f134) (fr := frMul) (0, 0, ()) (by kernel_rfl) (fun x => by kernel_rfl) _ _
  (fun w F x vs hr _ => by
   obtain ⟨a, b, u⟩ := x
   obtain ⟨v1, vs1, rfl, h1, v2, vs2, rfl, h2, _⟩ := hr
   have g1 := u64_of h1
   have g2 := u64_of h2
   refine ⟨⟨by decide, by decide, by decide, by decide, by decide, trivial⟩, ?_⟩
   show (IntKind.u64.wrap (IntKind.u64.wrap (IntKind.u64.wrap (h32 a * h32 b) + h32 (mulT a b)) + h32 (IntKind.u64.wrap (m32 (mulT a b) + IntKind.u64.wrap (m32 a * h32 b)))), IntKind.u64.wrap (a * b), ()) = (a * b / 18446744073709551616, a * b % 18446744073709551616, ())
   have hw : IntKind.u64.wrap (a * b) = a * b % 18446744073709551616 := by
    rw [IntKind.wrap_u64]
   rw [mul_plain g1 g2, hw])
noncomputable def XiN : FuncId -> Option (Func × (Nat -> St -> Option Tr)) := envF [(133, (Try.f133, lam0))]
noncomputable def XiO : FuncId -> Option (Func × (Nat -> St -> Option Tr)) := envF [(123, (Try.f123, lam0)), (122, (Try.f122, lam0))]
theorem XiN_ok : ∀ f fn Λ, XiN f = some (fn, Λ) -> Try.prog.funcs[f]? = some fn /\ ∀ c E', fn.body = some c -> LamOK Try.prog E' Λ c 0 := fun f fn Λ h => by
 simp only [XiN, envF] at h
 split at h
 ·rename_i hf
  subst hf
  cases h
  exact ⟨by kernel_rfl, fun c E' _ => lam0_ok c 0⟩
 ·cases h
theorem XiO_ok : ∀ f fn Λ, XiO f = some (fn, Λ) -> Try.prog.funcs[f]? = some fn /\ ∀ c E', fn.body = some c -> LamOK Try.prog E' Λ c 0 := fun f fn Λ h => by
 simp only [XiO, envF] at h
 split at h
 ·rename_i hf
  subst hf
  cases h
  exact ⟨by kernel_rfl, fun c E' _ => lam0_ok c 0⟩
 ·split at h
  ·rename_i hf
   subst hf
   cases h
   exact ⟨by kernel_rfl, fun c E' _ => lam0_ok c 0⟩
  ·cases h
def evFin (q : Int) : Fr (denL [i64, i64]) := Fr.br (decide (q > 4000000000000000000)) (Fr.val (0, 5, ())) (Fr.val (IntKind.i64.wrap q, 0, ()))
def evT (q r c : Int) : Fr (denL [i64, i64]) :=
 Fr.br (decide (q > 4000000000000000000)) (Fr.val (0, 5, ()))
  (Fr.need ((r == IntKind.u64.wrap (c - r)) = true -> decide (r > IntKind.u64.wrap (c - r)) = false -> (2 : Int) ≠ 0)
   (Fr.br (bif decide (r > IntKind.u64.wrap (c - r)) then true else bif r == IntKind.u64.wrap (c - r) then q.tmod 2 == 1 else false) (evFin (IntKind.u64.wrap (q + 1))) (evFin q)))
def evenQ (p c : Int) : Int := if p % c > c - p % c ∨ (p % c = c - p % c /\ p / c % 2 = 1) then p / c + 1 else p / c
def evenF (a b c : Int) : Int × Int := if a < 0 ∨ b < 0 ∨ c < 0 then (0, 1) else if c = 0 then (0, 6) else if evenQ (a * b) c > 4000000000000000000 then (0, 5) else (evenQ (a * b) c, 0)
theorem bif3 (a b c : Bool) : (bif bif a then true else b then true else c) = (a || (b || c)) := by cases a <;> cases b <;> rfl
theorem evFin_eq {q : Int} (h : 0 <= q) : (evFin q).ok /\ (evFin q).get = if q > 4000000000000000000 then (0, 5, ()) else (q, 0, ()) := by
 refine ⟨⟨fun _ => trivial, fun _ => trivial⟩, ?_⟩
 show (if decide (q > 4000000000000000000) = true then ((0 : Int), (5 : Int), ()) else (IntKind.i64.wrap q, (0 : Int), ())) = _
 by_cases hq : q > 4000000000000000000
 ·rw [if_pos (by simpa using hq), if_pos hq]
 ·have hw : IntKind.i64.wrap q = q := i64w (by omega)
  rw [if_neg (by simpa using hq), if_neg hq, hw]
theorem evT_eq {q r c : Int} (hr : 0 <= r /\ r < c) (hc : c <= 9223372036854775807) (hq : 0 <= q) :
  (evT q r c).ok /\ (evT q r c).get = if (if r > c - r ∨ (r = c - r /\ q % 2 = 1) then q + 1 else q) > 4000000000000000000 then (0, 5, ()) else ((if r > c - r ∨ (r = c - r /\ q % 2 = 1) then q + 1 else q), 0, ()) := by
 have hw : IntKind.u64.wrap (c - r) = c - r := u64w (by omega)
 have hm : q.tmod 2 = q % 2 := Int.tmod_eq_emod_of_nonneg hq
 unfold evT
 rw [hw, hm]
 by_cases h1 : q > 4000000000000000000
 ·have hd : decide (q > 4000000000000000000) = true := by simpa using h1
  refine ⟨⟨fun _ => trivial, fun hb => by rw [hd] at hb; cases hb⟩, ?_⟩
  show (if decide (q > 4000000000000000000) = true then ((0 : Int), (5 : Int), ()) else _) = _
  rw [hd, if_pos rfl, if_pos]
  split <;> omega
 ·have hd : decide (q > 4000000000000000000) = false := by simpa using h1
  have hcond : (bif decide (r > c - r) then true else bif r == c - r then q % 2 == 1 else false) = decide (r > c - r ∨ (r = c - r /\ q % 2 = 1)) := by
   rw [bif_or, bif_and]
   generalize c - r = d
   rw [Bool.eq_iff_iff]
   simp
  rw [hcond]
  have hw2 : IntKind.u64.wrap (q + 1) = q + 1 := u64w (by omega)
  rw [hw2]
  have f1 := evFin_eq (q := q + 1) (by omega)
  have f2 := evFin_eq (q := q) hq
  refine ⟨⟨fun _ => trivial, fun _ => ⟨fun _ _ => by decide, fun _ => f1.1, fun _ => f2.1⟩⟩, ?_⟩
  show (if decide (q > 4000000000000000000) = true then ((0 : Int), (5 : Int), ()) else if decide (r > c - r ∨ (r = c - r /\ q % 2 = 1)) = true then (evFin (q + 1)).get else (evFin q).get) = _
  rw [hd, if_neg (by decide), f1.2, f2.2]
  by_cases h2 : r > c - r ∨ (r = c - r /\ q % 2 = 1)
  ·simp only [h2, decide_true, if_true]
  ·simp only [h2, decide_false, if_false, Bool.false_eq_true]
def addAV (p : List Int × List Int) (day v : Int) : List Int × List Int :=
 let q := if p.1.getLast? = some day then (p.1.dropLast, p.2.dropLast) else p
 if v ≠ q.2.getLast?.getD 0 /\ day <= 292194 then (q.1 ++ [day], q.2 ++ [v]) else q
section
variable {α : Type}
end
end Go.Proofs.Ytplkgghjldndkaa
namespace Go.Proofs.Ytplkgghjldndkaa
open Go Go.Ab Go.RowKit Go.Proofs
theorem valAt_nonneg {f : stepT.den} (h : ∀ y ∈ f.2.1, 0 <= y) (d : Int) : 0 <= valAt f d := by
 unfold valAt
 split
 ·exact Int.le_refl _
 ·rename_i k _
  rw [List.getD_eq_getElem?_getD]
  cases hk : f.2.1[k]? with
  | none => simp
  | some y =>
   have := h y (List.mem_of_getElem? hk)
   simpa using this
structure Pos (f : stepT.den) : Prop where
 right : rightSt f = true
 pos : ∀ y ∈ f.2.1, 0 <= y
theorem Pos.val {f : stepT.den} (h : Pos f) (d : Int) : 0 <= valAt f d := valAt_nonneg h.pos d
theorem rises_snoc {d v : Int} : {l r : List Int} -> (d0 v0 : Int) -> l.length = r.length ->
  rises (l ++ [d]) (r ++ [v]) d0 v0 = (rises l r d0 v0 && (decide (l.getLast?.getD d0 < d) && (decide (d <= 292194) && (!(v == r.getLast?.getD v0) && money v))))
 | [], [], d0, v0, _ => by
  show (_ && true) = (true && _)
  rw [Bool.and_true, Bool.true_and]
  rfl
 | [], _ :: _, _, _, h => by simp at h
 | _ :: _, [], _, _, h => by simp at h
 | a :: l, b :: r, d0, v0, h => by
  have ih := rises_snoc (d := d) (v := v) (l := l) (r := r) a b (by simpa using h)
  simp only [List.cons_append, rises]
  rw [ih]
  have e1 : (a :: l).getLast?.getD d0 = l.getLast?.getD a := by
   rw [List.getLast?_cons]
   rfl
  have e2 : (b :: r).getLast?.getD v0 = r.getLast?.getD b := by
   rw [List.getLast?_cons]
   rfl
  rw [e1, e2]
  simp only [Bool.and_assoc]
structure Good (p : List Int × List Int) (m : Int) : Prop where
 len : p.1.length = p.2.length
 up : rises p.1 p.2 0 0 = true
 le : p.1.getLast?.getD 0 <= m
 pos : ∀ y ∈ p.2, 0 <= y
theorem getLast_le {l : List Int} {x : Int} (h : l.getLast? = some x) : l = l.dropLast ++ [x] := by
 cases l with
 | nil => simp at h
 | cons a l =>
  rw [List.getLast?_eq_some_getLast (by simp)] at h
  simp only [Option.some.injEq] at h
  rw [← h]
  exact (List.dropLast_concat_getLast (by simp)).symm
theorem Good.pop {p : List Int × List Int} {m day : Int} (h : Good p m) (hl : p.1.getLast? = some day) : Good (p.1.dropLast, p.2.dropLast) (day - 1) /\ day <= m := by
 obtain ⟨at_, val⟩ := p
 obtain ⟨h1, h2, h3, h4⟩ := h
 simp only at *
 have e1 := getLast_le hl
 cases hv : val.getLast? with
 | none =>
  have : val = [] := by simpa using hv
  subst this
  rw [e1] at h1
  simp at h1
 | some y =>
  have e2 := getLast_le hv
  have hlen : at_.dropLast.length = val.dropLast.length := by simp [h1]
  rw [e1, e2, rises_snoc 0 0 hlen] at h2
  simp only [Bool.and_eq_true, decide_eq_true_eq] at h2
  refine ⟨⟨hlen, h2.1, ?_, fun z hz => h4 z ?_⟩, ?_⟩
  ·have := h2.2.1
   show at_.dropLast.getLast?.getD 0 <= day - 1
   omega
  ·rw [e2]
   exact List.mem_append_left _ hz
  ·rw [hl] at h3
   exact h3
theorem Good.push {p : List Int × List Int} {m day v : Int} (h : Good p m) (hd : m < day) (hday : day <= 292194) (hv : 0 <= v /\ v <= 4000000000000000000) (hne : v ≠ p.2.getLast?.getD 0) : Good (p.1 ++ [day], p.2 ++ [v]) day := by
 obtain ⟨h1, h2, h3, h4⟩ := h
 refine ⟨by simp [h1], ?_, by simp, fun z hz => ?_⟩
 ·show rises (p.1 ++ [day]) (p.2 ++ [v]) 0 0 = true
  rw [rises_snoc 0 0 h1, h2]
  have hm : money v = true := money_iff.2 (by omega)
  have hb : (v == p.2.getLast?.getD 0) = false := by simpa using hne
  have hlt : p.1.getLast?.getD 0 < day := by omega
  simp [hm, hb, hlt, hday]
 ·rcases List.mem_append.1 hz with hz | hz
  ·exact h4 z hz
  ·simp only [List.mem_singleton] at hz
   subst hz
   exact hv.1
theorem Good.mono {p : List Int × List Int} {m m' : Int} (h : Good p m) (hm : m <= m') : Good p m' := ⟨h.len, h.up, Int.le_trans h.le hm, h.pos⟩
theorem Good.add {p : List Int × List Int} {m day v : Int} (h : Good p m) (hd : m <= day) (h1 : 1 <= day) (hv : 0 <= v /\ v <= 4000000000000000000) : Good (addAV p day v) day := by
 unfold addAV
 by_cases hl : p.1.getLast? = some day
 ·have hp := (h.pop hl).1
  simp only [hl, if_true]
  split
  ·rename_i hc
   exact hp.push (by omega) hc.2 hv hc.1
  ·exact hp.mono (by omega)
 ·simp only [hl, if_false]
  have hlt : p.1.getLast?.getD 0 <= day - 1 := by
   have hle := h.le
   cases hx : p.1.getLast? with
   | none => show (0 : Int) <= _; omega
   | some x =>
    rw [hx] at hle hl
    have hne : x ≠ day := fun he => hl (by rw [he])
    have hle' : x <= m := hle
    show x <= _
    omega
  have hg : Good p (day - 1) := ⟨h.len, h.up, hlt, h.pos⟩
  split
  ·rename_i hc
   exact hg.push (by omega) hc.2 hv hc.1
  ·exact hg.mono (by omega)
noncomputable def CH0 : Cx := cx [(92, cRightS)] []
theorem CH0_ok : CxOK Try.prog CH0 := cx_ok mixed ⟨rightS_ok, trivial⟩ trivial
def fr_riskR (x : denP [.d riskT]) : Fr (denL [.bool]) :=
 Fr.val (bif bif bif bif bif bif decide (x.1.1 ≥ 0) then decide (x.1.1 < 4) else false then bif decide (x.1.2.1 ≥ 1) then decide (x.1.2.1 <= 1000000000000000) else false else false then decide (x.1.2.2.1 ≥ 0) else false then decide (x.1.2.2.1 <= 200) else false then decide (x.1.2.2.2.1 ≥ 0) else false then decide (x.1.2.2.2.1 < 100) else false, ())
theorem fr_riskR_ok : SoundCt Try.prog 78 ⟨[.d riskT], [.bool], fun xs => (fr_riskR xs).get, fun xs => [(fr_riskR xs).ok]⟩ :=
 fn_sound CH0_ok (Λ := lam0) (fn := Try.f78) (dfP [.d riskT]) (by kernel_rfl) (fun c E _ => lam0_ok c 0) (fun x => by kernel_rfl)
def fr_dayC (x : denP [.d i64]) : Fr (denL [.bool]) :=
 Fr.val (bif decide (x.1 ≥ 1) then decide (x.1 <= 292194) else false, ())
theorem fr_dayC_ok : SoundCt Try.prog 68 ⟨[.d i64], [.bool], fun xs => (fr_dayC xs).get, fun xs => [(fr_dayC xs).ok]⟩ :=
 fn_sound CH0_ok (Λ := lam0) (fn := Try.f68) (dfP [.d i64]) (by kernel_rfl) (fun c E _ => lam0_ok c 0) (fun x => by kernel_rfl)
def fr_kept (x : denP [.d spanT]) : Fr (denL [spanT]) :=
 Fr.br (bif !(cRightS.f ((x.1.1, x.1.2.1, ()), ())).1 then true else x.1.1 == x.1.2.1) (Fr.val ((0, 0, ()), ())) (Fr.val ((x.1.1, x.1.2.1, ()), ()))
theorem fr_kept_ok : SoundCt Try.prog 66 ⟨[.d spanT], [spanT], fun xs => (fr_kept xs).get, fun xs => [(fr_kept xs).ok]⟩ :=
 fn_sound CH0_ok (Λ := lam0) (fn := Try.f66) (dfP [.d spanT]) (by kernel_rfl) (fun c E _ => lam0_ok c 0) (fun x => by kernel_rfl)
def riskB (k v a z : Int) : Bool := decide (0 <= k /\ k < 4 /\ 1 <= v /\ v <= 1000000000000000 /\ 0 <= a /\ a <= 200 /\ 0 <= z /\ z < 100)
def cRisk : Ct := ⟨[.d riskT], [.bool], fun x => (riskB x.1.1 x.1.2.1 x.1.2.2.1 x.1.2.2.2.1, ()), fun _ => []⟩
theorem risk_ok : SoundCt Try.prog 78 cRisk :=
 conv fr_riskR_ok _ _ (fun _ _ x _ _ _ => by
  obtain ⟨⟨k, v, a, z, _⟩, _⟩ := x
  refine ⟨by simp [conj, Fr.ok, fr_riskR], ?_⟩
  dsimp only [fr_riskR, Fr.get, riskB, Ty.den, PT.den]
  simp only [Bool.cond_true_left, Bool.cond_false_right]
  congr 1
  rw [Bool.eq_iff_iff]
  simp only [Bool.and_eq_true, Bool.or_eq_true, decide_eq_true_eq]
  omega)
def coverB (p l g d s : Int) : Bool := decide (0 <= p /\ p < 8 /\ 1 <= s /\ s <= 10000 /\ 0 <= d /\ d < l /\ l <= g /\ g <= 1000000000000000)
def cCover : Ct := ⟨[.d coverT], [.bool], fun x => (coverB x.1.1 x.1.2.1 x.1.2.2.1 x.1.2.2.2.1 x.1.2.2.2.2.1, ()), fun _ => []⟩
def dayB (d : Int) : Bool := decide (1 <= d /\ d <= 292194)
def cDay : Ct := ⟨[.d i64], [.bool], fun x => (dayB x.1, ()), fun _ => []⟩
theorem day_ok : SoundCt Try.prog 68 cDay :=
 conv fr_dayC_ok _ _ (fun _ _ x _ _ _ => by
  obtain ⟨d, _⟩ := x
  refine ⟨by simp [conj, Fr.ok, fr_dayC], ?_⟩
  dsimp only [fr_dayC, Fr.get, dayB, Ty.den, PT.den]
  simp only [Bool.cond_false_right]
  congr 1
  rw [Bool.eq_iff_iff]
  simp only [Bool.and_eq_true, decide_eq_true_eq, ge_iff_le])
def inB (a b d : Int) : Bool := decide (1 <= a /\ b <= 292195 /\ a <= d /\ d < b)
def cIn : Ct := ⟨[.d spanT, .d i64], [.bool], fun x => (inB x.1.1 x.1.2.1 x.2.1, ()), fun _ => []⟩
def keptS (s : spanT.den) : spanT.den := if fullS s = true then s else (0, 0, ())
def cKept : Ct := ⟨[.d spanT], [spanT], fun x => (keptS x.1, ()), fun _ => []⟩
theorem kept_p (a b : Int) : ((¬a ≥ 1 ∨ ¬a <= b ∨ ¬b <= 292195) ∨ a = b) ↔ (¬a ≥ 1 ∨ ¬a < b ∨ ¬b <= 292195) := by omega
theorem kept_b (a b : Int) : (bif !(rightS (a, b, ())) then true else a == b) = !(fullS (a, b, ())) := by
 dsimp only [rightS, fullS, Ty.den, PT.den]
 simp only [Bool.cond_true_left]
 rw [Bool.eq_iff_iff]
 simp only [Bool.and_eq_true, Bool.or_eq_true, Bool.not_eq_true', Bool.and_eq_false_iff, decide_eq_true_eq, decide_eq_false_iff_not, beq_iff_eq]
 exact kept_p a b
theorem kept_ok : SoundCt Try.prog 66 cKept :=
 conv fr_kept_ok _ _ (fun _ _ x _ _ _ => by
  obtain ⟨⟨a, b, _⟩, _⟩ := x
  refine ⟨by simp [conj, Fr.ok, fr_kept], ?_⟩
  show (if (bif !(rightS (a, b, ())) then true else a == b) = true then (((0, 0, ()), ()) : spanT.den × Unit) else ((a, b, ()), ())) = (if fullS (a, b, ()) = true then (a, b, ()) else (0, 0, ()), ())
  rw [kept_b]
  cases fullS (a, b, ()) <;> rfl)
noncomputable def CH1 : Cx := cx [(66, cKept)] []
theorem CH1_ok : CxOK Try.prog CH1 := cx_ok mixed ⟨kept_ok, trivial⟩ trivial
noncomputable def CH2 : Cx := cx [(127, cLess), (126, cNaN)] []
theorem CH2_ok : CxOK Try.prog CH2 := cx_ok mixed ⟨less_ok, nan2_ok, trivial⟩ trivial
def srt : List Int -> Bool
 | a :: b :: r => decide (a <= b) && srt (b :: r)
 | _ => true
theorem srt_push : (l : List Int) -> (a b : Int) -> srt (l ++ [a, b]) = (srt (l ++ [a]) && decide (a <= b))
 | [], a, b => by simp [srt]
 | [x], a, b => by simp [srt]
 | x :: y :: l, a, b => by
  have := srt_push (y :: l) a b
  simp only [List.cons_append, srt] at this ⊢
  rw [this, Bool.and_assoc]
abbrev pt_srt : Pt := ⟨21, 0, ⟨[(0, .d ints), (3, .d i64)], []⟩, ⟨[], []⟩, ⟨[(2, .d .bool)], []⟩⟩
def fr_srt (x : pt_srt.M.X) : Fr pt_srt.Out :=
 Fr.br (decide (x.1.2.1 > 0))
  (Fr.need (0 <= x.1.2.1 /\ x.1.2.1 < x.1.1.length)
   (Fr.need (0 <= IntKind.i64.wrap (x.1.2.1 - 1) /\ IntKind.i64.wrap (x.1.2.1 - 1) < x.1.1.length)
    (Fr.br (cLess.f (x.1.1.getD x.1.2.1.toNat i64.dflt, x.1.1.getD (IntKind.i64.wrap (x.1.2.1 - 1)).toNat i64.dflt, ())).1
     (Fr.val (Rd.back ((false, ()), ())))
     (Fr.val (Rd.next ((x.1.1, IntKind.i64.wrap (x.1.2.1 - 1), ()), ()))))))
  (Fr.val (Rd.out ((), ())))
theorem sem_srt : Does Try.prog (loopF Try.f113 0) pt_srt.M pt_srt fr_srt :=
 Does.of_run CH2_ok (bs := 0) (Λ := lam0) rfl rfl rfl (fun E => lam0_ok _ 0) (fun x => by kernel_rfl)
def InS (l : List Int) (i : Int) : Prop := -1 <= i /\ i < l.length /\ (l.length : Int) <= 9223372036854775807
def FSrt (x : pt_srt.M.X) : Fr pt_srt.Out :=
 Fr.need (InS x.1.1 x.1.2.1) (Fr.br (srt (x.1.1.take (x.1.2.1 + 1).toNat)) (Fr.val (Rd.out ((), ()))) (Fr.val (Rd.back ((false, ()), ()))))
theorem srt_take (l : List Int) (k : Nat) (h : k + 1 < l.length) : srt (l.take (k + 2)) = (srt (l.take (k + 1)) && decide (l[k] <= l[k + 1])) := by
 have e1 : l.take (k + 1) = l.take k ++ [l[k]] := (List.take_append_getElem (show k < l.length by omega)).symm
 have e2 : l.take (k + 2) = l.take k ++ [l[k], l[k + 1]] := by
  have e3 : l.take (k + 2) = l.take (k + 1) ++ [l[k + 1]] := (List.take_append_getElem h).symm
  rw [e3, e1, List.append_assoc]
  rfl
 rw [e2, e1, srt_push]
theorem lawSrt (l : List Int) (i : Int) (hinv : InS l i) (Q : pt_srt.Out -> Prop)
  (hq : (Fr.br (srt (l.take (i + 1).toNat)) (Fr.val (Rd.out ((), ()))) (Fr.val (Rd.back ((false, ()), ()))) : Fr pt_srt.Out).satP Q) :
  (fr_srt ((l, i, ()), ())).satP fun
   | .next x' => InS x'.1.1 x'.1.2.1 /\ x'.1.2.1.toNat < i.toNat /\ (FSrt x').satP Q
   | .out y => Q (.out y)
   | .back z => Q (.back z)
   | .pan p => Q (.pan p) := by
 obtain ⟨h1, h2, h3⟩ := hinv
 refine ⟨fun hi => ?_, fun hi => ?_⟩
 ·have hi' : i > 0 := of_decide_eq_true hi
  obtain ⟨k, hk⟩ : ∃ k : Nat, i = k + 1 := ⟨(i - 1).toNat, by omega⟩
  subst hk
  have hw : IntKind.i64.wrap ((k : Int) + 1 - 1) = k := by rw [show (k : Int) + 1 - 1 = k by omega]; exact IntWalk.i64_in _ (by omega)
  have hl : k + 1 < l.length := by omega
  have g1 : l.getD ((k : Int) + 1).toNat i64.dflt = l[k + 1] := by
   rw [show ((k : Int) + 1).toNat = k + 1 by omega, List.getD_eq_getElem?_getD, List.getElem?_eq_getElem hl]; rfl
  have g2 : l.getD (k : Int).toNat i64.dflt = l[k] := by
   rw [show (k : Int).toNat = k by omega, List.getD_eq_getElem?_getD, List.getElem?_eq_getElem (show k < l.length by omega)]; rfl
  have e1 : ((k : Int) + 1 + 1).toNat = k + 2 := by omega
  rw [e1, srt_take l k hl] at hq
  dsimp only [fr_srt, Fr.satP, cLess]
  rw [hw, g1, g2]
  have hI : InS l k := ⟨by omega, by omega, h3⟩
  refine ⟨⟨(show (0 : Int) <= (k : Int) + 1 by omega), h2⟩, ⟨(show (0 : Int) <= (k : Int) by omega), (show (k : Int) < (l.length : Int) by omega)⟩, fun hc => ?_, fun hc => ?_⟩
  ·have hc' : ¬ l[k] <= l[k + 1] := by have := of_decide_eq_true hc; exact Int.not_le.2 this
   rw [decide_eq_false hc', Bool.and_false] at hq
   exact hq.2 rfl
  ·have hc' : l[k] <= l[k + 1] := by have := of_decide_eq_false hc; exact Int.not_lt.1 this
   rw [decide_eq_true hc', Bool.and_true] at hq
   exact ⟨hI, by omega, hI, by rw [show ((k : Int) + 1).toNat = k + 1 by omega]; exact hq⟩
 ·have hi' : ¬ i > 0 := of_decide_eq_false hi
  have hle : (i + 1).toNat <= 1 := by omega
  have : srt (l.take (i + 1).toNat) = true := by
   rcases Nat.lt_or_ge (i + 1).toNat 1 with h | h
   ·rw [show (i + 1).toNat = 0 by omega]; rfl
   ·rw [show (i + 1).toNat = 1 by omega]
    cases l <;> rfl
  rw [this] at hq
  exact hq.1 rfl
theorem loopSrt : Does Try.prog (.loop (loopF Try.f113 0)) pt_srt.M pt_srt FSrt := by
 refine Does.loop (n := 21) (id := 0) sem_srt (inv := fun x => InS x.1.1 x.1.2.1) (μ := fun x => x.1.2.1.toNat) ?_ (fun x Q h => h.1)
 rintro ⟨⟨l, i, _⟩, _⟩ hinv Q hq
 exact lawSrt l i hinv Q hq.2
noncomputable def ΛSrt : Nat -> St -> Option Tr := fun _ => pt_srt.han CH2.Γ pt_srt.M FSrt
def cSorted : Ct := ⟨[.d ints], [.bool], fun x => (srt x.1, ()), fun _ => []⟩
def fr_sorted (x : denP [.d ints]) : Fr (denL [.bool]) :=
 Fr.need (InS x.1 (IntKind.i64.wrap (x.1.length - 1))) (Fr.br (srt (x.1.take (IntKind.i64.wrap (x.1.length - 1) + 1).toNat)) (Fr.val (true, ())) (Fr.val (false, ())))
theorem sorted_ok : SoundCt Try.prog 113 cSorted :=
 conv (fn_sound CH2_ok (Λ := ΛSrt) (fn := Try.f113) (fr := fr_sorted) (ps := [.d ints]) (rs := [.bool]) ([], ()) (by kernel_rfl)
  (fun c E hc => lam1f hc (by kernel_rfl) (b := loopF Try.f113 0) (by kernel_rfl) (Does.han CH2_ok rfl loopSrt)) (fun x => by kernel_rfl)) _ _ fun w F xs vs hr _ => by
  obtain ⟨l, _⟩ := xs
  obtain ⟨v, vs', rfl, hv, _⟩ := hr
  have hwf := RepT.wf hv.2.2
  have hlen : l.length <= maxLen := hwf.1
  have hw : IntKind.i64.wrap ((l.length : Int) - 1) = l.length - 1 := IntWalk.i64_in _ (by simp only [maxLen] at hlen; omega)
  have ht : l.take ((l.length : Int) - 1 + 1).toNat = l := List.take_of_length_le (by omega)
  refine ⟨⟨?_, fun _ => trivial, fun _ => trivial⟩, ?_⟩
  ·show InS l (IntKind.i64.wrap ((l.length : Int) - 1))
   rw [hw]
   simp only [maxLen] at hlen
   exact ⟨by omega, by omega, by omega⟩
  ·show (if srt (l.take (IntKind.i64.wrap ((l.length : Int) - 1) + 1).toNat) = true then (true, ()) else (false, ())) = (srt l, ())
   rw [hw, ht]
   cases srt l <;> rfl
noncomputable def CH3 : Cx := cx [(113, cSorted), (126, cNaN)] []
theorem CH3_ok : CxOK Try.prog CH3 := cx_ok mixed ⟨sorted_ok, nan2_ok, trivial⟩ trivial
def fr_coverR (x : denP [.d coverT]) : Fr (denL [.bool]) :=
 Fr.br (bif decide (x.1.1 ≥ 0) then decide (x.1.1 < 8) else false) (Fr.br (bif decide (x.1.2.2.2.2.1 ≥ 1) then decide (x.1.2.2.2.2.1 <= 10000) else false) (Fr.br (cSorted.f ([0, x.1.2.2.2.1, IntKind.i64.wrap (x.1.2.1 - 1), IntKind.i64.wrap (x.1.2.2.1 - 1), 999999999999999], ())).1 (Fr.val (decide (x.1.2.2.2.1 < x.1.2.1), ())) (Fr.val (false, ()))) (Fr.val (false, ()))) (Fr.val (false, ()))
theorem fr_coverR_ok : SoundCt Try.prog 79 ⟨[.d coverT], [.bool], fun xs => (fr_coverR xs).get, fun xs => [(fr_coverR xs).ok]⟩ :=
 fn_sound CH3_ok (Λ := lam0) (fn := Try.f79) (dfP [.d coverT]) (by kernel_rfl) (fun c E _ => lam0_ok c 0) (fun x => by kernel_rfl)
def fr_cmp (x : denP [.d i64, .d i64]) : Fr (denL [i64]) :=
 Fr.br (cNaN.f (x.1, ())).1 (Fr.br (cNaN.f (x.2.1, ())).1 (Fr.val (0, ())) (Fr.val (-1, ()))) (Fr.br (cNaN.f (x.2.1, ())).1 (Fr.val (1, ())) (Fr.br (decide (x.1 < x.2.1)) (Fr.val (-1, ())) (Fr.br (decide (x.1 > x.2.1)) (Fr.val (1, ())) (Fr.val (0, ())))))
theorem fr_cmp_ok : SoundCt Try.prog 112 ⟨[.d i64, .d i64], [i64], fun xs => (fr_cmp xs).get, fun xs => [(fr_cmp xs).ok]⟩ :=
 fn_sound CH3_ok (Λ := lam0) (fn := Try.f112) (dfP [.d i64, .d i64]) (by kernel_rfl) (fun c E _ => lam0_ok c 0) (fun x => by kernel_rfl)
def fr_inS (x : denP [.d spanT, .d i64]) : Fr (denL [.bool]) :=
 Fr.val (bif decide (x.2.1 ≥ (cKept.f ((x.1.1, x.1.2.1, ()), ())).1.1) then decide (x.2.1 < (cKept.f ((x.1.1, x.1.2.1, ()), ())).1.2.1) else false, ())
theorem fr_inS_ok : SoundCt Try.prog 40 ⟨[.d spanT, .d i64], [.bool], fun xs => (fr_inS xs).get, fun xs => [(fr_inS xs).ok]⟩ :=
 fn_sound CH1_ok (Λ := lam0) (fn := Try.f40) (dfP [.d spanT, .d i64]) (by kernel_rfl) (fun c E _ => lam0_ok c 0) (fun x => by kernel_rfl)
def fr_manyS (x : denP [.d spanT]) : Fr (denL [i64]) :=
 Fr.val (IntKind.i64.wrap ((cKept.f ((x.1.1, x.1.2.1, ()), ())).1.2.1 - (cKept.f ((x.1.1, x.1.2.1, ()), ())).1.1), ())
theorem fr_manyS_ok : SoundCt Try.prog 106 ⟨[.d spanT], [i64], fun xs => (fr_manyS xs).get, fun xs => [(fr_manyS xs).ok]⟩ :=
 fn_sound CH1_ok (Λ := lam0) (fn := Try.f106) (dfP [.d spanT]) (by kernel_rfl) (fun c E _ => lam0_ok c 0) (fun x => by kernel_rfl)
theorem i64wf {n : Int} (h : Wf i64 n) : -9223372036854775808 <= n /\ n <= 9223372036854775807 := h
theorem wrap_less {n : Int} (h : -9223372036854775808 <= n /\ n <= 9223372036854775807) : (n = -9223372036854775808 /\ IntKind.i64.wrap (n - 1) = 9223372036854775807) ∨ (-9223372036854775808 < n /\ IntKind.i64.wrap (n - 1) = n - 1) := by
 by_cases hn : n = -9223372036854775808
 ·left
  subst hn
  exact ⟨rfl, by kernel_rfl⟩
 ·right
  exact ⟨by omega, i64w (by omega)⟩
theorem coverR_b (p l g d s : Int) (hl : -9223372036854775808 <= l /\ l <= 9223372036854775807) (hg : -9223372036854775808 <= g /\ g <= 9223372036854775807) :
  (srt [0, d, IntKind.i64.wrap (l - 1), IntKind.i64.wrap (g - 1), 999999999999999] && decide (d < l)) = decide (0 <= d /\ d < l /\ l <= g /\ g <= 1000000000000000) := by
 rw [Bool.eq_iff_iff]
 simp only [srt, Bool.and_eq_true, decide_eq_true_eq]
 rcases wrap_less hl with ⟨h1, h2⟩ | ⟨h1, h2⟩ <;> rcases wrap_less hg with ⟨h3, h4⟩ | ⟨h3, h4⟩ <;> rw [h2, h4]
 ·omega
 ·omega
 ·omega
 ·constructor
  ·rintro ⟨⟨a1, a2, a3, a4, _⟩, a5⟩
   exact ⟨a1, a5, by omega, by omega⟩
  ·rintro ⟨a1, a2, a3, a4⟩
   exact ⟨⟨a1, by omega, by omega, by omega, trivial⟩, a2⟩
theorem cover_ok : SoundCt Try.prog 79 cCover :=
 conv fr_coverR_ok _ _ (fun w F x vs hr _ => by
  obtain ⟨⟨p, l, g, d, s, _⟩, _⟩ := x
  obtain ⟨v, vs', rfl, hv, _⟩ := hr
  have hwf := RepT.wf hv.2.2
  refine ⟨by simp [conj, Fr.ok, fr_coverR], ?_⟩
  have hb := coverR_b p l g d s (i64wf hwf.2.1) (i64wf hwf.2.2.1)
  show (if (bif decide (p ≥ 0) then decide (p < 8) else false) = true then (if (bif decide (s ≥ 1) then decide (s <= 10000) else false) = true then (if srt [0, d, IntKind.i64.wrap (l - 1), IntKind.i64.wrap (g - 1), 999999999999999] = true then (decide (d < l), ()) else (false, ())) else (false, ())) else (false, ())) = (coverB p l g d s, ())
  have h1 : (if srt [0, d, IntKind.i64.wrap (l - 1), IntKind.i64.wrap (g - 1), 999999999999999] = true then ((decide (d < l), ()) : Bool × Unit) else (false, ())) = (decide (0 <= d /\ d < l /\ l <= g /\ g <= 1000000000000000), ()) := by
   rw [← hb]
   cases srt [0, d, IntKind.i64.wrap (l - 1), IntKind.i64.wrap (g - 1), 999999999999999] <;> rfl
  rw [h1]
  have h2 : ∀ (a b c : Bool), (if a = true then (if b = true then ((c, ()) : Bool × Unit) else (false, ())) else (false, ())) = (a && (b && c), ()) := fun a b c => by cases a <;> cases b <;> rfl
  rw [h2]
  congr 1
  rw [Bool.eq_iff_iff]
  simp only [coverB, Bool.cond_false_right, Bool.and_eq_true, decide_eq_true_eq]
  exact ⟨fun ⟨⟨a1, a2⟩, ⟨a3, a4⟩, a5⟩ => ⟨a1, a2, a3, a4, a5⟩, fun ⟨a1, a2, a3, a4, a5⟩ => ⟨⟨a1, a2⟩, ⟨a3, a4⟩, a5⟩⟩)
def cmpZ (a b : Int) : Int := if a < b then -1 else if b < a then 1 else 0
def cCmp : Ct := ⟨[.d i64, .d i64], [i64], fun x => (cmpZ x.1 x.2.1, ()), fun _ => []⟩
theorem cmp_ok : SoundCt Try.prog 112 cCmp :=
 conv fr_cmp_ok _ _ (fun _ _ x _ _ _ => by
  obtain ⟨a, b, _⟩ := x
  refine ⟨by simp [conj, Fr.ok, fr_cmp], ?_⟩
  show (if decide (a < b) = true then ((-1 : Int), ()) else if decide (a > b) = true then (1, ()) else (0, ())) = (if a < b then -1 else if b < a then 1 else 0, ())
  by_cases h1 : a < b
  ·rw [if_pos (decide_eq_true h1), if_pos h1]
  ·rw [if_neg (by simp [h1]), if_neg h1]
   by_cases h2 : b < a
   ·rw [if_pos (decide_eq_true h2), if_pos h2]
   ·rw [if_neg (by simpa using h2), if_neg h2])
theorem inS_b (a b d : Int) : (bif decide (d ≥ (keptS (a, b, ())).1) then decide (d < (keptS (a, b, ())).2.1) else false) = inB a b d := by
 unfold keptS
 by_cases h : fullS (a, b, ()) = true
 ·rw [if_pos h]
  obtain ⟨h1, h2, h3⟩ := fullS_iff.1 h
  simp only [Bool.cond_false_right, inB]
  rw [Bool.eq_iff_iff]
  simp only [Bool.and_eq_true, decide_eq_true_eq, Ty.den, PT.den]
  constructor
  ·rintro ⟨a1, a2⟩; exact ⟨h1, h3, a1, a2⟩
  ·rintro ⟨_, _, a1, a2⟩; exact ⟨a1, a2⟩
 ·rw [if_neg h]
  have h' : ¬ (1 <= a /\ a < b /\ b <= 292195) := fun hh => h (fullS_iff.2 hh)
  simp only [Bool.cond_false_right, inB]
  rw [Bool.eq_iff_iff]
  simp only [Bool.and_eq_true, decide_eq_true_eq]
  constructor
  ·rintro ⟨a1, a2⟩
   have a1' : (0 : Int) <= d := a1
   have a2' : d < (0 : Int) := a2
   omega
  ·rintro ⟨a1, a2, a3, a4⟩
   exact absurd ⟨a1, by omega, a2⟩ h'
theorem inS_ok : SoundCt Try.prog 40 cIn :=
 conv fr_inS_ok _ _ (fun _ _ x _ _ _ => by
  obtain ⟨⟨a, b, _⟩, d, _⟩ := x
  refine ⟨by simp [conj, Fr.ok, fr_inS], ?_⟩
  exact congrArg (·, ()) (inS_b a b d))
def manyS (a b : Int) : Int := if fullS (a, b, ()) = true then b - a else 0
def cManyS : Ct := ⟨[.d spanT], [i64], fun x => (manyS x.1.1 x.1.2.1, ()), fun _ => []⟩
theorem manyS_ok : SoundCt Try.prog 106 cManyS :=
 conv fr_manyS_ok _ _ (fun _ _ x _ _ _ => by
  obtain ⟨⟨a, b, _⟩, _⟩ := x
  refine ⟨by simp [conj, Fr.ok, fr_manyS], ?_⟩
  show (IntKind.i64.wrap ((keptS (a, b, ())).2.1 - (keptS (a, b, ())).1), ()) = (manyS a b, ())
  unfold keptS manyS
  by_cases h : fullS (a, b, ()) = true
  ·rw [if_pos h, if_pos h]
   obtain ⟨h1, h2, h3⟩ := fullS_iff.1 h
   have hw : IntKind.i64.wrap (b - a) = b - a := i64w (by omega)
   exact congrArg (·, ()) hw
  ·rw [if_neg h, if_neg h]
   rfl)
abbrev bandT : Ty := .pair i64 (.pair i64 .unit)
noncomputable def CH4 : Cx := cx [(79, cCover)] []
theorem CH4_ok : CxOK Try.prog CH4 := cx_ok mixed ⟨cover_ok, trivial⟩ trivial
abbrev pt_r10_Same : Pt := ⟨26, 0, ⟨[(5, .d i64), (0, .d (.sl coverT)), (1, .d (.sl coverT))], []⟩, ⟨[], []⟩, ⟨[(4, .d .bool)], []⟩⟩
def fr_r10_Same (x : pt_r10_Same.M.X) : Fr pt_r10_Same.Out :=
 Fr.br (decide (x.1.1 < ↑(List.length x.1.2.1))) (Fr.need (0 <= x.1.1 /\ x.1.1 < ↑(List.length x.1.2.1)) (Fr.need (0 <= x.1.1 /\ x.1.1 < ↑(List.length x.1.2.2.1)) (Fr.br (!((List.getD x.1.2.1 (Int.toNat x.1.1) coverT.dflt).1 == (List.getD x.1.2.2.1 (Int.toNat x.1.1) coverT.dflt).1 && ((List.getD x.1.2.1 (Int.toNat x.1.1) coverT.dflt).2.1 == (List.getD x.1.2.2.1 (Int.toNat x.1.1) coverT.dflt).2.1 && ((List.getD x.1.2.1 (Int.toNat x.1.1) coverT.dflt).2.2.1 == (List.getD x.1.2.2.1 (Int.toNat x.1.1) coverT.dflt).2.2.1 && ((List.getD x.1.2.1 (Int.toNat x.1.1) coverT.dflt).2.2.2.1 == (List.getD x.1.2.2.1 (Int.toNat x.1.1) coverT.dflt).2.2.2.1 && ((List.getD x.1.2.1 (Int.toNat x.1.1) coverT.dflt).2.2.2.2.1 == (List.getD x.1.2.2.1 (Int.toNat x.1.1) coverT.dflt).2.2.2.2.1 && true)))))) (Fr.val (Rd.back ((false, ()), ()))) (Fr.val (Rd.next ((IntKind.i64.wrap (x.1.1 + 1), x.1.2.1, x.1.2.2.1, ()), ())))))) (Fr.val (Rd.out ((), ())))
theorem sem_r10_Same : Does Try.prog (loopF Try.f118 0) pt_r10_Same.M pt_r10_Same fr_r10_Same :=
 Does.of_run CH4_ok (bs := 0) (Λ := lam0) rfl rfl rfl (fun E => lam0_ok _ 0) (fun x => by kernel_rfl)
abbrev st_r10_Same : Type := denP [.d (.sl coverT)] × denM []
def step_r10_Same (e : (coverT.den × coverT.den)) (s : st_r10_Same) : Fr (st_r10_Same ⊕ pt_r10_Same.R.X) :=
 Fr.br (!(e.1.1 == e.2.1 && (e.1.2.1 == e.2.2.1 && (e.1.2.2.1 == e.2.2.2.1 && (e.1.2.2.2.1 == e.2.2.2.2.1 && (e.1.2.2.2.2.1 == e.2.2.2.2.2.1 && true)))))) (Fr.val (.inr ((false, ()), ()))) (Fr.val (.inl ((s.1.1, ()), ())))
def un_r10_Same (x : pt_r10_Same.M.X) : Int × List (coverT.den × coverT.den) × st_r10_Same := (x.1.1, x.1.2.1.zip x.1.2.2.1, x.1.2.2, x.2)
def good_r10_Same (x : pt_r10_Same.M.X) : Prop := x.1.2.1.length = x.1.2.2.1.length
def out_r10_Same (s : st_r10_Same) : pt_r10_Same.E.X := ((), ())
def dS_r10_Same : st_r10_Same := (dfP _, dfM _)
def dR_r10_Same : pt_r10_Same.R.X := (dfP _, dfM _)
theorem loop_r10_Same : Does Try.prog (.loop (loopF Try.f118 0)) pt_r10_Same.M pt_r10_Same (FL step_r10_Same un_r10_Same good_r10_Same out_r10_Same Rd.back dS_r10_Same dR_r10_Same) := by
 refine Does.list sem_r10_Same step_r10_Same un_r10_Same good_r10_Same out_r10_Same Rd.back dS_r10_Same dR_r10_Same ?_ ?_
 ·rintro ⟨⟨i, l, s⟩, m⟩ hg h0 h1 hb e he Q h
  have hz : l.length = s.1.length := hg
  have h0 : 0 <= i := h0
  have h1 : i < (l.length : Int) := zip_lt hz h1
  have hb : (l.length : Int) <= 9223372036854775807 := zip_le hz hb
  have h1z : i < (s.1.length : Int) := by rw [← hz]; exact h1
  have hd : l.getD i.toNat coverT.dflt = e.1 := getD_of (zip_fst he)
  have hdz : s.1.getD i.toNat coverT.dflt = e.2 := getD_of (zip_snd he)
  have hw := wrap_next h0 h1 hb
  dsimp only [un_r10_Same, step_r10_Same, fr_r10_Same, Fr.satP] at h ⊢
  simp only [hd, hw, hdz] at h ⊢
  refine ⟨fun _ => ?_, fun hn => absurd h1 (of_decide_eq_false hn)⟩
  repeat' first
   | exact h
   | exact ⟨h0, h1⟩
   | exact fun _ => ⟨h0, h1⟩
   | exact ⟨h0, h1z⟩
   | exact fun _ => ⟨h0, h1z⟩
   | exact h _ rfl hz
   | refine ⟨?_, ?_⟩
   | (intro (hc : _ = true); replace h := h.1 hc)
   | (intro (hc : _ = false); replace h := h.2 hc)
 ·rintro ⟨⟨i, l, s⟩, m⟩ hg h1 Q h
  have hz : l.length = s.1.length := hg
  exact ⟨fun hn => absurd (of_decide_eq_true hn) (zip_nlt hz h1), fun _ => h⟩
def Λ_r10_Same (Γ : Gm) : St -> Option Tr := pt_r10_Same.han Γ pt_r10_Same.M (FL step_r10_Same un_r10_Same good_r10_Same out_r10_Same Rd.back dS_r10_Same dR_r10_Same)
def res_r10_Same (y : pt_r10_Same.M.X) : st_r10_Same ⊕ pt_r10_Same.R.X := goL step_r10_Same ((un_r10_Same y).2.1.drop (un_r10_Same y).1.toNat) (un_r10_Same y).2.2
def okr_r10_Same (y : pt_r10_Same.M.X) : Prop := okL step_r10_Same ((un_r10_Same y).2.1.drop (un_r10_Same y).1.toNat) (un_r10_Same y).2.2
abbrev pt_alike : Pt := ⟨26, 0, ⟨[(14, .d i64), (13, .d i64), (12, .d (.sl coverT)), (1, .d (.sl coverT))], []⟩, ⟨[], []⟩, ⟨[(4, .d .bool)], []⟩⟩
def fr_alike (x : pt_alike.M.X) : Fr pt_alike.Out :=
 Fr.br (decide (x.1.1 < x.1.2.1)) (Fr.need (0 <= x.1.1 /\ x.1.1 < ↑(List.length x.1.2.2.1)) (Fr.need (0 <= x.1.1 /\ x.1.1 < ↑(List.length x.1.2.2.2.1)) (Fr.br (!((List.getD x.1.2.2.1 (Int.toNat x.1.1) coverT.dflt).1 == (List.getD x.1.2.2.2.1 (Int.toNat x.1.1) coverT.dflt).1 && ((List.getD x.1.2.2.1 (Int.toNat x.1.1) coverT.dflt).2.1 == (List.getD x.1.2.2.2.1 (Int.toNat x.1.1) coverT.dflt).2.1 && ((List.getD x.1.2.2.1 (Int.toNat x.1.1) coverT.dflt).2.2.1 == (List.getD x.1.2.2.2.1 (Int.toNat x.1.1) coverT.dflt).2.2.1 && ((List.getD x.1.2.2.1 (Int.toNat x.1.1) coverT.dflt).2.2.2.1 == (List.getD x.1.2.2.2.1 (Int.toNat x.1.1) coverT.dflt).2.2.2.1 && ((List.getD x.1.2.2.1 (Int.toNat x.1.1) coverT.dflt).2.2.2.2.1 == (List.getD x.1.2.2.2.1 (Int.toNat x.1.1) coverT.dflt).2.2.2.2.1 && true)))))) (Fr.val (Rd.back ((false, ()), ()))) (Fr.val (Rd.next ((IntKind.i64.wrap (x.1.1 + 1), x.1.2.1, x.1.2.2.1, x.1.2.2.2.1, ()), ())))))) (Fr.val (Rd.out ((), ())))
theorem sem_alike : Does Try.prog (loopF Try.f109 0) pt_alike.M pt_alike fr_alike :=
 Does.of_run CH4_ok (bs := 0) (Λ := lam0) rfl rfl rfl (fun E => lam0_ok _ 0) (fun x => by kernel_rfl)
abbrev st_alike : Type := denP [.d (.sl coverT)] × denM []
def step_alike (e : (coverT.den × coverT.den)) (s : st_alike) : Fr (st_alike ⊕ pt_alike.R.X) :=
 Fr.br (!(e.1.1 == e.2.1 && (e.1.2.1 == e.2.2.1 && (e.1.2.2.1 == e.2.2.2.1 && (e.1.2.2.2.1 == e.2.2.2.2.1 && (e.1.2.2.2.2.1 == e.2.2.2.2.2.1 && true)))))) (Fr.val (.inr ((false, ()), ()))) (Fr.val (.inl ((s.1.1, ()), ())))
def un_alike (x : pt_alike.M.X) : Int × List (coverT.den × coverT.den) × st_alike := (x.1.1, x.1.2.2.1.zip x.1.2.2.2.1, x.1.2.2.2, x.2)
def good_alike (x : pt_alike.M.X) : Prop := x.1.2.1 = (x.1.2.2.1.length : Int) /\ x.1.2.2.1.length = x.1.2.2.2.1.length
def out_alike (s : st_alike) : pt_alike.E.X := ((), ())
def dS_alike : st_alike := (dfP _, dfM _)
def dR_alike : pt_alike.R.X := (dfP _, dfM _)
theorem loop_alike : Does Try.prog (.loop (loopF Try.f109 0)) pt_alike.M pt_alike (FL step_alike un_alike good_alike out_alike Rd.back dS_alike dR_alike) := by
 refine Does.list sem_alike step_alike un_alike good_alike out_alike Rd.back dS_alike dR_alike ?_ ?_
 ·rintro ⟨⟨i, n, l, s⟩, m⟩ hg h0 h1 hb e he Q h
  obtain ⟨hg, hz⟩ : n = (l.length : Int) /\ l.length = s.1.length := hg
  subst hg
  have h0 : 0 <= i := h0
  have h1 : i < (l.length : Int) := zip_lt hz h1
  have hb : (l.length : Int) <= 9223372036854775807 := zip_le hz hb
  have h1z : i < (s.1.length : Int) := by rw [← hz]; exact h1
  have hd : l.getD i.toNat coverT.dflt = e.1 := getD_of (zip_fst he)
  have hdz : s.1.getD i.toNat coverT.dflt = e.2 := getD_of (zip_snd he)
  have hw := wrap_next h0 h1 hb
  dsimp only [un_alike, step_alike, fr_alike, Fr.satP] at h ⊢
  simp only [hd, hw, hdz] at h ⊢
  refine ⟨fun _ => ?_, fun hn => absurd h1 (of_decide_eq_false hn)⟩
  repeat' first
   | exact h
   | exact ⟨h0, h1⟩
   | exact fun _ => ⟨h0, h1⟩
   | exact ⟨h0, h1z⟩
   | exact fun _ => ⟨h0, h1z⟩
   | exact h _ rfl ⟨rfl, hz⟩
   | refine ⟨?_, ?_⟩
   | (intro (hc : _ = true); replace h := h.1 hc)
   | (intro (hc : _ = false); replace h := h.2 hc)
 ·rintro ⟨⟨i, n, l, s⟩, m⟩ hg h1 Q h
  obtain ⟨hg, hz⟩ : n = (l.length : Int) /\ l.length = s.1.length := hg
  subst hg
  exact ⟨fun hn => absurd (of_decide_eq_true hn) (zip_nlt hz h1), fun _ => h⟩
def Λ_alike (Γ : Gm) : St -> Option Tr := pt_alike.han Γ pt_alike.M (FL step_alike un_alike good_alike out_alike Rd.back dS_alike dR_alike)
def res_alike (y : pt_alike.M.X) : st_alike ⊕ pt_alike.R.X := goL step_alike ((un_alike y).2.1.drop (un_alike y).1.toNat) (un_alike y).2.2
def okr_alike (y : pt_alike.M.X) : Prop := okL step_alike ((un_alike y).2.1.drop (un_alike y).1.toNat) (un_alike y).2.2
abbrev pt_terms_Covers : Pt := ⟨32, 0, ⟨[(8, .d i64), (7, .d i64), (6, .d (.sl coverT)), (0, .d (.sl coverT)), (3, .d i64)], []⟩, ⟨[(0, .d (.sl coverT))], []⟩, ⟨[(2, .d .bool)], []⟩⟩
def fr_terms_Covers (x : pt_terms_Covers.M.X) : Fr pt_terms_Covers.Out :=
 Fr.br (decide (x.1.1 < x.1.2.1)) (Fr.need (0 <= x.1.1 /\ x.1.1 < ↑(List.length x.1.2.2.1)) (Fr.br (bif decide ((List.getD x.1.2.2.1 (Int.toNat x.1.1) coverT.dflt).1 <= x.1.2.2.2.2.1) then true else !(cCover.f (((List.getD x.1.2.2.1 (Int.toNat x.1.1) coverT.dflt).1, (List.getD x.1.2.2.1 (Int.toNat x.1.1) coverT.dflt).2.1, (List.getD x.1.2.2.1 (Int.toNat x.1.1) coverT.dflt).2.2.1, (List.getD x.1.2.2.1 (Int.toNat x.1.1) coverT.dflt).2.2.2.1, (List.getD x.1.2.2.1 (Int.toNat x.1.1) coverT.dflt).2.2.2.2.1, ()), ())).1) (Fr.val (Rd.back ((false, ()), ()))) (Fr.val (Rd.next ((IntKind.i64.wrap (x.1.1 + 1), x.1.2.1, x.1.2.2.1, x.1.2.2.2.1, (List.getD x.1.2.2.1 (Int.toNat x.1.1) coverT.dflt).1, ()), ()))))) (Fr.val (Rd.out ((x.1.2.2.2.1, ()), ())))
theorem sem_terms_Covers : Does Try.prog (loopF Try.f100 0) pt_terms_Covers.M pt_terms_Covers fr_terms_Covers :=
 Does.of_run CH4_ok (bs := 0) (Λ := lam0) rfl rfl rfl (fun E => lam0_ok _ 0) (fun x => by kernel_rfl)
abbrev st_terms_Covers : Type := denP [.d (.sl coverT), .d i64] × denM []
def step_terms_Covers (e : coverT.den) (s : st_terms_Covers) : Fr (st_terms_Covers ⊕ pt_terms_Covers.R.X) :=
 Fr.br (bif decide (e.1 <= s.1.2.1) then true else !(cCover.f ((e.1, e.2.1, e.2.2.1, e.2.2.2.1, e.2.2.2.2.1, ()), ())).1) (Fr.val (.inr ((false, ()), ()))) (Fr.val (.inl ((s.1.1, e.1, ()), ())))
def un_terms_Covers (x : pt_terms_Covers.M.X) : Int × List coverT.den × st_terms_Covers := (x.1.1, x.1.2.2.1, x.1.2.2.2, x.2)
def good_terms_Covers (x : pt_terms_Covers.M.X) : Prop := x.1.2.1 = (x.1.2.2.1.length : Int)
def out_terms_Covers (s : st_terms_Covers) : pt_terms_Covers.E.X := ((s.1.1, ()), ())
def dS_terms_Covers : st_terms_Covers := (dfP _, dfM _)
def dR_terms_Covers : pt_terms_Covers.R.X := (dfP _, dfM _)
theorem loop_terms_Covers : Does Try.prog (.loop (loopF Try.f100 0)) pt_terms_Covers.M pt_terms_Covers (FL step_terms_Covers un_terms_Covers good_terms_Covers out_terms_Covers Rd.back dS_terms_Covers dR_terms_Covers) := by
 refine Does.list sem_terms_Covers step_terms_Covers un_terms_Covers good_terms_Covers out_terms_Covers Rd.back dS_terms_Covers dR_terms_Covers ?_ ?_
 ·rintro ⟨⟨i, n, l, s⟩, m⟩ hg h0 h1 hb e he Q h
  have hg : n = (l.length : Int) := hg
  subst hg
  have h0 : 0 <= i := h0
  have h1 : i < (l.length : Int) := h1
  have hb : (l.length : Int) <= 9223372036854775807 := hb
  have hd : l.getD i.toNat coverT.dflt = e := getD_of he
  have hw := wrap_next h0 h1 hb
  dsimp only [un_terms_Covers, step_terms_Covers, fr_terms_Covers, Fr.satP] at h ⊢
  simp only [hd, hw] at h ⊢
  refine ⟨fun _ => ?_, fun hn => absurd h1 (of_decide_eq_false hn)⟩
  repeat' first
   | exact h
   | exact ⟨h0, h1⟩
   | exact fun _ => ⟨h0, h1⟩
   | exact h _ rfl rfl
   | refine ⟨?_, ?_⟩
   | (intro (hc : _ = true); replace h := h.1 hc)
   | (intro (hc : _ = false); replace h := h.2 hc)
 ·rintro ⟨⟨i, n, l, s⟩, m⟩ hg h1 Q h
  have hg : n = (l.length : Int) := hg
  subst hg
  exact ⟨fun hn => absurd (of_decide_eq_true hn) h1, fun _ => h⟩
def Λ_terms_Covers (Γ : Gm) : St -> Option Tr := pt_terms_Covers.han Γ pt_terms_Covers.M (FL step_terms_Covers un_terms_Covers good_terms_Covers out_terms_Covers Rd.back dS_terms_Covers dR_terms_Covers)
def res_terms_Covers (y : pt_terms_Covers.M.X) : st_terms_Covers ⊕ pt_terms_Covers.R.X := goL step_terms_Covers ((un_terms_Covers y).2.1.drop (un_terms_Covers y).1.toNat) (un_terms_Covers y).2.2
def okr_terms_Covers (y : pt_terms_Covers.M.X) : Prop := okL step_terms_Covers ((un_terms_Covers y).2.1.drop (un_terms_Covers y).1.toNat) (un_terms_Covers y).2.2
abbrev pt_risk_Bands : Pt := ⟨37, 0, ⟨[(8, .d i64), (7, .d i64), (6, .d (.sl bandT)), (0, .d (.sl bandT)), (3, .d i64)], []⟩, ⟨[(0, .d (.sl bandT))], []⟩, ⟨[(2, .d .bool)], []⟩⟩
def fr_risk_Bands (x : pt_risk_Bands.M.X) : Fr pt_risk_Bands.Out :=
 Fr.br (decide (x.1.1 < x.1.2.1)) (Fr.need (0 <= x.1.1 /\ x.1.1 < ↑(List.length x.1.2.2.1)) (Fr.br (bif bif bif decide ((List.getD x.1.2.2.1 (Int.toNat x.1.1) bandT.dflt).1 <= x.1.2.2.2.2.1) then true else decide ((List.getD x.1.2.2.1 (Int.toNat x.1.1) bandT.dflt).1 > 200) then true else decide ((List.getD x.1.2.2.1 (Int.toNat x.1.1) bandT.dflt).2.1 < 0) then true else decide ((List.getD x.1.2.2.1 (Int.toNat x.1.1) bandT.dflt).2.1 > 100000)) (Fr.val (Rd.back ((false, ()), ()))) (Fr.val (Rd.next ((IntKind.i64.wrap (x.1.1 + 1), x.1.2.1, x.1.2.2.1, x.1.2.2.2.1, (List.getD x.1.2.2.1 (Int.toNat x.1.1) bandT.dflt).1, ()), ()))))) (Fr.val (Rd.out ((x.1.2.2.2.1, ()), ())))
theorem sem_risk_Bands : Does Try.prog (loopF Try.f84 0) pt_risk_Bands.M pt_risk_Bands fr_risk_Bands :=
 Does.of_run CH4_ok (bs := 0) (Λ := lam0) rfl rfl rfl (fun E => lam0_ok _ 0) (fun x => by kernel_rfl)
abbrev st_risk_Bands : Type := denP [.d (.sl bandT), .d i64] × denM []
def step_risk_Bands (e : bandT.den) (s : st_risk_Bands) : Fr (st_risk_Bands ⊕ pt_risk_Bands.R.X) :=
 Fr.br (bif bif bif decide (e.1 <= s.1.2.1) then true else decide (e.1 > 200) then true else decide (e.2.1 < 0) then true else decide (e.2.1 > 100000)) (Fr.val (.inr ((false, ()), ()))) (Fr.val (.inl ((s.1.1, e.1, ()), ())))
def un_risk_Bands (x : pt_risk_Bands.M.X) : Int × List bandT.den × st_risk_Bands := (x.1.1, x.1.2.2.1, x.1.2.2.2, x.2)
def good_risk_Bands (x : pt_risk_Bands.M.X) : Prop := x.1.2.1 = (x.1.2.2.1.length : Int)
def out_risk_Bands (s : st_risk_Bands) : pt_risk_Bands.E.X := ((s.1.1, ()), ())
def dS_risk_Bands : st_risk_Bands := (dfP _, dfM _)
def dR_risk_Bands : pt_risk_Bands.R.X := (dfP _, dfM _)
theorem loop_risk_Bands : Does Try.prog (.loop (loopF Try.f84 0)) pt_risk_Bands.M pt_risk_Bands (FL step_risk_Bands un_risk_Bands good_risk_Bands out_risk_Bands Rd.back dS_risk_Bands dR_risk_Bands) := by
 refine Does.list sem_risk_Bands step_risk_Bands un_risk_Bands good_risk_Bands out_risk_Bands Rd.back dS_risk_Bands dR_risk_Bands ?_ ?_
 ·rintro ⟨⟨i, n, l, s⟩, m⟩ hg h0 h1 hb e he Q h
  have hg : n = (l.length : Int) := hg
  subst hg
  have h0 : 0 <= i := h0
  have h1 : i < (l.length : Int) := h1
  have hb : (l.length : Int) <= 9223372036854775807 := hb
  have hd : l.getD i.toNat bandT.dflt = e := getD_of he
  have hw := wrap_next h0 h1 hb
  dsimp only [un_risk_Bands, step_risk_Bands, fr_risk_Bands, Fr.satP] at h ⊢
  simp only [hd, hw] at h ⊢
  refine ⟨fun _ => ?_, fun hn => absurd h1 (of_decide_eq_false hn)⟩
  repeat' first
   | exact h
   | exact ⟨h0, h1⟩
   | exact fun _ => ⟨h0, h1⟩
   | exact h _ rfl rfl
   | refine ⟨?_, ?_⟩
   | (intro (hc : _ = true); replace h := h.1 hc)
   | (intro (hc : _ = false); replace h := h.2 hc)
 ·rintro ⟨⟨i, n, l, s⟩, m⟩ hg h1 Q h
  have hg : n = (l.length : Int) := hg
  subst hg
  exact ⟨fun hn => absurd (of_decide_eq_true hn) h1, fun _ => h⟩
def Λ_risk_Bands (Γ : Gm) : St -> Option Tr := pt_risk_Bands.han Γ pt_risk_Bands.M (FL step_risk_Bands un_risk_Bands good_risk_Bands out_risk_Bands Rd.back dS_risk_Bands dR_risk_Bands)
def res_risk_Bands (y : pt_risk_Bands.M.X) : st_risk_Bands ⊕ pt_risk_Bands.R.X := goL step_risk_Bands ((un_risk_Bands y).2.1.drop (un_risk_Bands y).1.toNat) (un_risk_Bands y).2.2
def okr_risk_Bands (y : pt_risk_Bands.M.X) : Prop := okL step_risk_Bands ((un_risk_Bands y).2.1.drop (un_risk_Bands y).1.toNat) (un_risk_Bands y).2.2
def ff_r10_Same (x : denP [.d (.sl coverT), .d (.sl coverT)]) : Fr (denL [.bool]) :=
 Fr.br (((List.length x.1) : Int) != ((List.length x.2.1) : Int)) (Fr.val (false, ())) (Fr.need (InL (good_r10_Same ((0, x.1, x.2.1, ()), ())) (un_r10_Same ((0, x.1, x.2.1, ()), ()))) (Fr.need (okr_r10_Same ((0, x.1, x.2.1, ()), ())) (Fr.br (isL (res_r10_Same ((0, x.1, x.2.1, ()), ()))) (Fr.val (true, ())) (Fr.val ((getR dR_r10_Same (res_r10_Same ((0, x.1, x.2.1, ()), ()))).1.1, ())))))
theorem ff_r10_Same_ok : SoundCt Try.prog 118 ⟨[.d (.sl coverT), .d (.sl coverT)], [.bool], fun xs => (ff_r10_Same xs).get, fun xs => [(ff_r10_Same xs).ok]⟩ :=
 fn_sound CH4_ok (Λ := (fun _ => Λ_r10_Same CH4.Γ)) (fn := Try.f118) (dfP [.d (.sl coverT), .d (.sl coverT)]) (by kernel_rfl) (fun c E hc => lam1f hc (by kernel_rfl) (b := loopF Try.f118 0) (by kernel_rfl) (Does.han CH4_ok rfl loop_r10_Same)) (fun x => by kernel_rfl)
def ff_alike (x : denP [.d (.sl coverT), .d (.sl coverT)]) : Fr (denL [.bool]) :=
 Fr.br (((List.length x.1) : Int) != ((List.length x.2.1) : Int)) (Fr.val (false, ())) (Fr.need (InL (good_alike ((0, ((List.length x.1) : Int), x.1, x.2.1, ()), ())) (un_alike ((0, ((List.length x.1) : Int), x.1, x.2.1, ()), ()))) (Fr.need (okr_alike ((0, ((List.length x.1) : Int), x.1, x.2.1, ()), ())) (Fr.br (isL (res_alike ((0, ((List.length x.1) : Int), x.1, x.2.1, ()), ()))) (Fr.val (true, ())) (Fr.val ((getR dR_alike (res_alike ((0, ((List.length x.1) : Int), x.1, x.2.1, ()), ()))).1.1, ())))))
theorem ff_alike_ok : SoundCt Try.prog 109 ⟨[.d (.sl coverT), .d (.sl coverT)], [.bool], fun xs => (ff_alike xs).get, fun xs => [(ff_alike xs).ok]⟩ :=
 fn_sound CH4_ok (Λ := (fun _ => Λ_alike CH4.Γ)) (fn := Try.f109) (dfP [.d (.sl coverT), .d (.sl coverT)]) (by kernel_rfl) (fun c E hc => lam1f hc (by kernel_rfl) (b := loopF Try.f109 0) (by kernel_rfl) (Does.han CH4_ok rfl loop_alike)) (fun x => by kernel_rfl)
def ff_terms_Covers (x : denP [.d (.sl coverT)]) : Fr (denL [.bool]) :=
 Fr.need (InL (good_terms_Covers ((0, ((List.length x.1) : Int), x.1, x.1, -1, ()), ())) (un_terms_Covers ((0, ((List.length x.1) : Int), x.1, x.1, -1, ()), ()))) (Fr.need (okr_terms_Covers ((0, ((List.length x.1) : Int), x.1, x.1, -1, ()), ())) (Fr.br (isL (res_terms_Covers ((0, ((List.length x.1) : Int), x.1, x.1, -1, ()), ()))) (Fr.val (bif decide (((List.length (out_terms_Covers (getL dS_terms_Covers (res_terms_Covers ((0, ((List.length x.1) : Int), x.1, x.1, -1, ()), ())))).1.1) : Int) ≥ 1) then decide (((List.length (out_terms_Covers (getL dS_terms_Covers (res_terms_Covers ((0, ((List.length x.1) : Int), x.1, x.1, -1, ()), ())))).1.1) : Int) <= 8) else false, ())) (Fr.val ((getR dR_terms_Covers (res_terms_Covers ((0, ((List.length x.1) : Int), x.1, x.1, -1, ()), ()))).1.1, ()))))
theorem ff_terms_Covers_ok : SoundCt Try.prog 100 ⟨[.d (.sl coverT)], [.bool], fun xs => (ff_terms_Covers xs).get, fun xs => [(ff_terms_Covers xs).ok]⟩ :=
 fn_sound CH4_ok (Λ := (fun _ => Λ_terms_Covers CH4.Γ)) (fn := Try.f100) (dfP [.d (.sl coverT)]) (by kernel_rfl) (fun c E hc => lam1f hc (by kernel_rfl) (b := loopF Try.f100 0) (by kernel_rfl) (Does.han CH4_ok rfl loop_terms_Covers)) (fun x => by kernel_rfl)
def ff_risk_Bands (x : denP [.d (.sl bandT)]) : Fr (denL [.bool]) :=
 Fr.need (InL (good_risk_Bands ((0, ((List.length x.1) : Int), x.1, x.1, -1, ()), ())) (un_risk_Bands ((0, ((List.length x.1) : Int), x.1, x.1, -1, ()), ()))) (Fr.need (okr_risk_Bands ((0, ((List.length x.1) : Int), x.1, x.1, -1, ()), ())) (Fr.br (isL (res_risk_Bands ((0, ((List.length x.1) : Int), x.1, x.1, -1, ()), ()))) (Fr.val (decide (((List.length (out_risk_Bands (getL dS_risk_Bands (res_risk_Bands ((0, ((List.length x.1) : Int), x.1, x.1, -1, ()), ())))).1.1) : Int) <= 100), ())) (Fr.val ((getR dR_risk_Bands (res_risk_Bands ((0, ((List.length x.1) : Int), x.1, x.1, -1, ()), ()))).1.1, ()))))
theorem ff_risk_Bands_ok : SoundCt Try.prog 84 ⟨[.d (.sl bandT)], [.bool], fun xs => (ff_risk_Bands xs).get, fun xs => [(ff_risk_Bands xs).ok]⟩ :=
 fn_sound CH4_ok (Λ := (fun _ => Λ_risk_Bands CH4.Γ)) (fn := Try.f84) (dfP [.d (.sl bandT)]) (by kernel_rfl) (fun c E hc => lam1f hc (by kernel_rfl) (b := loopF Try.f84 0) (by kernel_rfl) (Does.han CH4_ok rfl loop_risk_Bands)) (fun x => by kernel_rfl)
theorem len_big {T : Type} {l : List T} (h : l.length <= maxLen) : (l.length : Int) <= 9223372036854775807 := by
 simp only [maxLen] at h
 omega
theorem wf_len {w : World} {F : Nat -> Prop} {t : Ty} {l : List t.den} {v : Value} (h : RepP Try.prog w F (.d (.sl t)) l v) : (l.length : Int) <= 9223372036854775807 := len_big (RepT.wf (t := .sl t) h.2.2).1
def factorsB (l : List Int) : Bool := l.all fun n => decide (0 <= n /\ n <= 100000)
def cFactors : Ct := ⟨[.d ints], [.bool], fun x => (factorsB x.1, ()), fun _ => []⟩
def allF {T σ : Type} (p : T -> σ -> Bool) (f : T -> σ -> σ) : List T -> σ -> Bool
 | [], _ => true
 | e :: r, s => p e s && allF p f r (f e s)
def endF {T σ : Type} (f : T -> σ -> σ) : List T -> σ -> σ
 | [], s => s
 | e :: r, s => endF f r (f e s)
theorem bool_loop {T σ ρ : Type} {step : T -> σ -> Fr (σ ⊕ ρ)} {p : T -> σ -> Bool} {f : T -> σ -> σ} {c : ρ} (h : ∀ e s, (step e s).get = if p e s = true then .inl (f e s) else .inr c) :
  (l : List T) -> (s : σ) -> goL step l s = if allF p f l s = true then .inl (endF f l s) else .inr c
 | [], s => rfl
 | e :: r, s => by
  simp only [goL, allF, endF]
  by_cases hp : p e s = true
  ·have hg := h e s
   rw [if_pos hp] at hg
   simp only [hg, hp, Bool.true_and]
   exact bool_loop h r (f e s)
  ·have hg := h e s
   rw [if_neg hp] at hg
   have hp' : p e s = false := by simpa using hp
   simp only [hg, hp', Bool.false_and]
   rfl
def coverOf (c : coverT.den) : Bool := coverB c.1 c.2.1 c.2.2.1 c.2.2.2.1 c.2.2.2.2.1
def allC : List coverT.den -> Int -> Bool
 | [], _ => true
 | c :: r, last => (decide (last < c.1) && coverOf c) && allC r c.1
def coversL (l : List coverT.den) : Bool := decide (1 <= l.length /\ l.length <= 8) && allC l (-1)
def cCovers : Ct := ⟨[.d (.sl coverT)], [.bool], fun x => (coversL x.1, ()), fun _ => []⟩
theorem tc_step (e : coverT.den) (s : st_terms_Covers) : (step_terms_Covers e s).get = if (decide (s.1.2.1 < e.1) && coverOf e) = true then .inl ((s.1.1, e.1, ()), ()) else .inr ((false, ()), ()) := by
 show (if (bif decide (e.1 <= s.1.2.1) then true else !(coverOf e)) = true then _ else _) = _
 have hb : (bif decide (e.1 <= s.1.2.1) then true else !(coverOf e)) = !(decide (s.1.2.1 < e.1) && coverOf e) := by
  have : decide (e.1 <= s.1.2.1) = !decide (s.1.2.1 < e.1) := by
   rw [Bool.eq_iff_iff]
   simp only [Bool.not_eq_true', decide_eq_true_eq, decide_eq_false_iff_not]
   exact Int.not_lt.symm
  rw [this]
  cases decide (s.1.2.1 < e.1) <;> cases coverOf e <;> rfl
 rw [hb]
 cases (decide (s.1.2.1 < e.1) && coverOf e) <;> rfl
theorem tc_all (l l0 : List coverT.den) (last : Int) : allF (fun (e : coverT.den) (s : st_terms_Covers) => decide (s.1.2.1 < e.1) && coverOf e) (fun e s => ((s.1.1, e.1, ()), ())) l ((l0, last, ()), ()) = allC l last := by
 induction l generalizing last with
 | nil => rfl
 | cons c r ih =>
  show ((decide (last < c.1) && coverOf c) && _) = ((decide (last < c.1) && coverOf c) && _)
  rw [ih]
theorem tc_end (l l0 : List coverT.den) (last : Int) : (endF (fun (e : coverT.den) (s : st_terms_Covers) => (((s.1.1, e.1, ()), ()) : st_terms_Covers)) l ((l0, last, ()), ())).1.1 = l0 := by
 induction l generalizing last with
 | nil => rfl
 | cons c r ih => exact ih c.1
theorem len_b (n : Nat) : (bif decide ((n : Int) ≥ 1) then decide ((n : Int) <= 8) else false) = decide (1 <= n /\ n <= 8) := by
 rw [Bool.eq_iff_iff]
 simp only [Bool.cond_false_right, Bool.and_eq_true, decide_eq_true_eq]
 omega
theorem terms_Covers_ok : SoundCt Try.prog 100 cCovers :=
 conv ff_terms_Covers_ok _ _ (fun w F x vs hr _ => by
  obtain ⟨l, _⟩ := x
  obtain ⟨v, vs', rfl, hv, _⟩ := hr
  have hlen := wf_len hv
  refine ⟨⟨⟨rfl, Int.le_refl _, Int.natCast_nonneg _, hlen⟩, okL_of (step := step_terms_Covers) (fun e s => ⟨fun _ => trivial, fun _ => trivial⟩) _ _, fun _ => trivial, fun _ => trivial⟩, ?_⟩
  have hres := bool_loop tc_step l ((l, -1, ()), ())
  rw [tc_all] at hres
  have hres' : res_terms_Covers ((0, (l.length : Int), l, l, -1, ()), ()) = if allC l (-1) = true then .inl _ else .inr _ := hres
  show (if isL (res_terms_Covers ((0, (l.length : Int), l, l, -1, ()), ())) = true then ((bif decide (((out_terms_Covers (getL dS_terms_Covers (res_terms_Covers ((0, (l.length : Int), l, l, -1, ()), ())))).1.1.length : Int) ≥ 1) then decide (((out_terms_Covers (getL dS_terms_Covers (res_terms_Covers ((0, (l.length : Int), l, l, -1, ()), ())))).1.1.length : Int) <= 8) else false, ()) : Bool × Unit) else ((getR dR_terms_Covers (res_terms_Covers ((0, (l.length : Int), l, l, -1, ()), ()))).1.1, ())) = (coversL l, ())
  rw [hres']
  unfold coversL
  cases allC l (-1) with
  | true =>
   have he : (out_terms_Covers (getL dS_terms_Covers (Sum.inl (endF (fun (e : coverT.den) (s : st_terms_Covers) => (((s.1.1, e.1, ()), ()) : st_terms_Covers)) l ((l, -1, ()), ())) : st_terms_Covers ⊕ pt_terms_Covers.R.X))).1.1 = l := tc_end l l (-1)
   show ((bif decide (((out_terms_Covers (getL dS_terms_Covers (Sum.inl (endF (fun (e : coverT.den) (s : st_terms_Covers) => (((s.1.1, e.1, ()), ()) : st_terms_Covers)) l ((l, -1, ()), ())) : st_terms_Covers ⊕ pt_terms_Covers.R.X))).1.1.length : Int) ≥ 1) then decide (((out_terms_Covers (getL dS_terms_Covers (Sum.inl (endF (fun (e : coverT.den) (s : st_terms_Covers) => (((s.1.1, e.1, ()), ()) : st_terms_Covers)) l ((l, -1, ()), ())) : st_terms_Covers ⊕ pt_terms_Covers.R.X))).1.1.length : Int) <= 8) else false, ()) : Bool × Unit) = _
   rw [he]
   exact congrArg (·, ()) ((len_b l.length).trans (Bool.and_true _).symm)
  | false =>
   rw [Bool.and_false]
   rfl)
def bandB (u b : Int) : Bool := decide (u <= 200 /\ 0 <= b /\ b <= 100000)
def allB : List bandT.den -> Int -> Bool
 | [], _ => true
 | c :: r, last => (decide (last < c.1) && bandB c.1 c.2.1) && allB r c.1
def bandsL (l : List bandT.den) : Bool := decide (l.length <= 100) && allB l (-1)
def cBands : Ct := ⟨[.d (.sl bandT)], [.bool], fun x => (bandsL x.1, ()), fun _ => []⟩
theorem bandA_b (u b last : Int) : (bif bif bif decide (u <= last) then true else decide (u > 200) then true else decide (b < 0) then true else decide (b > 100000)) = !(decide (last < u) && bandB u b) := by
 rw [Bool.eq_iff_iff]
 simp only [bandB, Bool.cond_true_left, Bool.or_eq_true, Bool.not_eq_true', Bool.and_eq_false_iff, decide_eq_true_eq, decide_eq_false_iff_not]
 omega
theorem rb_step (e : bandT.den) (s : st_risk_Bands) : (step_risk_Bands e s).get = if (decide (s.1.2.1 < e.1) && bandB e.1 e.2.1) = true then .inl ((s.1.1, e.1, ()), ()) else .inr ((false, ()), ()) := by
 show (if (bif bif bif decide (e.1 <= s.1.2.1) then true else decide (e.1 > 200) then true else decide (e.2.1 < 0) then true else decide (e.2.1 > 100000)) = true then _ else _) = _
 have hb := bandA_b e.1 e.2.1 s.1.2.1
 rw [hb]
 cases (decide (s.1.2.1 < e.1) && bandB e.1 e.2.1) <;> rfl
theorem rb_all (l l0 : List bandT.den) (last : Int) : allF (fun (e : bandT.den) (s : st_risk_Bands) => decide (s.1.2.1 < e.1) && bandB e.1 e.2.1) (fun e s => ((s.1.1, e.1, ()), ())) l ((l0, last, ()), ()) = allB l last := by
 induction l generalizing last with
 | nil => rfl
 | cons c r ih =>
  show ((decide (last < c.1) && bandB c.1 c.2.1) && _) = ((decide (last < c.1) && bandB c.1 c.2.1) && _)
  rw [ih]
theorem rb_end (l l0 : List bandT.den) (last : Int) : (endF (fun (e : bandT.den) (s : st_risk_Bands) => (((s.1.1, e.1, ()), ()) : st_risk_Bands)) l ((l0, last, ()), ())).1.1 = l0 := by
 induction l generalizing last with
 | nil => rfl
 | cons c r ih => exact ih c.1
theorem len_c (n : Nat) : decide ((n : Int) <= 100) = decide (n <= 100) := by
 rw [Bool.eq_iff_iff]
 simp only [decide_eq_true_eq]
 omega
theorem bands_ok : SoundCt Try.prog 84 cBands :=
 conv ff_risk_Bands_ok _ _ (fun w F x vs hr _ => by
  obtain ⟨l, _⟩ := x
  obtain ⟨v, vs', rfl, hv, _⟩ := hr
  have hlen := wf_len hv
  refine ⟨⟨⟨rfl, Int.le_refl _, Int.natCast_nonneg _, hlen⟩, okL_of (step := step_risk_Bands) (fun e s => ⟨fun _ => trivial, fun _ => trivial⟩) _ _, fun _ => trivial, fun _ => trivial⟩, ?_⟩
  have hres := bool_loop rb_step l ((l, -1, ()), ())
  rw [rb_all] at hres
  have hres' : res_risk_Bands ((0, (l.length : Int), l, l, -1, ()), ()) = if allB l (-1) = true then .inl _ else .inr _ := hres
  show (if isL (res_risk_Bands ((0, (l.length : Int), l, l, -1, ()), ())) = true then ((decide (((out_risk_Bands (getL dS_risk_Bands (res_risk_Bands ((0, (l.length : Int), l, l, -1, ()), ())))).1.1.length : Int) <= 100), ()) : Bool × Unit) else ((getR dR_risk_Bands (res_risk_Bands ((0, (l.length : Int), l, l, -1, ()), ()))).1.1, ())) = (bandsL l, ())
  rw [hres']
  unfold bandsL
  cases allB l (-1) with
  | true =>
   have he : (out_risk_Bands (getL dS_risk_Bands (Sum.inl (endF (fun (e : bandT.den) (s : st_risk_Bands) => (((s.1.1, e.1, ()), ()) : st_risk_Bands)) l ((l, -1, ()), ())) : st_risk_Bands ⊕ pt_risk_Bands.R.X))).1.1 = l := rb_end l l (-1)
   show ((decide (((out_risk_Bands (getL dS_risk_Bands (Sum.inl (endF (fun (e : bandT.den) (s : st_risk_Bands) => (((s.1.1, e.1, ()), ()) : st_risk_Bands)) l ((l, -1, ()), ())) : st_risk_Bands ⊕ pt_risk_Bands.R.X))).1.1.length : Int) <= 100), ()) : Bool × Unit) = _
   rw [he]
   exact congrArg (·, ()) ((len_c l.length).trans (Bool.and_true _).symm)
  | false =>
   rw [Bool.and_false]
   rfl)
def coverEq (a b : coverT.den) : Bool := (a.1 == b.1 && (a.2.1 == b.2.1 && (a.2.2.1 == b.2.2.1 && (a.2.2.2.1 == b.2.2.2.1 && (a.2.2.2.2.1 == b.2.2.2.2.1 && true)))))
theorem coverEq_iff {a b : coverT.den} : coverEq a b = true ↔ a = b := by
 obtain ⟨a1, a2, a3, a4, a5, _⟩ := a
 obtain ⟨b1, b2, b3, b4, b5, _⟩ := b
 simp only [coverEq, Bool.and_eq_true, beq_iff_eq, Prod.mk.injEq, and_true]
def sameC : List coverT.den -> List coverT.den -> Bool
 | [], [] => true
 | a :: l, b :: m => coverEq a b && sameC l m
 | _, _ => false
theorem sameC_iff : {l m : List coverT.den} -> (sameC l m = true ↔ l = m)
 | [], [] => by simp [sameC]
 | [], b :: m => by simp [sameC]
 | a :: l, [] => by simp [sameC]
 | a :: l, b :: m => by
  simp only [sameC, Bool.and_eq_true, List.cons.injEq]
  rw [coverEq_iff, sameC_iff]
def cSameC : Ct := ⟨[.d (.sl coverT), .d (.sl coverT)], [.bool], fun x => (sameC x.1 x.2.1, ()), fun _ => []⟩
theorem sameC_zip : {l m : List coverT.den} -> l.length = m.length -> sameC l m = (l.zip m).all fun e => coverEq e.1 e.2
 | [], [], _ => rfl
 | [], b :: m, h => by cases h
 | a :: l, [], h => by cases h
 | a :: l, b :: m, h => by
  simp only [sameC, List.zip_cons_cons, List.all_cons]
  rw [sameC_zip (by simpa using h)]
theorem sameC_len : {l m : List coverT.den} -> l.length ≠ m.length -> sameC l m = false := fun h => by
 cases hs : sameC _ _ with
 | true => exact absurd (congrArg List.length (sameC_iff.1 hs)) h
 | false => rfl
theorem allF_keep {T σ : Type} (p : T -> Bool) (l : List T) (s : σ) : allF (fun e _ => p e) (fun _ s => s) l s = l.all p := by
 induction l with
 | nil => rfl
 | cons e r ih => simp only [allF, List.all_cons]; rw [ih]
theorem s10_step (e : coverT.den × coverT.den) (s : st_r10_Same) : (step_r10_Same e s).get = if coverEq e.1 e.2 = true then .inl s else .inr ((false, ()), ()) := by
 show (if (!(coverEq e.1 e.2)) = true then _ else _) = _
 cases coverEq e.1 e.2 <;> rfl
theorem al_step (e : coverT.den × coverT.den) (s : st_alike) : (step_alike e s).get = if coverEq e.1 e.2 = true then .inl s else .inr ((false, ()), ()) := by
 show (if (!(coverEq e.1 e.2)) = true then _ else _) = _
 cases coverEq e.1 e.2 <;> rfl
theorem len_ne (a b : Nat) : ((a : Int) != (b : Int)) = !decide (a = b) := by
 rw [Bool.eq_iff_iff]
 simp only [bne_iff_ne, ne_eq, Bool.not_eq_true', decide_eq_false_iff_not]
 omega
theorem sameC10_ok : SoundCt Try.prog 118 cSameC :=
 conv ff_r10_Same_ok _ _ (fun w F x vs hr _ => by
  obtain ⟨l, m, _⟩ := x
  obtain ⟨v, vs', rfl, hv, _⟩ := hr
  have hlen : (l.length : Int) <= 9223372036854775807 := wf_len hv
  have hne := len_ne l.length m.length
  by_cases hlm : l.length = m.length
  ·have hne' : ((l.length : Int) != (m.length : Int)) = false := by rw [hne, decide_eq_true hlm]; rfl
   have hz : ((l.zip m).length : Int) <= 9223372036854775807 := by
    rw [List.length_zip]
    omega
   refine ⟨⟨fun _ => trivial, fun _ => ⟨⟨hlm, Int.le_refl _, Int.natCast_nonneg _, hz⟩, okL_of (step := step_r10_Same) (fun e s => ⟨fun _ => trivial, fun _ => trivial⟩) _ _, fun _ => trivial, fun _ => trivial⟩⟩, ?_⟩
   have hres := bool_loop (p := fun e _ => coverEq e.1 e.2) (f := fun _ s => s) s10_step (l.zip m) ((m, ()), ())
   rw [allF_keep, ← sameC_zip hlm] at hres
   have hres' : res_r10_Same ((0, l, m, ()), ()) = if sameC l m = true then .inl _ else .inr _ := hres
   show (if ((l.length : Int) != (m.length : Int)) = true then ((false, ()) : Bool × Unit) else if isL (res_r10_Same ((0, l, m, ()), ())) = true then (true, ()) else ((getR dR_r10_Same (res_r10_Same ((0, l, m, ()), ()))).1.1, ())) = (sameC l m, ())
   rw [hres', hne']
   cases sameC l m <;> rfl
  ·have hne' : ((l.length : Int) != (m.length : Int)) = true := by rw [hne, decide_eq_false hlm]; rfl
   refine ⟨⟨fun _ => trivial, fun hc => (by have hc' : ((l.length : Int) != (m.length : Int)) = false := hc; rw [hne'] at hc'; cases hc')⟩, ?_⟩
   show (if ((l.length : Int) != (m.length : Int)) = true then ((false, ()) : Bool × Unit) else _) = (sameC l m, ())
   rw [hne', sameC_len hlm]
   rfl)
theorem alike_ok : SoundCt Try.prog 109 cSameC :=
 conv ff_alike_ok _ _ (fun w F x vs hr _ => by
  obtain ⟨l, m, _⟩ := x
  obtain ⟨v, vs', rfl, hv, _⟩ := hr
  have hlen : (l.length : Int) <= 9223372036854775807 := wf_len hv
  have hne := len_ne l.length m.length
  by_cases hlm : l.length = m.length
  ·have hne' : ((l.length : Int) != (m.length : Int)) = false := by rw [hne, decide_eq_true hlm]; rfl
   have hz : ((l.zip m).length : Int) <= 9223372036854775807 := by
    rw [List.length_zip]
    omega
   refine ⟨⟨fun _ => trivial, fun _ => ⟨⟨⟨rfl, hlm⟩, Int.le_refl _, Int.natCast_nonneg _, hz⟩, okL_of (step := step_alike) (fun e s => ⟨fun _ => trivial, fun _ => trivial⟩) _ _, fun _ => trivial, fun _ => trivial⟩⟩, ?_⟩
   have hres := bool_loop (p := fun e _ => coverEq e.1 e.2) (f := fun _ s => s) al_step (l.zip m) ((m, ()), ())
   rw [allF_keep, ← sameC_zip hlm] at hres
   have hres' : res_alike ((0, (l.length : Int), l, m, ()), ()) = if sameC l m = true then .inl _ else .inr _ := hres
   show (if ((l.length : Int) != (m.length : Int)) = true then ((false, ()) : Bool × Unit) else if isL (res_alike ((0, (l.length : Int), l, m, ()), ())) = true then (true, ()) else ((getR dR_alike (res_alike ((0, (l.length : Int), l, m, ()), ()))).1.1, ())) = (sameC l m, ())
   rw [hres', hne']
   cases sameC l m <;> rfl
  ·have hne' : ((l.length : Int) != (m.length : Int)) = true := by rw [hne, decide_eq_false hlm]; rfl
   refine ⟨⟨fun _ => trivial, fun hc => (by have hc' : ((l.length : Int) != (m.length : Int)) = false := hc; rw [hne'] at hc'; cases hc')⟩, ?_⟩
   show (if ((l.length : Int) != (m.length : Int)) = true then ((false, ()) : Bool × Unit) else _) = (sameC l m, ())
   rw [hne', sameC_len hlm]
   rfl)
abbrev termsT : Ty := .pair spanT (.pair riskT (.pair (.sl coverT) .unit))
abbrev changeT : Ty := .pair i64 (.pair i64 (.pair i64 (.pair riskT (.pair (.sl coverT) (.pair i64 .unit)))))
abbrev histT : Ty := .pair i64 (.pair i64 (.pair termsT (.pair (.sl changeT) .unit)))
abbrev four : Ty := .pair i64 (.pair i64 (.pair i64 (.pair i64 .unit)))
abbrev verT : Ty := .pair i64 (.pair four (.pair (.sl bandT) (.pair ints (.pair ints (.pair i64 .unit)))))
abbrev tarT : Ty := .pair (.sl verT) .unit
noncomputable def CH9 : Cx := cx [(78, cRisk), (84, cBands), (100, cCovers), (109, cSameC), (118, cSameC), (40, cIn)] []
theorem CH9_ok : CxOK Try.prog CH9 := cx_ok mixed ⟨risk_ok, bands_ok, terms_Covers_ok, alike_ok, sameC10_ok, inS_ok, trivial⟩ trivial
def ff_change_1 (x : denP [.d changeT]) : Fr (denL [.bool]) :=
 Fr.val (bif bif (cRisk.f ((x.1.2.2.2.1.1, x.1.2.2.2.1.2.1, x.1.2.2.2.1.2.2.1, x.1.2.2.2.1.2.2.2.1, ()), ())).1 then ((List.length x.1.2.2.2.2.1) : Int) == 0 else false then x.1.2.2.2.2.2.1 == 0 else false, ())
theorem ff_change_1_ok : SoundCt Try.prog 98 ⟨[.d changeT], [.bool], fun xs => (ff_change_1 xs).get, fun xs => [(ff_change_1 xs).ok]⟩ :=
 fn_sound CH9_ok (Λ := lam0) (fn := Try.f98) (dfP [.d changeT]) (by kernel_rfl) (fun c E _ => lam0_ok c 0) (fun x => by kernel_rfl)
def ff_change_2 (x : denP [.d changeT]) : Fr (denL [.bool]) :=
 Fr.val (bif bif (cCovers.f (x.1.2.2.2.2.1, ())).1 then x.1.2.2.2.1.1 == 0 && (x.1.2.2.2.1.2.1 == 0 && (x.1.2.2.2.1.2.2.1 == 0 && (x.1.2.2.2.1.2.2.2.1 == 0 && true))) else false then x.1.2.2.2.2.2.1 == 0 else false, ())
theorem ff_change_2_ok : SoundCt Try.prog 99 ⟨[.d changeT], [.bool], fun xs => (ff_change_2 xs).get, fun xs => [(ff_change_2 xs).ok]⟩ :=
 fn_sound CH9_ok (Λ := lam0) (fn := Try.f99) (dfP [.d changeT]) (by kernel_rfl) (fun c E _ => lam0_ok c 0) (fun x => by kernel_rfl)
def ff_change_3 (x : denP [.d changeT]) : Fr (denL [.bool]) :=
 Fr.val (bif bif bif x.1.2.2.2.2.2.1 == 0 then true else x.1.2.2.2.2.2.1 == 1 then ((List.length x.1.2.2.2.2.1) : Int) == 0 else false then x.1.2.2.2.1.1 == 0 && (x.1.2.2.2.1.2.1 == 0 && (x.1.2.2.2.1.2.2.1 == 0 && (x.1.2.2.2.1.2.2.2.1 == 0 && true))) else false, ())
theorem ff_change_3_ok : SoundCt Try.prog 101 ⟨[.d changeT], [.bool], fun xs => (ff_change_3 xs).get, fun xs => [(ff_change_3 xs).ok]⟩ :=
 fn_sound CH9_ok (Λ := lam0) (fn := Try.f101) (dfP [.d changeT]) (by kernel_rfl) (fun c E _ => lam0_ok c 0) (fun x => by kernel_rfl)
def ff_change_4 (x : denP [.d changeT]) : Fr (denL [.bool]) :=
 Fr.val (bif bif x.1.2.2.2.2.2.1 == 0 then ((List.length x.1.2.2.2.2.1) : Int) == 0 else false then x.1.2.2.2.1.1 == 0 && (x.1.2.2.2.1.2.1 == 0 && (x.1.2.2.2.1.2.2.1 == 0 && (x.1.2.2.2.1.2.2.2.1 == 0 && true))) else false, ())
theorem ff_change_4_ok : SoundCt Try.prog 102 ⟨[.d changeT], [.bool], fun xs => (ff_change_4 xs).get, fun xs => [(ff_change_4 xs).ok]⟩ :=
 fn_sound CH9_ok (Λ := lam0) (fn := Try.f102) (dfP [.d changeT]) (by kernel_rfl) (fun c E _ => lam0_ok c 0) (fun x => by kernel_rfl)
def ff_holds (x : denP [.d sliceT, .d sliceT]) : Fr (denL [.bool]) :=
 Fr.val (bif bif x.1.2.1 == x.2.1.2.1 then x.1.2.2.1.1 == x.2.1.2.2.1.1 && (x.1.2.2.1.2.1 == x.2.1.2.2.1.2.1 && (x.1.2.2.1.2.2.1 == x.2.1.2.2.1.2.2.1 && (x.1.2.2.1.2.2.2.1 == x.2.1.2.2.1.2.2.2.1 && true))) else false then (cSameC.f (x.1.2.2.2.1, x.2.1.2.2.2.1, ())).1 else false, ())
theorem ff_holds_ok : SoundCt Try.prog 71 ⟨[.d sliceT, .d sliceT], [.bool], fun xs => (ff_holds xs).get, fun xs => [(ff_holds xs).ok]⟩ :=
 fn_sound CH9_ok (Λ := lam0) (fn := Try.f71) (dfP [.d sliceT, .d sliceT]) (by kernel_rfl) (fun c E _ => lam0_ok c 0) (fun x => by kernel_rfl)
def ff_r12_like (x : denP [.d sliceT, .d sliceT]) : Fr (denL [.bool]) :=
 Fr.val (bif bif x.1.2.1 == x.2.1.2.1 then x.1.2.2.1.1 == x.2.1.2.2.1.1 && (x.1.2.2.1.2.1 == x.2.1.2.2.1.2.1 && (x.1.2.2.1.2.2.1 == x.2.1.2.2.1.2.2.1 && (x.1.2.2.1.2.2.2.1 == x.2.1.2.2.1.2.2.2.1 && true))) else false then (cSameC.f (x.1.2.2.2.1, x.2.1.2.2.2.1, ())).1 else false, ())
theorem ff_r12_like_ok : SoundCt Try.prog 87 ⟨[.d sliceT, .d sliceT], [.bool], fun xs => (ff_r12_like xs).get, fun xs => [(ff_r12_like xs).ok]⟩ :=
 fn_sound CH9_ok (Λ := lam0) (fn := Try.f87) (dfP [.d sliceT, .d sliceT]) (by kernel_rfl) (fun c E _ => lam0_ok c 0) (fun x => by kernel_rfl)
def ck1 (c : changeT.den) : Bool := (ff_change_1 (c, ())).get.1
def ck2 (c : changeT.den) : Bool := (ff_change_2 (c, ())).get.1
def ck3 (c : changeT.den) : Bool := (ff_change_3 (c, ())).get.1
def ck4 (c : changeT.den) : Bool := (ff_change_4 (c, ())).get.1
def cCk1 : Ct := ⟨[.d changeT], [.bool], fun x => (ck1 x.1, ()), fun _ => []⟩
def cCk2 : Ct := ⟨[.d changeT], [.bool], fun x => (ck2 x.1, ()), fun _ => []⟩
def cCk3 : Ct := ⟨[.d changeT], [.bool], fun x => (ck3 x.1, ()), fun _ => []⟩
def cCk4 : Ct := ⟨[.d changeT], [.bool], fun x => (ck4 x.1, ()), fun _ => []⟩
theorem ck1_ok : SoundCt Try.prog 98 cCk1 := conv ff_change_1_ok _ _ (fun _ _ _ _ _ _ => ⟨trivial, rfl⟩)
theorem ck2_ok : SoundCt Try.prog 99 cCk2 := conv ff_change_2_ok _ _ (fun _ _ _ _ _ _ => ⟨trivial, rfl⟩)
theorem ck3_ok : SoundCt Try.prog 101 cCk3 := conv ff_change_3_ok _ _ (fun _ _ _ _ _ _ => ⟨trivial, rfl⟩)
theorem ck4_ok : SoundCt Try.prog 102 cCk4 := conv ff_change_4_ok _ _ (fun _ _ _ _ _ _ => ⟨trivial, rfl⟩)
def kindB (c : changeT.den) : Bool := if c.2.2.1 = 1 then ck1 c else if c.2.2.1 = 2 then ck2 c else if c.2.2.1 = 3 then ck3 c else if c.2.2.1 = 4 then ck4 c else false
def changeB (c : changeT.den) : Bool := dayB c.1 && (dayB c.2.1 && kindB c)
def cChange : Ct := ⟨[.d changeT], [.bool], fun x => (changeB x.1, ()), fun _ => []⟩
def termsB (t : termsT.den) : Bool := fullS t.1 && (decide (t.1.2.1 - t.1.1 <= 1100) && (riskB t.2.1.1 t.2.1.2.1 t.2.1.2.2.1 t.2.1.2.2.2.1 && coversL t.2.2.1))
def cTerms : Ct := ⟨[.d termsT], [.bool], fun x => (termsB x.1, ()), fun _ => []⟩
def riskEq (a b : riskT.den) : Bool := (a.1 == b.1 && (a.2.1 == b.2.1 && (a.2.2.1 == b.2.2.1 && (a.2.2.2.1 == b.2.2.2.1 && true))))
def holdsB (a b : sliceT.den) : Bool := (a.2.1 == b.2.1) && (riskEq a.2.2.1 b.2.2.1 && sameC a.2.2.2.1 b.2.2.2.1)
def cHolds : Ct := ⟨[.d sliceT, .d sliceT], [.bool], fun x => (holdsB x.1 x.2.1, ()), fun _ => []⟩
theorem holds_ok : SoundCt Try.prog 71 cHolds := conv ff_holds_ok _ _ (fun _ _ x _ _ _ => by
 obtain ⟨a, b, _⟩ := x
 exact ⟨trivial, congrArg (·, ()) (three (a.2.1 == b.2.1) (riskEq a.2.2.1 b.2.2.1) (sameC a.2.2.2.1 b.2.2.2.1))⟩)
theorem like_ok : SoundCt Try.prog 87 cHolds := conv ff_r12_like_ok _ _ (fun _ _ x _ _ _ => by
 obtain ⟨a, b, _⟩ := x
 exact ⟨trivial, congrArg (·, ()) (three (a.2.1 == b.2.1) (riskEq a.2.2.1 b.2.2.1) (sameC a.2.2.2.1 b.2.2.2.1))⟩)
noncomputable def CHA : Cx := cx [(71, cHolds), (87, cHolds), (40, cIn)] []
theorem CHA_ok : CxOK Try.prog CHA := cx_ok mixed ⟨holds_ok, like_ok, inS_ok, trivial⟩ trivial
def ff_r12_Same (x : denP [.d sliceT, .d sliceT]) : Fr (denL [.bool]) :=
 Fr.val (bif bif x.1.1.1 == x.2.1.1.1 && (x.1.1.2.1 == x.2.1.1.2.1 && true) then x.1.2.2.2.2.1 == x.2.1.2.2.2.2.1 else false then (cHolds.f (((x.1.1.1, x.1.1.2.1, ()), x.1.2.1, (x.1.2.2.1.1, x.1.2.2.1.2.1, x.1.2.2.1.2.2.1, x.1.2.2.1.2.2.2.1, ()), x.1.2.2.2.1, x.1.2.2.2.2.1, ()), ((x.2.1.1.1, x.2.1.1.2.1, ()), x.2.1.2.1, (x.2.1.2.2.1.1, x.2.1.2.2.1.2.1, x.2.1.2.2.1.2.2.1, x.2.1.2.2.1.2.2.2.1, ()), x.2.1.2.2.2.1, x.2.1.2.2.2.2.1, ()), ())).1 else false, ())
theorem ff_r12_Same_ok : SoundCt Try.prog 57 ⟨[.d sliceT, .d sliceT], [.bool], fun xs => (ff_r12_Same xs).get, fun xs => [(ff_r12_Same xs).ok]⟩ :=
 fn_sound CHA_ok (Λ := lam0) (fn := Try.f57) (dfP [.d sliceT, .d sliceT]) (by kernel_rfl) (fun c E _ => lam0_ok c 0) (fun x => by kernel_rfl)
def sliceEq (a b : sliceT.den) : Bool := (a.1.1 == b.1.1 && (a.1.2.1 == b.1.2.1 && true)) && ((a.2.2.2.2.1 == b.2.2.2.2.1) && holdsB a b)
def cSliceEq : Ct := ⟨[.d sliceT, .d sliceT], [.bool], fun x => (sliceEq x.1 x.2.1, ()), fun _ => []⟩
theorem r12_Same_ok : SoundCt Try.prog 57 cSliceEq := conv ff_r12_Same_ok _ _ (fun _ _ x _ _ _ => by
 obtain ⟨a, b, _⟩ := x
 exact ⟨trivial, congrArg (·, ()) (three (a.1.1 == b.1.1 && (a.1.2.1 == b.1.2.1 && true)) (a.2.2.2.2.1 == b.2.2.2.2.1) (holdsB a b))⟩)
def histB (h : histT.den) : Bool := (termsB h.2.2.1 && decide (h.2.2.2.1.length <= 2000)) && h.2.2.2.1.all fun c => changeB c && inB h.2.2.1.1.1 h.2.2.1.1.2.1 c.2.1
def cHist : Ct := ⟨[.d histT], [.bool], fun x => (histB x.1, ()), fun _ => []⟩
theorem allF_keep2 {T σ : Type} (p : T -> σ -> Bool) (l : List T) (s : σ) : allF p (fun _ s => s) l s = l.all fun e => p e s := by
 induction l with
 | nil => rfl
 | cons e r ih => simp only [allF, List.all_cons]; rw [ih]
noncomputable def CHB : Cx := cx [(57, cSliceEq)] []
theorem CHB_ok : CxOK Try.prog CHB := cx_ok mixed ⟨r12_Same_ok, trivial⟩ trivial
noncomputable def CHB0 : Cx := cx [] []
theorem CHB0_ok : CxOK Try.prog CHB0 := cx_ok (cs := []) (ps := []) mixed trivial trivial
abbrev pt_r12_All : Pt := ⟨29, 0, ⟨[(5, .d i64), (0, .d slsT), (1, .d slsT)], []⟩, ⟨[], []⟩, ⟨[(4, .d .bool)], []⟩⟩
def fr_r12_All (x : pt_r12_All.M.X) : Fr pt_r12_All.Out :=
 Fr.br (decide (x.1.1 < ((List.length x.1.2.1) : Int))) (Fr.need (0 <= x.1.1 /\ x.1.1 < ((List.length x.1.2.1) : Int)) (Fr.need (0 <= x.1.1 /\ x.1.1 < ((List.length x.1.2.2.1) : Int)) (Fr.br (!(cSliceEq.f ((((List.getD x.1.2.1 (Int.toNat x.1.1) sliceT.dflt).1.1, (List.getD x.1.2.1 (Int.toNat x.1.1) sliceT.dflt).1.2.1, ()), (List.getD x.1.2.1 (Int.toNat x.1.1) sliceT.dflt).2.1, ((List.getD x.1.2.1 (Int.toNat x.1.1) sliceT.dflt).2.2.1.1, (List.getD x.1.2.1 (Int.toNat x.1.1) sliceT.dflt).2.2.1.2.1, (List.getD x.1.2.1 (Int.toNat x.1.1) sliceT.dflt).2.2.1.2.2.1, (List.getD x.1.2.1 (Int.toNat x.1.1) sliceT.dflt).2.2.1.2.2.2.1, ()), (List.getD x.1.2.1 (Int.toNat x.1.1) sliceT.dflt).2.2.2.1, (List.getD x.1.2.1 (Int.toNat x.1.1) sliceT.dflt).2.2.2.2.1, ()), (((List.getD x.1.2.2.1 (Int.toNat x.1.1) sliceT.dflt).1.1, (List.getD x.1.2.2.1 (Int.toNat x.1.1) sliceT.dflt).1.2.1, ()), (List.getD x.1.2.2.1 (Int.toNat x.1.1) sliceT.dflt).2.1, ((List.getD x.1.2.2.1 (Int.toNat x.1.1) sliceT.dflt).2.2.1.1, (List.getD x.1.2.2.1 (Int.toNat x.1.1) sliceT.dflt).2.2.1.2.1, (List.getD x.1.2.2.1 (Int.toNat x.1.1) sliceT.dflt).2.2.1.2.2.1, (List.getD x.1.2.2.1 (Int.toNat x.1.1) sliceT.dflt).2.2.1.2.2.2.1, ()), (List.getD x.1.2.2.1 (Int.toNat x.1.1) sliceT.dflt).2.2.2.1, (List.getD x.1.2.2.1 (Int.toNat x.1.1) sliceT.dflt).2.2.2.2.1, ()), ())).1) (Fr.val (Rd.back ((false, ()), ()))) (Fr.val (Rd.next ((IntKind.i64.wrap (x.1.1 + 1), x.1.2.1, x.1.2.2.1, ()), ())))))) (Fr.val (Rd.out ((), ())))
theorem sem_r12_All : Does Try.prog (loopF Try.f23 0) pt_r12_All.M pt_r12_All fr_r12_All :=
 Does.of_run CHB_ok (bs := 0) (Λ := lam0) rfl rfl rfl (fun E => lam0_ok _ 0) (fun x => by kernel_rfl)
abbrev st_r12_All : Type := denP [.d slsT] × denM []
def step_r12_All (e : (sliceT.den × sliceT.den)) (s : st_r12_All) : Fr (st_r12_All ⊕ pt_r12_All.R.X) :=
 Fr.br (!(cSliceEq.f (((e.1.1.1, e.1.1.2.1, ()), e.1.2.1, (e.1.2.2.1.1, e.1.2.2.1.2.1, e.1.2.2.1.2.2.1, e.1.2.2.1.2.2.2.1, ()), e.1.2.2.2.1, e.1.2.2.2.2.1, ()), ((e.2.1.1, e.2.1.2.1, ()), e.2.2.1, (e.2.2.2.1.1, e.2.2.2.1.2.1, e.2.2.2.1.2.2.1, e.2.2.2.1.2.2.2.1, ()), e.2.2.2.2.1, e.2.2.2.2.2.1, ()), ())).1) (Fr.val (.inr ((false, ()), ()))) (Fr.val (.inl ((s.1.1, ()), ())))
def un_r12_All (x : pt_r12_All.M.X) : Int × List (sliceT.den × sliceT.den) × st_r12_All := (x.1.1, x.1.2.1.zip x.1.2.2.1, x.1.2.2, x.2)
def good_r12_All (x : pt_r12_All.M.X) : Prop := x.1.2.1.length = x.1.2.2.1.length
def out_r12_All (s : st_r12_All) : pt_r12_All.E.X := ((), ())
def dS_r12_All : st_r12_All := (dfP _, dfM _)
def dR_r12_All : pt_r12_All.R.X := (dfP _, dfM _)
theorem loop_r12_All : Does Try.prog (.loop (loopF Try.f23 0)) pt_r12_All.M pt_r12_All (FL step_r12_All un_r12_All good_r12_All out_r12_All Rd.back dS_r12_All dR_r12_All) := by
 refine Does.list sem_r12_All step_r12_All un_r12_All good_r12_All out_r12_All Rd.back dS_r12_All dR_r12_All ?_ ?_
 ·rintro ⟨⟨i, l, s⟩, m⟩ hg h0 h1 hb e he Q h
  have hz : l.length = s.1.length := hg
  have h0 : 0 <= i := h0
  have h1 : i < (l.length : Int) := zip_lt hz h1
  have hb : (l.length : Int) <= 9223372036854775807 := zip_le hz hb
  have h1z : i < (s.1.length : Int) := by rw [← hz]; exact h1
  have hd : l.getD i.toNat sliceT.dflt = e.1 := getD_of (zip_fst he)
  have hdz : s.1.getD i.toNat sliceT.dflt = e.2 := getD_of (zip_snd he)
  have hw := wrap_next h0 h1 hb
  dsimp only [un_r12_All, step_r12_All, fr_r12_All, Fr.satP] at h ⊢
  simp only [hd, hw, hdz] at h ⊢
  refine ⟨fun _ => ?_, fun hn => absurd h1 (of_decide_eq_false hn)⟩
  repeat' first
   | exact h
   | exact ⟨h0, h1⟩
   | exact fun _ => ⟨h0, h1⟩
   | exact ⟨h0, h1z⟩
   | exact fun _ => ⟨h0, h1z⟩
   | exact h _ rfl hz
   | refine ⟨?_, ?_⟩
   | (intro (hc : _ = true); replace h := h.1 hc)
   | (intro (hc : _ = false); replace h := h.2 hc)
 ·rintro ⟨⟨i, l, s⟩, m⟩ hg h1 Q h
  have hz : l.length = s.1.length := hg
  exact ⟨fun hn => absurd (of_decide_eq_true hn) (zip_nlt hz h1), fun _ => h⟩
def Λ_r12_All (Γ : Gm) : St -> Option Tr := pt_r12_All.han Γ pt_r12_All.M (FL step_r12_All un_r12_All good_r12_All out_r12_All Rd.back dS_r12_All dR_r12_All)
def res_r12_All (y : pt_r12_All.M.X) : st_r12_All ⊕ pt_r12_All.R.X := goL step_r12_All ((un_r12_All y).2.1.drop (un_r12_All y).1.toNat) (un_r12_All y).2.2
def okr_r12_All (y : pt_r12_All.M.X) : Prop := okL step_r12_All ((un_r12_All y).2.1.drop (un_r12_All y).1.toNat) (un_r12_All y).2.2
abbrev pt_r12_Few : Pt := ⟨68, 0, ⟨[(5, .d i64)], [.x 2 35 histT, .r 2 2 0, .x 3 38 tarT, .r 3 3 0]⟩, ⟨[], [.x 3 38 tarT, .r 3 3 0]⟩, ⟨[(4, .d .bool)], []⟩⟩
def fr_r12_Few (x : pt_r12_Few.M.X) : Fr pt_r12_Few.Out :=
 Fr.br (decide (x.1.1 < ((List.length x.2.1.2.2.2.1) : Int))) (Fr.need (0 <= x.1.1 /\ x.1.1 < ((List.length x.2.1.2.2.2.1) : Int)) (Fr.br (decide (((List.length (List.getD x.2.1.2.2.2.1 (Int.toNat x.1.1) changeT.dflt).2.2.2.2.1) : Int) > 50)) (Fr.val (Rd.back ((false, ()), ()))) (Fr.val (Rd.next ((IntKind.i64.wrap (x.1.1 + 1), ()), (x.2.1.1, x.2.1.2.1, ((x.2.1.2.2.1.1.1, x.2.1.2.2.1.1.2.1, ()), (x.2.1.2.2.1.2.1.1, x.2.1.2.2.1.2.1.2.1, x.2.1.2.2.1.2.1.2.2.1, x.2.1.2.2.1.2.1.2.2.2.1, ()), x.2.1.2.2.1.2.2.1, ()), x.2.1.2.2.2.1, ()), (x.2.2.1.1, ()), ()))))) (Fr.val (Rd.out ((), (x.2.2.1.1, ()), ())))
theorem sem_r12_Few : Does Try.prog (loopF Try.f13 0) pt_r12_Few.M pt_r12_Few fr_r12_Few :=
 Does.of_run CHB0_ok (bs := 0) (Λ := lam0) rfl rfl rfl (fun E => lam0_ok _ 0) (fun x => by kernel_rfl)
abbrev st_r12_Few : Type := denP [] × denM [.x 2 35 histT, .r 2 2 0, .x 3 38 tarT, .r 3 3 0]
def step_r12_Few (e : changeT.den) (s : st_r12_Few) : Fr (st_r12_Few ⊕ pt_r12_Few.R.X) :=
 Fr.br (decide (((List.length e.2.2.2.2.1) : Int) > 50)) (Fr.val (.inr ((false, ()), ()))) (Fr.val (.inl ((), (s.2.1.1, s.2.1.2.1, ((s.2.1.2.2.1.1.1, s.2.1.2.2.1.1.2.1, ()), (s.2.1.2.2.1.2.1.1, s.2.1.2.2.1.2.1.2.1, s.2.1.2.2.1.2.1.2.2.1, s.2.1.2.2.1.2.1.2.2.2.1, ()), s.2.1.2.2.1.2.2.1, ()), s.2.1.2.2.2.1, ()), (s.2.2.1.1, ()), ())))
def un_r12_Few (x : pt_r12_Few.M.X) : Int × List changeT.den × st_r12_Few := (x.1.1, x.2.1.2.2.2.1, x.1.2, x.2)
def good_r12_Few (x : pt_r12_Few.M.X) : Prop := True
def out_r12_Few (s : st_r12_Few) : pt_r12_Few.E.X := ((), (s.2.2.1.1, ()), ())
def dS_r12_Few : st_r12_Few := (dfP _, dfM _)
def dR_r12_Few : pt_r12_Few.R.X := (dfP _, dfM _)
theorem loop_r12_Few : Does Try.prog (.loop (loopF Try.f13 0)) pt_r12_Few.M pt_r12_Few (FL step_r12_Few un_r12_Few good_r12_Few out_r12_Few Rd.back dS_r12_Few dR_r12_Few) := by
 refine Does.list sem_r12_Few step_r12_Few un_r12_Few good_r12_Few out_r12_Few Rd.back dS_r12_Few dR_r12_Few ?_ ?_
 ·rintro ⟨⟨i, s⟩, m⟩ hg h0 h1 hb e he Q h
  have h0 : 0 <= i := h0
  have h1 : i < (m.1.2.2.2.1.length : Int) := h1
  have hb : (m.1.2.2.2.1.length : Int) <= 9223372036854775807 := hb
  have hd : m.1.2.2.2.1.getD i.toNat changeT.dflt = e := getD_of he
  have hw := wrap_next h0 h1 hb
  dsimp only [un_r12_Few, step_r12_Few, fr_r12_Few, Fr.satP] at h ⊢
  simp only [hd, hw] at h ⊢
  refine ⟨fun _ => ?_, fun hn => absurd h1 (of_decide_eq_false hn)⟩
  repeat' first
   | exact h
   | exact ⟨h0, h1⟩
   | exact fun _ => ⟨h0, h1⟩
   | exact h _ rfl trivial
   | refine ⟨?_, ?_⟩
   | (intro (hc : _ = true); replace h := h.1 hc)
   | (intro (hc : _ = false); replace h := h.2 hc)
 ·rintro ⟨⟨i, s⟩, m⟩ hg h1 Q h
  exact ⟨fun hn => absurd (of_decide_eq_true hn) h1, fun _ => h⟩
def Λ_r12_Few (Γ : Gm) : St -> Option Tr := pt_r12_Few.han Γ pt_r12_Few.M (FL step_r12_Few un_r12_Few good_r12_Few out_r12_Few Rd.back dS_r12_Few dR_r12_Few)
def res_r12_Few (y : pt_r12_Few.M.X) : st_r12_Few ⊕ pt_r12_Few.R.X := goL step_r12_Few ((un_r12_Few y).2.1.drop (un_r12_Few y).1.toNat) (un_r12_Few y).2.2
def okr_r12_Few (y : pt_r12_Few.M.X) : Prop := okL step_r12_Few ((un_r12_Few y).2.1.drop (un_r12_Few y).1.toNat) (un_r12_Few y).2.2
abbrev pt_r12_Few1 : Pt := ⟨68, 2, ⟨[(6, .d i64)], [.x 3 38 tarT, .r 3 3 0]⟩, ⟨[], []⟩, ⟨[(4, .d .bool)], []⟩⟩
def fr_r12_Few1 (x : pt_r12_Few1.M.X) : Fr pt_r12_Few1.Out :=
 Fr.br (decide (x.1.1 < ((List.length x.2.1.1) : Int))) (Fr.need (0 <= x.1.1 /\ x.1.1 < ((List.length x.2.1.1) : Int)) (Fr.br (bif bif decide (((List.length (List.getD x.2.1.1 (Int.toNat x.1.1) verT.dflt).2.2.1) : Int) > 200) then true else decide (((List.length (List.getD x.2.1.1 (Int.toNat x.1.1) verT.dflt).2.2.2.1) : Int) > 200) then true else decide (((List.length (List.getD x.2.1.1 (Int.toNat x.1.1) verT.dflt).2.2.2.2.1) : Int) > 200)) (Fr.val (Rd.back ((false, ()), ()))) (Fr.val (Rd.next ((IntKind.i64.wrap (x.1.1 + 1), ()), (x.2.1.1, ()), ()))))) (Fr.val (Rd.out ((), ())))
theorem sem_r12_Few1 : Does Try.prog (loopF Try.f13 1) pt_r12_Few1.M pt_r12_Few1 fr_r12_Few1 :=
 Does.of_run CHB0_ok (bs := 0) (Λ := lam0) rfl rfl rfl (fun E => lam0_ok _ 0) (fun x => by kernel_rfl)
abbrev st_r12_Few1 : Type := denP [] × denM [.x 3 38 tarT, .r 3 3 0]
def step_r12_Few1 (e : verT.den) (s : st_r12_Few1) : Fr (st_r12_Few1 ⊕ pt_r12_Few1.R.X) :=
 Fr.br (bif bif decide (((List.length e.2.2.1) : Int) > 200) then true else decide (((List.length e.2.2.2.1) : Int) > 200) then true else decide (((List.length e.2.2.2.2.1) : Int) > 200)) (Fr.val (.inr ((false, ()), ()))) (Fr.val (.inl ((), (s.2.1.1, ()), ())))
def un_r12_Few1 (x : pt_r12_Few1.M.X) : Int × List verT.den × st_r12_Few1 := (x.1.1, x.2.1.1, x.1.2, x.2)
def good_r12_Few1 (x : pt_r12_Few1.M.X) : Prop := True
def out_r12_Few1 (s : st_r12_Few1) : pt_r12_Few1.E.X := ((), ())
def dS_r12_Few1 : st_r12_Few1 := (dfP _, dfM _)
def dR_r12_Few1 : pt_r12_Few1.R.X := (dfP _, dfM _)
theorem loop_r12_Few1 : Does Try.prog (.loop (loopF Try.f13 1)) pt_r12_Few1.M pt_r12_Few1 (FL step_r12_Few1 un_r12_Few1 good_r12_Few1 out_r12_Few1 Rd.back dS_r12_Few1 dR_r12_Few1) := by
 refine Does.list sem_r12_Few1 step_r12_Few1 un_r12_Few1 good_r12_Few1 out_r12_Few1 Rd.back dS_r12_Few1 dR_r12_Few1 ?_ ?_
 ·rintro ⟨⟨i, s⟩, m⟩ hg h0 h1 hb e he Q h
  have h0 : 0 <= i := h0
  have h1 : i < (m.1.1.length : Int) := h1
  have hb : (m.1.1.length : Int) <= 9223372036854775807 := hb
  have hd : m.1.1.getD i.toNat verT.dflt = e := getD_of he
  have hw := wrap_next h0 h1 hb
  dsimp only [un_r12_Few1, step_r12_Few1, fr_r12_Few1, Fr.satP] at h ⊢
  simp only [hd, hw] at h ⊢
  refine ⟨fun _ => ?_, fun hn => absurd h1 (of_decide_eq_false hn)⟩
  repeat' first
   | exact h
   | exact ⟨h0, h1⟩
   | exact fun _ => ⟨h0, h1⟩
   | exact h _ rfl trivial
   | refine ⟨?_, ?_⟩
   | (intro (hc : _ = true); replace h := h.1 hc)
   | (intro (hc : _ = false); replace h := h.2 hc)
 ·rintro ⟨⟨i, s⟩, m⟩ hg h1 Q h
  exact ⟨fun hn => absurd (of_decide_eq_true hn) h1, fun _ => h⟩
def Λ_r12_Few1 (Γ : Gm) : St -> Option Tr := pt_r12_Few1.han Γ pt_r12_Few1.M (FL step_r12_Few1 un_r12_Few1 good_r12_Few1 out_r12_Few1 Rd.back dS_r12_Few1 dR_r12_Few1)
def res_r12_Few1 (y : pt_r12_Few1.M.X) : st_r12_Few1 ⊕ pt_r12_Few1.R.X := goL step_r12_Few1 ((un_r12_Few1 y).2.1.drop (un_r12_Few1 y).1.toNat) (un_r12_Few1 y).2.2
def okr_r12_Few1 (y : pt_r12_Few1.M.X) : Prop := okL step_r12_Few1 ((un_r12_Few1 y).2.1.drop (un_r12_Few1 y).1.toNat) (un_r12_Few1 y).2.2
def ff_r12_All (x : denP [.d slsT, .d slsT]) : Fr (denL [.bool]) :=
 Fr.br (((List.length x.1) : Int) != ((List.length x.2.1) : Int)) (Fr.val (false, ())) (Fr.need (InL (good_r12_All ((0, x.1, x.2.1, ()), ())) (un_r12_All ((0, x.1, x.2.1, ()), ()))) (Fr.need (okr_r12_All ((0, x.1, x.2.1, ()), ())) (Fr.br (isL (res_r12_All ((0, x.1, x.2.1, ()), ()))) (Fr.val (true, ())) (Fr.val ((getR dR_r12_All (res_r12_All ((0, x.1, x.2.1, ()), ()))).1.1, ())))))
theorem ff_r12_All_ok : SoundCt Try.prog 23 ⟨[.d slsT, .d slsT], [.bool], fun xs => (ff_r12_All xs).get, fun xs => [(ff_r12_All xs).ok]⟩ :=
 fn_sound CHB_ok (Λ := (fun _ => Λ_r12_All CHB.Γ)) (fn := Try.f23) (dfP [.d slsT, .d slsT]) (by kernel_rfl) (fun c E hc => lam1f hc (by kernel_rfl) (b := loopF Try.f23 0) (by kernel_rfl) (Does.han CHB_ok rfl loop_r12_All)) (fun x => by kernel_rfl)
def ff_r12_Few (x : denP [.d histT, .d tarT]) : Fr (denL [.bool]) :=
 Fr.br (bif bif decide (((List.length x.1.2.2.2.1) : Int) > 60) then true else decide (((List.length x.2.1.1) : Int) > 100) then true else decide (((List.length x.1.2.2.1.2.2.1) : Int) > 50)) (Fr.val (false, ())) (Fr.need (InL (good_r12_Few ((0, ()), (x.1.1, x.1.2.1, ((x.1.2.2.1.1.1, x.1.2.2.1.1.2.1, ()), (x.1.2.2.1.2.1.1, x.1.2.2.1.2.1.2.1, x.1.2.2.1.2.1.2.2.1, x.1.2.2.1.2.1.2.2.2.1, ()), x.1.2.2.1.2.2.1, ()), x.1.2.2.2.1, ()), (x.2.1.1, ()), ())) (un_r12_Few ((0, ()), (x.1.1, x.1.2.1, ((x.1.2.2.1.1.1, x.1.2.2.1.1.2.1, ()), (x.1.2.2.1.2.1.1, x.1.2.2.1.2.1.2.1, x.1.2.2.1.2.1.2.2.1, x.1.2.2.1.2.1.2.2.2.1, ()), x.1.2.2.1.2.2.1, ()), x.1.2.2.2.1, ()), (x.2.1.1, ()), ()))) (Fr.need (okr_r12_Few ((0, ()), (x.1.1, x.1.2.1, ((x.1.2.2.1.1.1, x.1.2.2.1.1.2.1, ()), (x.1.2.2.1.2.1.1, x.1.2.2.1.2.1.2.1, x.1.2.2.1.2.1.2.2.1, x.1.2.2.1.2.1.2.2.2.1, ()), x.1.2.2.1.2.2.1, ()), x.1.2.2.2.1, ()), (x.2.1.1, ()), ())) (Fr.br (isL (res_r12_Few ((0, ()), (x.1.1, x.1.2.1, ((x.1.2.2.1.1.1, x.1.2.2.1.1.2.1, ()), (x.1.2.2.1.2.1.1, x.1.2.2.1.2.1.2.1, x.1.2.2.1.2.1.2.2.1, x.1.2.2.1.2.1.2.2.2.1, ()), x.1.2.2.1.2.2.1, ()), x.1.2.2.2.1, ()), (x.2.1.1, ()), ()))) (Fr.need (InL (good_r12_Few1 ((0, ()), ((out_r12_Few (getL dS_r12_Few (res_r12_Few ((0, ()), (x.1.1, x.1.2.1, ((x.1.2.2.1.1.1, x.1.2.2.1.1.2.1, ()), (x.1.2.2.1.2.1.1, x.1.2.2.1.2.1.2.1, x.1.2.2.1.2.1.2.2.1, x.1.2.2.1.2.1.2.2.2.1, ()), x.1.2.2.1.2.2.1, ()), x.1.2.2.2.1, ()), (x.2.1.1, ()), ())))).2.1.1, ()), ())) (un_r12_Few1 ((0, ()), ((out_r12_Few (getL dS_r12_Few (res_r12_Few ((0, ()), (x.1.1, x.1.2.1, ((x.1.2.2.1.1.1, x.1.2.2.1.1.2.1, ()), (x.1.2.2.1.2.1.1, x.1.2.2.1.2.1.2.1, x.1.2.2.1.2.1.2.2.1, x.1.2.2.1.2.1.2.2.2.1, ()), x.1.2.2.1.2.2.1, ()), x.1.2.2.2.1, ()), (x.2.1.1, ()), ())))).2.1.1, ()), ()))) (Fr.need (okr_r12_Few1 ((0, ()), ((out_r12_Few (getL dS_r12_Few (res_r12_Few ((0, ()), (x.1.1, x.1.2.1, ((x.1.2.2.1.1.1, x.1.2.2.1.1.2.1, ()), (x.1.2.2.1.2.1.1, x.1.2.2.1.2.1.2.1, x.1.2.2.1.2.1.2.2.1, x.1.2.2.1.2.1.2.2.2.1, ()), x.1.2.2.1.2.2.1, ()), x.1.2.2.2.1, ()), (x.2.1.1, ()), ())))).2.1.1, ()), ())) (Fr.br (isL (res_r12_Few1 ((0, ()), ((out_r12_Few (getL dS_r12_Few (goL step_r12_Few (List.drop (un_r12_Few ((0, ()), (x.1.1, x.1.2.1, ((x.1.2.2.1.1.1, x.1.2.2.1.1.2.1, ()), (x.1.2.2.1.2.1.1, x.1.2.2.1.2.1.2.1, x.1.2.2.1.2.1.2.2.1, x.1.2.2.1.2.1.2.2.2.1, ()), x.1.2.2.1.2.2.1, ()), x.1.2.2.2.1, ()), (x.2.1.1, ()), ())).1.toNat (un_r12_Few ((0, ()), (x.1.1, x.1.2.1, ((x.1.2.2.1.1.1, x.1.2.2.1.1.2.1, ()), (x.1.2.2.1.2.1.1, x.1.2.2.1.2.1.2.1, x.1.2.2.1.2.1.2.2.1, x.1.2.2.1.2.1.2.2.2.1, ()), x.1.2.2.1.2.2.1, ()), x.1.2.2.2.1, ()), (x.2.1.1, ()), ())).2.1) (un_r12_Few ((0, ()), (x.1.1, x.1.2.1, ((x.1.2.2.1.1.1, x.1.2.2.1.1.2.1, ()), (x.1.2.2.1.2.1.1, x.1.2.2.1.2.1.2.1, x.1.2.2.1.2.1.2.2.1, x.1.2.2.1.2.1.2.2.2.1, ()), x.1.2.2.1.2.2.1, ()), x.1.2.2.2.1, ()), (x.2.1.1, ()), ())).2.2))).2.1.1, ()), ()))) (Fr.val (true, ())) (Fr.val ((getR dR_r12_Few1 (res_r12_Few1 ((0, ()), ((out_r12_Few (getL dS_r12_Few (goL step_r12_Few (List.drop (un_r12_Few ((0, ()), (x.1.1, x.1.2.1, ((x.1.2.2.1.1.1, x.1.2.2.1.1.2.1, ()), (x.1.2.2.1.2.1.1, x.1.2.2.1.2.1.2.1, x.1.2.2.1.2.1.2.2.1, x.1.2.2.1.2.1.2.2.2.1, ()), x.1.2.2.1.2.2.1, ()), x.1.2.2.2.1, ()), (x.2.1.1, ()), ())).1.toNat (un_r12_Few ((0, ()), (x.1.1, x.1.2.1, ((x.1.2.2.1.1.1, x.1.2.2.1.1.2.1, ()), (x.1.2.2.1.2.1.1, x.1.2.2.1.2.1.2.1, x.1.2.2.1.2.1.2.2.1, x.1.2.2.1.2.1.2.2.2.1, ()), x.1.2.2.1.2.2.1, ()), x.1.2.2.2.1, ()), (x.2.1.1, ()), ())).2.1) (un_r12_Few ((0, ()), (x.1.1, x.1.2.1, ((x.1.2.2.1.1.1, x.1.2.2.1.1.2.1, ()), (x.1.2.2.1.2.1.1, x.1.2.2.1.2.1.2.1, x.1.2.2.1.2.1.2.2.1, x.1.2.2.1.2.1.2.2.2.1, ()), x.1.2.2.1.2.2.1, ()), x.1.2.2.2.1, ()), (x.2.1.1, ()), ())).2.2))).2.1.1, ()), ()))).1.1, ()))))) (Fr.val ((getR dR_r12_Few (res_r12_Few ((0, ()), (x.1.1, x.1.2.1, ((x.1.2.2.1.1.1, x.1.2.2.1.1.2.1, ()), (x.1.2.2.1.2.1.1, x.1.2.2.1.2.1.2.1, x.1.2.2.1.2.1.2.2.1, x.1.2.2.1.2.1.2.2.2.1, ()), x.1.2.2.1.2.2.1, ()), x.1.2.2.2.1, ()), (x.2.1.1, ()), ()))).1.1, ())))))
theorem ff_r12_Few_ok : SoundCt Try.prog 13 ⟨[.d histT, .d tarT], [.bool], fun xs => (ff_r12_Few xs).get, fun xs => [(ff_r12_Few xs).ok]⟩ :=
 fn_sound CHB0_ok (Λ := (fun k => if k = 0 then Λ_r12_Few CHB0.Γ else Λ_r12_Few1 CHB0.Γ)) (fn := Try.f13) (dfP [.d histT, .d tarT]) (by kernel_rfl) (fun c E hc => lam2f hc (by kernel_rfl) (b0 := loopF Try.f13 0) (b1 := loopF Try.f13 1) (by kernel_rfl) (by kernel_rfl) (Does.han CHB0_ok rfl loop_r12_Few) (Does.han CHB0_ok rfl loop_r12_Few1)) (fun x => by kernel_rfl)
def sameS : List sliceT.den -> List sliceT.den -> Bool
 | [], [] => true
 | a :: l, b :: m => sliceEq a b && sameS l m
 | _, _ => false
def cSameS : Ct := ⟨[.d slsT, .d slsT], [.bool], fun x => (sameS x.1 x.2.1, ()), fun _ => []⟩
theorem sameS_zip : {l m : List sliceT.den} -> l.length = m.length -> sameS l m = (l.zip m).all fun e => sliceEq e.1 e.2
 | [], [], _ => rfl
 | [], b :: m, h => by cases h
 | a :: l, [], h => by cases h
 | a :: l, b :: m, h => by
  simp only [sameS, List.zip_cons_cons, List.all_cons]
  rw [sameS_zip (by simpa using h)]
theorem sameS_len : {l m : List sliceT.den} -> l.length ≠ m.length -> sameS l m = false
 | [], [], h => absurd rfl h
 | [], b :: m, _ => rfl
 | a :: l, [], _ => rfl
 | a :: l, b :: m, h => by
  simp only [sameS]
  rw [sameS_len (l := l) (m := m) (by simpa using h), Bool.and_false]
theorem a12_step (e : sliceT.den × sliceT.den) (s : st_r12_All) : (step_r12_All e s).get = if sliceEq e.1 e.2 = true then .inl s else .inr ((false, ()), ()) := by
 show (if (!(sliceEq e.1 e.2)) = true then _ else _) = _
 cases sliceEq e.1 e.2 <;> rfl
theorem all12_ok : SoundCt Try.prog 23 cSameS :=
 conv ff_r12_All_ok _ _ (fun w F x vs hr _ => by
  obtain ⟨l, m, _⟩ := x
  obtain ⟨v, vs', rfl, hv, _⟩ := hr
  have hlen : (l.length : Int) <= 9223372036854775807 := wf_len hv
  have hne := len_ne l.length m.length
  by_cases hlm : l.length = m.length
  ·have hne' : ((l.length : Int) != (m.length : Int)) = false := by rw [hne, decide_eq_true hlm]; rfl
   have hz : ((l.zip m).length : Int) <= 9223372036854775807 := by
    rw [List.length_zip]
    omega
   refine ⟨⟨fun _ => trivial, fun _ => ⟨⟨hlm, Int.le_refl _, Int.natCast_nonneg _, hz⟩, okL_of (step := step_r12_All) (fun e s => ⟨fun _ => trivial, fun _ => trivial⟩) _ _, fun _ => trivial, fun _ => trivial⟩⟩, ?_⟩
   have hres := bool_loop (p := fun e _ => sliceEq e.1 e.2) (f := fun _ s => s) a12_step (l.zip m) ((m, ()), ())
   rw [allF_keep, ← sameS_zip hlm] at hres
   have hres' : res_r12_All ((0, l, m, ()), ()) = if sameS l m = true then .inl _ else .inr _ := hres
   show (if ((l.length : Int) != (m.length : Int)) = true then ((false, ()) : Bool × Unit) else if isL (res_r12_All ((0, l, m, ()), ())) = true then (true, ()) else ((getR dR_r12_All (res_r12_All ((0, l, m, ()), ()))).1.1, ())) = (sameS l m, ())
   rw [hres', hne']
   cases sameS l m <;> rfl
  ·have hne' : ((l.length : Int) != (m.length : Int)) = true := by rw [hne, decide_eq_false hlm]; rfl
   refine ⟨⟨fun _ => trivial, fun hc => (by have hc' : ((l.length : Int) != (m.length : Int)) = false := hc; rw [hne'] at hc'; cases hc')⟩, ?_⟩
   show (if ((l.length : Int) != (m.length : Int)) = true then ((false, ()) : Bool × Unit) else _) = (sameS l m, ())
   rw [hne', sameS_len hlm]
   rfl)
def fewC (c : changeT.den) : Bool := decide (c.2.2.2.2.1.length <= 50)
def fewV (v : verT.den) : Bool := decide (v.2.2.1.length <= 200) && (decide (v.2.2.2.1.length <= 200) && decide (v.2.2.2.2.1.length <= 200))
def fewB (h : histT.den) (t : tarT.den) : Bool := (decide (h.2.2.2.1.length <= 60) && (decide (t.1.length <= 100) && decide (h.2.2.1.2.2.1.length <= 50))) && (h.2.2.2.1.all fewC && t.1.all fewV)
def cFew : Ct := ⟨[.d histT, .d tarT], [.bool], fun x => (fewB x.1 x.2.1, ()), fun _ => []⟩
theorem gt_b (n : Nat) (k : Nat) : decide ((n : Int) > (k : Int)) = !decide (n <= k) := by
 rw [Bool.eq_iff_iff]
 simp only [Bool.not_eq_true', decide_eq_true_eq, decide_eq_false_iff_not]
 omega
theorem fc_step (e : changeT.den) (s : st_r12_Few) : (step_r12_Few e s).get = if fewC e = true then .inl s else .inr ((false, ()), ()) := by
 show (if decide ((e.2.2.2.2.1.length : Int) > (50 : Nat)) = true then _ else _) = _
 rw [gt_b]
 unfold fewC
 cases decide (e.2.2.2.2.1.length <= 50) <;> rfl
theorem fv_step (e : verT.den) (s : st_r12_Few1) : (step_r12_Few1 e s).get = if fewV e = true then .inl s else .inr ((false, ()), ()) := by
 show (if (bif bif decide ((e.2.2.1.length : Int) > (200 : Nat)) then true else decide ((e.2.2.2.1.length : Int) > (200 : Nat)) then true else decide ((e.2.2.2.2.1.length : Int) > (200 : Nat))) = true then _ else _) = _
 rw [gt_b, gt_b, gt_b]
 unfold fewV
 cases decide (e.2.2.1.length <= 200) <;> cases decide (e.2.2.2.1.length <= 200) <;> cases decide (e.2.2.2.2.1.length <= 200) <;> rfl
theorem endF_keep {T σ : Type} (l : List T) (s : σ) : endF (fun _ s => s) l s = s := by
 induction l with
 | nil => rfl
 | cons e r ih => exact ih
theorem few_ok : SoundCt Try.prog 13 cFew :=
 conv ff_r12_Few_ok _ _ (fun w F x vs hr _ => by
  obtain ⟨h, t, _⟩ := x
  obtain ⟨v, vs', rfl, hv, v2, vs2, rfl, hv2, _⟩ := hr
  have hwf := RepT.wf hv.2.2
  have hwf2 := RepT.wf hv2.2.2
  have hlen : (h.2.2.2.1.length : Int) <= 9223372036854775807 := len_big hwf.2.2.2.1.1
  have hlen2 : (t.1.length : Int) <= 9223372036854775807 := len_big hwf2.1.1
  have hres := bool_loop (p := fun e _ => fewC e) (f := fun _ s => s) fc_step h.2.2.2.1 ((), (h, (t, ())))
  rw [allF_keep, endF_keep] at hres
  have hres' : res_r12_Few ((0, ()), (h, (t, ()))) = if h.2.2.2.1.all fewC = true then .inl ((), (h, (t, ()))) else .inr ((false, ()), ()) := hres
  have hres2 := bool_loop (p := fun e _ => fewV e) (f := fun _ s => s) fv_step t.1 ((), (t, ()))
  rw [allF_keep, endF_keep] at hres2
  have hres2' : res_r12_Few1 ((0, ()), (t, ())) = if t.1.all fewV = true then .inl ((), (t, ())) else .inr ((false, ()), ()) := hres2
  have ho : ∀ s, okr_r12_Few s := fun s => okL_of (step := step_r12_Few) (fun e s => ⟨fun _ => trivial, fun _ => trivial⟩) _ _
  have ho1 : ∀ s, okr_r12_Few1 s := fun s => okL_of (step := step_r12_Few1) (fun e s => ⟨fun _ => trivial, fun _ => trivial⟩) _ _
  have hcond : (bif bif decide ((h.2.2.2.1.length : Int) > (60 : Nat)) then true else decide ((t.1.length : Int) > (100 : Nat)) then true else decide ((h.2.2.1.2.2.1.length : Int) > (50 : Nat))) = !(decide (h.2.2.2.1.length <= 60) && (decide (t.1.length <= 100) && decide (h.2.2.1.2.2.1.length <= 50))) := by
   rw [gt_b, gt_b, gt_b]
   cases decide (h.2.2.2.1.length <= 60) <;> cases decide (t.1.length <= 100) <;> cases decide (h.2.2.1.2.2.1.length <= 50) <;> rfl
  have hin2 : isL (res_r12_Few ((0, ()), (h, (t, ())))) = true -> (out_r12_Few (getL dS_r12_Few (res_r12_Few ((0, ()), (h, (t, ())))))).2.1 = t := by
   rw [hres']
   cases h.2.2.2.1.all fewC with
   | true => exact fun _ => rfl
   | false => exact fun hh => (by cases hh)
  have hlen3 : isL (res_r12_Few ((0, ()), (h, (t, ())))) = true -> (((out_r12_Few (getL dS_r12_Few (res_r12_Few ((0, ()), (h, (t, ())))))).2.1.1.length : Int)) <= 9223372036854775807 := fun hh => by
   rw [hin2 hh]
   exact hlen2
  refine ⟨⟨fun _ => trivial, fun _ => ⟨⟨trivial, Int.le_refl _, Int.natCast_nonneg _, hlen⟩, ho _, fun hh => ⟨⟨trivial, Int.le_refl _, Int.natCast_nonneg _, hlen3 hh⟩, ho1 _, fun _ => trivial, fun _ => trivial⟩, fun _ => trivial⟩⟩, ?_⟩
  show (if (bif bif decide ((h.2.2.2.1.length : Int) > (60 : Nat)) then true else decide ((t.1.length : Int) > (100 : Nat)) then true else decide ((h.2.2.1.2.2.1.length : Int) > (50 : Nat))) = true then ((false, ()) : Bool × Unit) else
   if isL (res_r12_Few ((0, ()), (h, (t, ())))) = true then (if isL (res_r12_Few1 ((0, ()), ((out_r12_Few (getL dS_r12_Few (res_r12_Few ((0, ()), (h, (t, ())))))).2.1, ()))) = true then (true, ()) else ((getR dR_r12_Few1 (res_r12_Few1 ((0, ()), ((out_r12_Few (getL dS_r12_Few (res_r12_Few ((0, ()), (h, (t, ())))))).2.1, ())))).1.1, ()))
   else ((getR dR_r12_Few (res_r12_Few ((0, ()), (h, (t, ()))))).1.1, ())) = (fewB h t, ())
  rw [hcond]
  unfold fewB
  by_cases hall : h.2.2.2.1.all fewC = true
  ·rw [if_pos hall] at hres'
   rw [hin2 (by rw [hres']; rfl), hres', hres2', hall]
   cases (decide (h.2.2.2.1.length <= 60) && (decide (t.1.length <= 100) && decide (h.2.2.1.2.2.1.length <= 50))) <;> cases t.1.all fewV <;> rfl
  ·have hall' : h.2.2.2.1.all fewC = false := by simpa using hall
   rw [if_neg hall] at hres'
   rw [hres', hall']
   cases (decide (h.2.2.2.1.length <= 60) && (decide (t.1.length <= 100) && decide (h.2.2.1.2.2.1.length <= 50))) <;> rfl)
def bandD (age : Int) : List bandT.den -> Int -> Int
 | [], d => d
 | b :: r, d => if b.1 < age then bandD age r d else b.2.1
def cBand : Ct := ⟨[.d (.sl bandT), .d i64], [i64], fun x => (bandD x.2.1 x.1 10000, ()), fun _ => []⟩
def noVer : verT.den := (0, (0, 0, 0, 0, ()), [], [], [], 0, ())
def verAt (day : Int) : List verT.den -> verT.den × Int
 | [] => (noVer, 7)
 | v :: r => if v.1 <= day then (v, 0) else verAt day r
end Go.Proofs.Ytplkgghjldndkaa
