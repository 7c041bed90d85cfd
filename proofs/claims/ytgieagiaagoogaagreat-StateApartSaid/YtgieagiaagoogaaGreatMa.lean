/-
  Parts of the proof, one behind the other: AbA.
-/
import Derived.Calls
import Derived.Below
import Derived.Laws.AppendOwn
import Derived.OwnWalk
import Derived.Maps.AppendAt
import Derived.Deep.Draws
import Derived.Deep.MidRow
import Derived.Laws.StructEq
import Derived.Laws.MakeOwn
set_option linter.all false
abbrev ua0:=@Option.some.injEq
abbrev ua3:=@Nat.le_refl
abbrev ua2:=@List.mem_cons
abbrev ua4:=@Int.le_refl
abbrev ua7:=@List.getElem?_eq_getElem
abbrev ua9:=@Prod.mk.injEq
abbrev uaa:=@Array.getElem?_eq_some_iff
abbrev uad:=@Array.length_toList
abbrev uae:=@List.length_take
abbrev uaf:=@List.length_cons
abbrev uah:=@Go.run_underlying
abbrev uaj:=@List.getElem?_eq_some_iff
abbrev uak:=@Int.natCast_nonneg
abbrev ual:=@Nat.le_trans
abbrev uam:=@Nat.mul_le_mul_right
abbrev uap:=@List.getElem?_take
abbrev uaq:=@Go.RowKit.Below.heap_alloc
abbrev uar:=@Nat.lt_or_ge
abbrev uay:=@Nat.succ_mul
abbrev uaz:=@List.cons_append
abbrev ub3:=@if_false
abbrev ub4:=@Go.Sem.run_bind
abbrev ub7:=@Nat.add_comm
abbrev ub8:=@Option.isSome_iff_exists
abbrev ub9:=@List.length_nil
abbrev ubd:=@List.getElem?_drop
abbrev ube:=@List.mem_of_getElem?
abbrev ubl:=@List.length_drop
abbrev ubm:=@Go.Result.andThen_ok
abbrev ubp:=@List.drop_eq_getElem_cons
abbrev ubr:=@List.getElem?_append_right
abbrev ubs:=@Int.le_of_lt
abbrev ubt:=@Bool.false_eq_true
abbrev uc3:=@List.getElem?_append_left
abbrev uc4:=@Nat.add_assoc
abbrev ucf:=@Go.World.cell?_of_block
abbrev uci:=@Go.eqGuard_at_int
abbrev ucj:=@List.all_eq_true
abbrev ucr:=@List.eq_nil_of_length_eq_zero
abbrev ucx:=@Go.Value.pointer.injEq
abbrev ucy:=@List.getElem?_eq_none
abbrev ud4:=@Go.Sem.run_pure
abbrev ud5:=@Nat.mul_comm
abbrev ud6:=@Go.heap_alloc_new
abbrev udi:=@List.getElem?_map
abbrev udj:=@Option.map_some
abbrev udy:=@List.getElem?_cons_succ
abbrev udx:=@Array.toList_inj
abbrev ued:=@Array.mem_toList_iff
abbrev uee:=@Option.bind_some
abbrev ueu:=@Nat.add_sub_cancel
abbrev uev:=@Array.toArray_toList
abbrev uew:=@Array.getElem?_setIfInBounds_ne
abbrev ufq:=@Int.sub_zero
abbrev ufr:=@Go.run_equalIn_bool'
abbrev ufs:=@List.foldr_cons
abbrev uft:=@Nat.eq_zero_or_pos
namespace Go.Ab
open Go Go.RowKit
inductive Ty where
 |int (k:IntKind)
 |bool
 |str
 |sl (e:Ty)
 |unit
 |pair (a b:Ty)
 |fm (es:List (Int×Nat))
 |ic (es:List (Int×Nat)) (t:Ty)
 |fc (f:Option Nat)
 deriving DecidableEq
@[reducible] def Ty.den:Ty->Type
 |.int _=>Int
 |.bool=>Bool
 |.str=>ByteArray
 |.sl e=>List e.den
 |.unit=>Unit
 |.pair a b=>a.den×b.den
 |.fm _=>Unit
 |.ic _ t=>Int×t.den
 |.fc _=>Unit
def Ty.size:Ty->Nat
 |.unit=>0
 |.pair a b=>a.size+b.size
 |_=>1
def Ty.wide:Ty->Bool
 |.unit | .pair _ _=>true
 |_=>false
def Ty.dflt:(t:Ty)->t.den
 |.int _=>(0:Int)
 |.bool=>false
 |.str=>ByteArray.empty
 |.sl _=>[]
 |.unit=>()
 |.pair a b=>(a.dflt,b.dflt)
 |.fm _=>()
 |.ic _ t=>(0,t.dflt)
 |.fc _=>()
def yy (es:List (Int×Nat)) (k:Int):Option Nat:=(es.find? (fun x=>x.1==k)).map (·.2)
def inR (k:IntKind) (n:Int):Prop:=k.min<=n/\n<=k.max
def qs (w:World) (F:Nat->Prop):(t:Ty)->t.den->(Nat->Value->Prop)->Prop
 |.int k,n,g=>g 0 (.int k n)/\inR k n
 |.bool,b,g=>g 0 (.bool b)
 |.str,s,g=>g 0 (.string s)/\s.size<=maxLen
 |.sl e,l,g=>∃ A c,g 0 (.slice A l.length c)/\l.length<=c/\c<=maxLen /\
   ∀ i x,l[i]? = some x->∃ ad,A=some ad/\F ad.block/\qs w F e x (fun j u=>w.cell? (ad.add (i*e.size+j))=some u)
 |.unit,_,_=>True
 |.pair a b,x,g=>qs w F a x.1 g/\qs w F b x.2 (fun j u=>g (a.size+j) u)
 |.fm es,_,g=>∃ r arr ck,g 0 (.map (some r))/\F r/\w.heap[r]? = some (.map arr ck)/\arr.toList.map (fun e=>(e.key,e.val))=es.map (fun x=>(Value.int .i64 x.1,Value.func (.func x.2) #[] #[]))
 |.ic es t,x,g=>(∃ ty u,yy es x.1=some ty/\g 0 (.iface ty u)/\u.cells.size=t.size/\(t.wide=true↔∃ cs,u = .agg cs)/\qs w F t x.2 (fun j v=>u.cells[j]? = some v))∨(yy es x.1=none/\g 0 .nilIface)
 |.fc f,_,g=>∃ u,g 0 u/\u.oneCell'=true/\∀ k,f=some k->u = .func (.func k) #[] #[]
def Wf:(t:Ty)->t.den->Prop
 |.int k,n=>inR k n
 |.bool,_=>True
 |.str,s=>s.size<=maxLen
 |.sl e,l=>l.length<=maxLen/\∀ (i:Nat) (x:e.den),l[i]? = some x->Wf e x
 |.unit,_=>True
 |.pair a b,x=>Wf a x.1/\Wf b x.2
 |.fm _,_=>True
 |.ic _ _,_=>True
 |.fc _,_=>True
theorem qs.wf {w:World} {F:Nat->Prop}:{t:Ty} -> {x:t.den} -> {g:Nat->Value->Prop}->qs w F t x g->Wf t x
 |.int _,_,_,h=>h.2
 |.bool,_,_,_=>trivial
 |.str,_,_,h=>h.2
 |.sl _,_,_,h=>by
  obtain ⟨A,c,_,h1,h2,h3⟩:=h;exact ⟨ual h1 h2,fun i x hi=>by
   obtain ⟨ad,_,_,h4⟩:=h3 i x hi;exact qs.wf h4⟩
 |.unit,_,_,_=>trivial
 |.pair _ _,_,_,h=>⟨qs.wf h.1,qs.wf h.2⟩
 |.fm _,_,_,_=>trivial
 |.ic _ _,_,_,_=>trivial
 |.fc _,_,_,_=>trivial
theorem qs.mono {w w':World} {F F':Nat->Prop} (hF:∀ b,F b->F' b) (hw:∀ b,F b->w'.heap[b]? = w.heap[b]?) :
  {t:Ty} -> {x:t.den} -> {g g':Nat->Value->Prop}->(∀ j u,j<t.size->g j u->g' j u)->qs w F t x g->qs w' F' t x g'
 |.int _,_,_,_,hg,h=>⟨hg _ _ (by simp [Ty.size]) h.1,h.2⟩
 |.bool,_,_,_,hg,h=>hg _ _ (by simp [Ty.size]) h
 |.str,_,_,_,hg,h=>⟨hg _ _ (by simp [Ty.size]) h.1,h.2⟩
 |.sl e,_,_,_,hg,h=>by
  obtain ⟨A,c,h0,h1,h2,h3⟩:=h;refine ⟨A,c,hg _ _ (by simp [Ty.size]) h0,h1,h2,fun i x hi=>?_⟩;obtain ⟨ad,ha,hf,h4⟩:=h3 i x hi;refine ⟨ad,ha,hF _ hf,qs.mono hF hw (fun j u _ hc=>?_) h4⟩;rw [← hc];refine World.cell?_of_block ?_;have:(ad.add (i*e.size+j)).block=ad.block:=by unfold Addr.add; split<;>rfl
  rw [this];exact hw _ hf
 |.unit,_,_,_,_,_=>trivial
 |.pair a b,_,_,_,hg,h=>
  ⟨qs.mono hF hw (fun j u hj hu=>hg j u (by simp only [Ty.size]; omega) hu) h.1,
   qs.mono hF hw (fun j u hj hu=>hg _ u (by simp only [Ty.size]; omega) hu) h.2⟩
 |.fm _,_,_,_,hg,h=>by
  obtain ⟨r,arr,ck,h1,h2,h3,h4⟩:=h;exact ⟨r,arr,ck,hg _ _ (by simp [Ty.size]) h1,hF r h2,(hw r h2).trans h3,h4⟩
 |.ic es t,_,_,_,hg,h=>by
  rcases h with ⟨ty,u,h1,h2,h3,h4,h5⟩|⟨h1,h2⟩
  ·exact .inl ⟨ty,u,h1,hg _ _ (by simp [Ty.size]) h2,h3,h4,qs.mono hF hw (fun _ _ _ h=>h) h5⟩
  ·exact .inr ⟨h1,hg _ _ (by simp [Ty.size]) h2⟩
 |.fc f,_,_,_,hg,h=>by
  obtain ⟨u,h1,h2,h3⟩:=h;exact ⟨u,hg _ _ (by simp [Ty.size]) h1,h2,h3⟩
def zv (w:World) (F:Nat->Prop) (t:Ty) (x:t.den) (v:Value):Prop:=
 v.cells.size=t.size/\(t.wide=true↔∃ cs,v = .agg cs)/\qs w F t x (fun j u=>v.cells[j]? = some u)
theorem zv.mono {w w':World} {F F':Nat->Prop} (hF:∀ b,F b->F' b) (hw:∀ b,F b->w'.heap[b]? = w.heap[b]?) {t:Ty} {x:t.den} {v:Value}
  (h:zv w F t x v):zv w' F' t x v:=⟨h.1,h.2.1,h.2.2.mono hF hw (fun _ _ _ h=>h)⟩
@[reducible] def qi:List Ty->Type
 |[]=>Unit
 |t::r=>t.den×qi r
def qad (w:World) (F:Nat->Prop):(ts:List Ty)->qi ts->List Value->Prop
 |[],_,vs=>vs=[]
 |t::r,x,vs=>∃ v vs',vs=v::vs'/\zv w F t x.1 v/\qad w F r x.2 vs'
theorem qad.mono {w w':World} {F F':Nat->Prop} (hF:∀ b,F b->F' b) (hw:∀ b,F b->w'.heap[b]? = w.heap[b]?):{ts:List Ty} -> {x:qi ts} -> {vs:List Value}->qad w F ts x vs->qad w' F' ts x vs
 |[],_,_,h=>h
 |_::_,_,_,⟨v,vs',h1,h2,h3⟩=>⟨v,vs',h1,h2.mono hF hw,qad.mono hF hw h3⟩
def WfL:(ts:List Ty)->qi ts->Prop
 |[],_=>True
 |t::r,x=>Wf t x.1/\WfL r x.2
theorem qad.wf {w:World} {F:Nat->Prop}:{ts:List Ty} -> {x:qi ts} -> {vs:List Value}->qad w F ts x vs->WfL ts x
 |[],_,_,_=>trivial
 |_::_,_,_,⟨_,_,_,h2,h3⟩=>⟨h2.2.2.wf,qad.wf h3⟩
def qi6 (w:World) (F:Nat->Prop):(ts:List Ty)->qi ts->Value->Prop
 |[t],x,v=>zv w F t x.1 v
 |ts,x,v=>∃ vs:Array Value,v = .tuple vs/\qad w F ts x vs.toList
def qd1 (w:World) (F:Nat->Prop) (rs:List Ty) (y:qi rs) (e:Ending) (w':World):Prop:=
 ∃ v F',e = .returned v/\Below w.heap.size w w'/\(∀ b,F b->F' b)/\(∀ b,F' b->(F b∨w.heap.size<=b)/\b<w'.heap.size)/\qi6 w' F' rs y v
def qgv (P:Program) (w:World) (F:Nat->Prop) (ps rs:List Ty) (g:qi ps->qi rs) (v:Value):Prop:=
 ∃ f caps,v = .func (.func f) #[] caps/\(∀ args w2,(callFunc f args).run P w2 = .ok (.enter f args) w2)/\∀ (w1:World) (F1:Nat->Prop),(∀ b,F b->F1 b/\w1.heap[b]? = w.heap[b]?)->(∀ b,F1 b->b<w1.heap.size) ->
  ∀ xs vs,qad w1 F1 ps xs vs->Calls P f (vs.toArray++caps) w1 (qd1 w1 F1 rs (g xs))
theorem qgv.mono {P:Program} {w w':World} {F F':Nat->Prop} (hF:∀ b,F b->F' b) (hw:∀ b,F b->w'.heap[b]? = w.heap[b]?) {ps rs:List Ty} {g:qi ps->qi rs} {v:Value}
  (h:qgv P w F ps rs g v):qgv P w' F' ps rs g v:=by
 obtain ⟨f,caps,h1,h3,h2⟩:=h;exact ⟨f,caps,h1,h3,fun w1 F1 hf hb xs vs hr=>h2 w1 F1 (fun b hb'=>⟨(hf b (hF b hb')).1,(hf b (hF b hb')).2.trans (hw b hb')⟩) hb xs vs hr⟩
def qi5 (P:Program) (w:World) (F:Nat->Prop) (ps rs:List Ty) (g:qi ps->qi rs) (D:qi ps->Prop) (v:Value):Prop:=
 ∃ f caps,v = .func (.func f) #[] caps/\(∀ args w2,(callFunc f args).run P w2 = .ok (.enter f args) w2)/\∀ (w1:World) (F1:Nat->Prop),(∀ b,F b->F1 b/\w1.heap[b]? = w.heap[b]?)->(∀ b,F1 b->b<w1.heap.size) ->
  ∀ xs vs,D xs->qad w1 F1 ps xs vs->Calls P f (vs.toArray++caps) w1 (qd1 w1 F1 rs (g xs))
theorem qi5.mono {P:Program} {w w':World} {F F':Nat->Prop} (hF:∀ b,F b->F' b) (hw:∀ b,F b->w'.heap[b]? = w.heap[b]?) {ps rs:List Ty} {g:qi ps->qi rs} {D:qi ps->Prop} {v:Value}
  (h:qi5 P w F ps rs g D v):qi5 P w' F' ps rs g D v:=by
 obtain ⟨f,caps,h1,h3,h2⟩:=h;exact ⟨f,caps,h1,h3,fun w1 F1 hf hb xs vs hd hr=>h2 w1 F1 (fun b hb'=>⟨(hf b (hF b hb')).1,(hf b (hF b hb')).2.trans (hw b hb')⟩) hb xs vs hd hr⟩
inductive AC where
 |dead
 |int (k:IntKind) (n:Int)
 |bool (b:Bool)
 |str (s:ByteArray)
 |nil
 |sl (t:Ty) (l:List t.den)
 |slx (t:Ty) (l:List t.den)
 |own (id:Nat)
 |ptr (id off:Nat)
 |sptr (cs:List AC)
 |fn (f:FuncId) (caps:List AC)
 |fv (ps rs:List Ty) (g:qi ps->qi rs)
 |pv (ps rs:List Ty) (g:qi ps->qi rs) (D:qi ps->Prop)
 |mp (es:List (Int×Nat))
 |fs (es:List (Int×Nat)) (n:Int)
 |ic (es:List (Int×Nat)) (t:Ty) (x:Int×t.den)
inductive AV where
 |dead
 |c (a:AC)
 |agg (cs:List AC)
 |tup (vs:List AV)
 |optr (id sz i off:Nat)
 |aptr (base:AC) (n:Nat) (i:Int)
 |maybe (g:Tmp) (want:Bool) (v:AV)
inductive Ob where
 |gone
 |box (ty:TypeId) (cs:List AC)
 |fbox (cs:List AC)
 |arr (ety:TypeId) (t:Ty) (l:List t.den)
 |frz (t:Ty) (l:List t.den)
def enc:(t:Ty)->t.den->List AC
 |.int k,n=>[.int k n]
 |.bool,b=>[.bool b]
 |.str,s=>[.str s]
 |.sl e,l=>[.sl e l]
 |.unit,_=>[]
 |.pair a b,x=>enc a x.1++enc b x.2
 |.fm es,_=>[.mp es]
 |.ic es t,x=>[.ic es t x]
 |.fc (some f),_=>[.fn f []]
 |.fc none,_=>[.dead]
theorem qcq:{t:Ty}->(x:t.den)->(enc t x).length=t.size
 |.int _,_ | .bool,_ | .str,_ | .sl _,_ | .unit,_ | .fm _,_ | .ic _ _,_ | .fc (some _),_ | .fc none,_=>rfl
 |.pair a b,x=>by simp [enc,Ty.size,qcq x.1,qcq x.2]
def kw {t u:Ty} (h:t=u) (l:List t.den):List u.den:=h ▸ l
def zjb (k:IntKind):List AC->Option (Int×List AC)
 |.int k' n::r=>if k=k' then some (n,r) else none
 |_=>none
def zja:List AC->Option (Bool×List AC)
 |.bool b::r=>some (b,r)
 |_=>none
def zjd:List AC->Option (ByteArray×List AC)
 |.str s::r=>some (s,r)
 |_=>none
def zjc (e:Ty):List AC->Option (List e.den×List AC)
 |.sl t l::r=>if h:t=e then some (kw h l,r) else none
 |.slx t l::r=>if h:t=e then some (kw h l,r) else none
 |.nil::r=>some ([],r)
 |_=>none
def zg9 (es:List (Int×Nat)):List AC->Option (Unit×List AC)
 |.mp es'::r=>if es'=es then some ((),r) else none
 |_=>none
def yqp {t u:Ty} (h:t=u) (x:Int×t.den):Int×u.den:=h ▸ x
def zg8 (es:List (Int×Nat)) (t:Ty):List AC->Option ((Int×t.den)×List AC)
 |.ic es' t' x::r=>if h:t'=t then if es'=es then some (yqp h x,r) else none else none
 |_=>none
def zg7 (f:Option Nat):List AC->Option (Unit×List AC)
 |.fn f' []::r=>if f=some f' then some ((),r) else none
 |.dead::r=>if f=none then some ((),r) else none
 |_=>none
def dec:(t:Ty)->List AC->Option (t.den×List AC)
 |.int k,cs=>zjb k cs
 |.bool,cs=>zja cs
 |.str,cs=>zjd cs
 |.sl e,cs=>zjc e cs
 |.unit,cs=>some ((),cs)
 |.pair a b,cs=>match dec a cs with
  |some (x,r')=>match dec b r' with
   |some (y,r'')=>some ((x,y),r'')
   |none=>none
  |none=>none
 |.fm es,cs=>zg9 es cs
 |.ic es t,cs=>zg8 es t cs
 |.fc f,cs=>zg7 f cs
inductive PT where
 |d (t:Ty)
 |ptr (t:Ty)
 |fn (ps rs:List Ty)
 |pf (ps rs:List Ty)
 |pfn (ps rs:List Ty)
 |pk (f:Nat)
 deriving DecidableEq
@[reducible] def PT.den:PT->Type
 |.d t=>t.den
 |.ptr t=>t.den
 |.fn ps rs=>qi ps->qi rs
 |.pf ps rs=>(qi ps->qi rs)×(qi ps->Prop)
 |.pfn ps rs=>qi ps->qi rs
 |.pk _=>Unit
@[reducible] def qn:List PT->Type
 |[]=>Unit
 |t::r=>t.den×qn r
def yav (P:Program) (w:World) (F:Nat->Prop):(p:PT)->p.den->Value->Prop
 |.d t,x,v=>zv w F t x v
 |.ptr t,x,v=>∃ ad,v = .pointer (some ad)/\F ad.block/\qs w F t x (fun j u=>w.cell? (ad.add j)=some u)
 |.fn ps rs,g,v=>qgv P w F ps rs g v
 |.pf ps rs,g,v=>qi5 P w F ps rs g.1 g.2 v
 |.pfn ps rs,g,v=>∃ ad u,v = .pointer (some ad)/\F ad.block/\w.cell? (ad.add 0)=some u/\qgv P w F ps rs g u
 |.pk f,_,v=>∃ ad,v = .pointer (some ad)/\F ad.block/\w.cell? (ad.add 0)=some (.func (.func f) #[] #[])
def wt (P:Program) (w:World) (F:Nat->Prop):(ts:List PT)->qn ts->List Value->Prop
 |[],_,vs=>vs=[]
 |t::r,x,vs=>∃ v vs',vs=v::vs'/\yav P w F t x.1 v/\wt P w F r x.2 vs'
def qr:List Prop->Prop
 |[]=>True
 |[p]=>p
 |p::r=>p/\qr r
theorem xz {p:Prop} {r:List Prop}:qr (p::r)↔p/\qr r:=by
 cases r with
 |nil=>exact ⟨fun h=>⟨h,trivial⟩,fun h=>h.1⟩
 |cons q r=>exact Iff.rfl
theorem xl {a b:List Prop}:qr (a++b)↔qr a/\qr b:=by
 induction a with
 |nil=>exact ⟨fun h=>⟨trivial,h⟩,fun h=>h.2⟩
 |cons p a ih=>rw [uaz,xz,xz,ih,and_assoc]
structure Ct where
 ps:List PT
 rs:List Ty
 f:qn ps->qi rs
 ok:qn ps->List Prop
def qa (P:Program) (fid:FuncId) (ct:Ct):Prop:=
 (∀ args w,(callFunc fid args).run P w = .ok (.enter fid args) w) /\
 ∀ (w:World) (F:Nat->Prop) xs vs,(∀ b,F b->b<w.heap.size)->wt P w F ct.ps xs vs->qr (ct.ok xs)->Calls P fid vs.toArray w (qd1 w F ct.rs (ct.f xs))
structure PV where
 ty:TypeId
 k:IntKind
 n:Int
def PV.val (p:PV):Value:=if p.ty<1000000 then .iface p.ty (.int p.k p.n) else .iface (p.ty-1000000) (.agg #[.int p.k p.n])
theorem PV.val_low {p:PV} (h:p.ty<1000000):p.val = .iface p.ty (.int p.k p.n):=if_pos h
theorem PV.val_high {p:PV} {T:TypeId} (h:p.ty=T+1000000):p.val = .iface T (.agg #[.int p.k p.n]):=by
 unfold PV.val;have hn:¬ p.ty<1000000:=by rw [h]; exact Nat.not_lt.2 (Nat.le_add_left _ _)
 have he:p.ty-1000000=T:=by rw [h]; exact ueu T 1000000
 rw [if_neg hn,he]
structure Pc where
 ps:List PT
 rs:List Ty
 f:qn ps->qi rs
 bad:qn ps->Bool
 pv:qn ps->PV
 ok:qn ps->List Prop
def qdl (P:Program) (fid:FuncId) (ct:Pc):Prop:=
 (∀ args w,(callFunc fid args).run P w = .ok (.enter fid args) w) /\
 ∀ (w:World) (F:Nat->Prop) xs vs,(∀ b,F b->b<w.heap.size)->wt P w F ct.ps xs vs->qr (ct.ok xs)->Calls P fid vs.toArray w fun e w'=>
  (ct.bad xs=false/\qd1 w F ct.rs (ct.f xs) e w')∨(ct.bad xs=true/\e = .panicked [{ v:=(ct.pv xs).val,recovered:=false }]/\Below w.heap.size w w')
structure St where
 n:Nat
 sl:Nat->AV
 mem:Nat->Option Ob
 gs:Nat->AV
def qp (mem:Nat->Option Ob) (γ:Nat->Value) (id:Nat) (v:Value):Prop:=
 match mem id with
 |none=>False
 |some .gone=>True
 |some _=>v=γ id
def fsV:Option (Int×Nat)->Value
 |some x=>.func (.func x.2) #[] #[]
 |none=>.nilFunc
section
variable (P:Program) (w:World) (F:Nat->Prop) (R:Nat->Value->Prop)
mutual
def zn:AC->Value->Prop
 |.dead,_=>True
 |.int k n,v=>v = .int k n/\inR k n
 |.bool b,v=>v = .bool b
 |.str s,v=>v = .string s/\s.size<=maxLen
 |.nil,v=>v = .slice none 0 0
 |.sl t l,v=>qs w F (.sl t) l (fun _ u=>u=v)
 |.slx t l,v=>∃ A,v = .slice A l.length l.length/\qs w F (.sl t) l (fun _ u=>u=v)
 |.own id,v=>R id v
 |.ptr id off,v=>∃ b,R id (.pointer (some ⟨b,0,none⟩))/\v = .pointer (some ⟨b,off,none⟩)
 |.sptr cs,v=>∃ ad,v = .pointer (some ad)/\F ad.block/\qu cs (fun j u=>w.cell? (ad.add j)=some u)
 |.fn f caps,v=>∃ vs:Array Value,v = .func (.func f) #[] vs/\vs.size=caps.length/\qu caps (fun j u=>vs[j]? = some u)
 |.fv ps rs g,v=>qgv P w F ps rs g v
 |.pv ps rs g D,v=>qi5 P w F ps rs g D v
 |.mp es,v=>∃ r arr ck,v = .map (some r)/\F r/\w.heap[r]? = some (.map arr ck)/\arr.toList.map (fun e=>(e.key,e.val))=es.map (fun x=>(Value.int .i64 x.1,Value.func (.func x.2) #[] #[]))
 |.fs es n,v=>v=fsV (es.find? (fun x=>x.1==n))
 |.ic es t x,v=>qs w F (.ic es t) x (fun _ u=>u=v)
def qu:List AC->(Nat->Value->Prop)->Prop
 |[],_=>True
 |c::r,g=>(∃ u,g 0 u/\u.oneCell'=true/\zn c u)/\qu r (fun j u=>g (j+1) u)
end
mutual
def qz:AV->Value->Prop
 |.dead,_=>True
 |.c a,v=>v.oneCell'=true/\zn P w F R a v
 |.agg cs,v=>∃ arr:Array Value,v = .agg arr/\arr.size=cs.length/\qu P w F R cs (fun j u=>arr[j]? = some u)
 |.tup vs,v=>∃ arr:Array Value,v = .tuple arr/\arr.size=vs.length/\qky vs (fun j u=>arr[j]? = some u)
 |.optr id sz i off,v=>∃ A n c,R id (.slice (some A) n c)/\v = .pointer (some (A.add (i*sz+off)))
 |.aptr base n i,v=>∃ ad,zn P w F R base (.pointer (some ad))/\0<=i/\i<n/\v = .pointer (some (ad.add i.toNat))
 |.maybe _ _ _,_=>False
def qky:List AV->(Nat->Value->Prop)->Prop
 |[],_=>True
 |c::r,g=>(∃ u,g 0 u/\qz c u)/\qky r (fun j u=>g (j+1) u)
end
end
section
variable {P:Program} {w w':World} {F F':Nat->Prop} {R R':Nat->Value->Prop}
mutual
theorem zn.mono (hF:∀ b,F b->F' b) (hw:∀ b,F b->w'.heap[b]? = w.heap[b]?) (hR:∀ id v,R id v->R' id v):(c:AC) -> {v:Value}->zn P w F R c v->zn P w' F' R' c v
 |.dead,_,_=>trivial
 |.int _ _,_,h=>h
 |.bool _,_,h=>h
 |.str _,_,h=>h
 |.nil,_,h=>h
 |.sl _ _,_,h=>by
  simp only [zn] at h ⊢;exact qs.mono (t:=.sl _) hF hw (fun _ _ _ h=>h) h
 |.slx _ _,_,⟨A,h1,h2⟩=>⟨A,h1,qs.mono (t:=.sl _) hF hw (fun _ _ _ h=>h) h2⟩
 |.own id,_,h=>hR id _ h
 |.ptr id off,_,⟨u,h1,h2⟩=>⟨u,hR _ _ h1,h2⟩
 |.sptr cs,_,⟨ad,h1,h2,h3⟩=>⟨ad,h1,hF _ h2,qu.mono hF hw hR cs (fun j u hu=>by
   rw [← hu];refine World.cell?_of_block ?_;have:(ad.add j).block=ad.block:=by unfold Addr.add; split<;>rfl
   rw [this];exact hw _ h2) h3⟩
 |.fn f caps,_,⟨vs,h1,h2,h3⟩=>⟨vs,h1,h2,qu.mono hF hw hR caps (fun _ _ h=>h) h3⟩
 |.fv _ _ _,_,h=>by
  simp only [zn] at h ⊢;exact qgv.mono hF hw h
 |.pv _ _ _ _,_,h=>by
  simp only [zn] at h ⊢;exact qi5.mono hF hw h
 |.mp _,_,h=>by
  obtain ⟨r,arr,ck,h1,h2,h3,h4⟩:=h;exact ⟨r,arr,ck,h1,hF r h2,(hw r h2).trans h3,h4⟩
 |.fs _ _,_,h=>h
 |.ic _ _ _,_,h=>by
  simp only [zn] at h ⊢;exact qs.mono (t:=.ic _ _) hF hw (fun _ _ _ h=>h) h
theorem qu.mono (hF:∀ b,F b->F' b) (hw:∀ b,F b->w'.heap[b]? = w.heap[b]?) (hR:∀ id v,R id v->R' id v) :
  (cs:List AC) -> {g g':Nat->Value->Prop}->(∀ j u,g j u->g' j u)->qu P w F R cs g->qu P w' F' R' cs g'
 |[],_,_,_,_=>trivial
 |c::r,_,_,hg,⟨⟨u,h1,h2,h3⟩,h4⟩=>⟨⟨u,hg _ _ h1,h2,zn.mono hF hw hR c h3⟩,qu.mono hF hw hR r (fun _ _ h=>hg _ _ h) h4⟩
end
mutual
theorem qz.mono (hF:∀ b,F b->F' b) (hw:∀ b,F b->w'.heap[b]? = w.heap[b]?) (hR:∀ id v,R id v->R' id v):(c:AV) -> {v:Value}->qz P w F R c v->qz P w' F' R' c v
 |.dead,_,_=>trivial
 |.c a,_,h=>⟨h.1,zn.mono hF hw hR a h.2⟩
 |.agg cs,_,⟨arr,h1,h2,h3⟩=>⟨arr,h1,h2,qu.mono hF hw hR cs (fun _ _ h=>h) h3⟩
 |.tup vs,_,⟨arr,h1,h2,h3⟩=>⟨arr,h1,h2,qky.mono hF hw hR vs (fun _ _ h=>h) h3⟩
 |.optr _ _ _ _,_,⟨A,n,c,h1,h2⟩=>⟨A,n,c,hR _ _ h1,h2⟩
 |.aptr base _ _,_,⟨ad,h1,h2⟩=>⟨ad,zn.mono hF hw hR base h1,h2⟩
 |.maybe _ _ _,_,h=>h
theorem qky.mono (hF:∀ b,F b->F' b) (hw:∀ b,F b->w'.heap[b]? = w.heap[b]?) (hR:∀ id v,R id v->R' id v) :
  (cs:List AV) -> {g g':Nat->Value->Prop}->(∀ j u,g j u->g' j u)->qky P w F R cs g->qky P w' F' R' cs g'
 |[],_,_,_,_=>trivial
 |c::r,_,_,hg,⟨⟨u,h1,h3⟩,h4⟩=>⟨⟨u,hg _ _ h1,qz.mono hF hw hR c h3⟩,qky.mono hF hw hR r (fun _ _ h=>hg _ _ h) h4⟩
end
end
theorem qu.at_ {P:Program} {w:World} {F:Nat->Prop} {R:Nat->Value->Prop}:{cs:List AC} -> {g:Nat->Value->Prop}->qu P w F R cs g ->
  ∀ {j:Nat} {c:AC},cs[j]? = some c->∃ u,g j u/\u.oneCell'=true/\zn P w F R c u
 |[],_,_,_,_,h=>by simp at h
 |_::_,_,h,0,_,hc=>by simp at hc; subst hc; exact h.1
 |_::_,_,h,j+1,_,hc=>qu.at_ h.2 (by simpa using hc)
theorem qu.of_at {P:Program} {w:World} {F:Nat->Prop} {R:Nat->Value->Prop}:(cs:List AC) -> {g:Nat->Value->Prop} ->
  (∀ (j:Nat) (c:AC),cs[j]? = some c->∃ u,g j u/\u.oneCell'=true/\zn P w F R c u)->qu P w F R cs g
 |[],_,_=>trivial
 |c::r,_,h=>⟨h 0 c rfl,qu.of_at r (fun j c' hc=>h (j+1) c' (by simpa using hc))⟩
theorem qu.append {P:Program} {w:World} {F:Nat->Prop} {R:Nat->Value->Prop} (a b:List AC) {g:Nat->Value->Prop} (ha:qu P w F R a g) (hb:qu P w F R b (fun j u=>g (a.length+j) u)):qu P w F R (a++b) g:=by
 refine qu.of_at _ fun j c hc=>?_;rcases uar j a.length with h|h
 ·rw [uc3 h] at hc;exact ha.at_ hc
 ·rw [ubr h] at hc;obtain ⟨u,h1,h2⟩:=hb.at_ hc;rw [show a.length+(j-a.length)=j from by omega] at h1;exact ⟨u,h1,h2⟩
theorem qs.enc {P:Program} {w:World} {F:Nat->Prop} {R:Nat->Value->Prop}:(t:Ty)->(x:t.den) -> {g:Nat->Value->Prop}->qs w F t x g->qu P w F R (Ab.enc t x) g
 |.int k,n,g,h=>⟨⟨_,h.1,rfl,rfl,h.2⟩,trivial⟩
 |.bool,b,g,h=>⟨⟨_,h,rfl,rfl⟩,trivial⟩
 |.str,b,g,h=>⟨⟨_,h.1,rfl,rfl,h.2⟩,trivial⟩
 |.sl e,l,g,h=>by
  obtain ⟨A,c,h0,h1,h2,h3⟩:=h;exact ⟨⟨_,h0,rfl,⟨A,c,rfl,h1,h2,h3⟩⟩,trivial⟩
 |.unit,_,_,_=>trivial
 |.pair a b,x,g,h=>qu.append _ _ (qs.enc a x.1 h.1) (by rw [qcq]; exact qs.enc b x.2 h.2)
 |.fm es,_,g,h=>by
  obtain ⟨r,arr,ck,h1,h2,h3,h4⟩:=h;exact ⟨⟨_,h1,rfl,⟨r,arr,ck,rfl,h2,h3,h4⟩⟩,trivial⟩
 |.ic es t,x,g,h=>by
  rcases h with ⟨ty,u,h1,h2,h3,h4,h5⟩|⟨h1,h2⟩
  ·exact ⟨⟨_,h2,rfl,.inl ⟨ty,u,h1,rfl,h3,h4,h5⟩⟩,trivial⟩
  ·exact ⟨⟨_,h2,rfl,.inr ⟨h1,rfl⟩⟩,trivial⟩
 |.fc (some k),_,g,h=>by
  obtain ⟨u,h1,h2,h3⟩:=h;exact ⟨⟨u,h1,h2,#[],h3 k rfl,rfl,trivial⟩,trivial⟩
 |.fc none,_,g,h=>by
  obtain ⟨u,h1,h2,_⟩:=h;exact ⟨⟨u,h1,h2,trivial⟩,trivial⟩
section
variable {P:Program} {w:World} {F:Nat->Prop} {R:Nat->Value->Prop}
theorem yd4 {k:IntKind} {cs:List AC} {x:Int} {r:List AC} {g:Nat->Value->Prop} (h:zjb k cs=some (x,r)) (hr:qu P w F R cs g) :
  (g 0 (.int k x)/\inR k x)/\qu P w F R r (fun j u=>g (1+j) u):=by
 unfold zjb at h;split at h
 ·split at h
  ·rename_i hk;subst hk;cases h;obtain ⟨⟨u,h1,_,rfl,h3⟩,h4⟩:=hr;exact ⟨⟨h1,h3⟩,by simpa [ub7] using h4⟩
  ·cases h
 ·cases h
theorem yd3 {cs:List AC} {x:Bool} {r:List AC} {g:Nat->Value->Prop} (h:zja cs=some (x,r)) (hr:qu P w F R cs g) :
  g 0 (.bool x)/\qu P w F R r (fun j u=>g (1+j) u):=by
 unfold zja at h;split at h
 ·cases h;obtain ⟨⟨u,h1,_,rfl⟩,h4⟩:=hr;exact ⟨h1,by simpa [ub7] using h4⟩
 ·cases h
theorem yd6 {cs:List AC} {x:ByteArray} {r:List AC} {g:Nat->Value->Prop} (h:zjd cs=some (x,r)) (hr:qu P w F R cs g) :
  (g 0 (.string x)/\x.size<=maxLen)/\qu P w F R r (fun j u=>g (1+j) u):=by
 unfold zjd at h;split at h
 ·cases h;obtain ⟨⟨u,h1,_,rfl,h3⟩,h4⟩:=hr;exact ⟨⟨h1,h3⟩,by simpa [ub7] using h4⟩
 ·cases h
theorem yd5 {e:Ty} {cs:List AC} {x:List e.den} {r:List AC} {g:Nat->Value->Prop} (h:zjc e cs=some (x,r)) (hr:qu P w F R cs g) :
  qs w F (.sl e) x g/\qu P w F R r (fun j u=>g (1+j) u):=by
 unfold zjc at h;split at h
 ·split at h
  ·rename_i t l r' ht;subst ht;cases h;obtain ⟨⟨u,h1,_,h3⟩,h4⟩:=hr;refine ⟨?_,by simpa [ub7] using h4⟩;simp only [zn] at h3;obtain ⟨A,c,e1,e2⟩:=h3;subst e1;exact ⟨A,c,h1,e2⟩
  ·cases h
 ·split at h
  ·rename_i t l r' ht;subst ht;cases h;obtain ⟨⟨u,h1,_,h3⟩,h4⟩:=hr;refine ⟨?_,by simpa [ub7] using h4⟩;simp only [zn] at h3;obtain ⟨_,_,A,c,e1,e2⟩:=h3;subst e1;exact ⟨A,c,h1,e2⟩
  ·cases h
 ·cases h;obtain ⟨⟨u,h1,_,h3⟩,h4⟩:=hr;simp only [zn] at h3;subst h3;exact ⟨⟨none,0,h1,ua3 _,by simp [maxLen],fun i x hi=>by simp at hi⟩,by simpa [ub7] using h4⟩
 ·cases h
theorem qs.dec:(t:Ty) -> {cs:List AC} -> {x:t.den} -> {r:List AC} -> {g:Nat->Value->Prop}->Ab.dec t cs=some (x,r)->qu P w F R cs g ->
  qs w F t x g/\qu P w F R r (fun j u=>g (t.size+j) u)
 |.int _,_,_,_,_,h,hr=>yd4 h hr
 |.bool,_,_,_,_,h,hr=>yd3 h hr
 |.str,_,_,_,_,h,hr=>yd6 h hr
 |.sl _,_,_,_,_,h,hr=>yd5 h hr
 |.unit,_,_,_,_,h,hr=>by
  simp only [Ab.dec,ua0,ua9] at h;obtain ⟨_,rfl⟩:=h;exact ⟨trivial,by simpa [Ty.size] using hr⟩
 |.pair a b,cs,x,r,g,h,hr=>by
  simp only [Ab.dec] at h;split at h
  ·rename_i x1 r1 h1;split at h
   ·rename_i x2 r2 h2;cases h;obtain ⟨e1,e2⟩:=qs.dec a h1 hr;obtain ⟨e3,e4⟩:=qs.dec b h2 e2;exact ⟨⟨e1,e3⟩,by simpa [Ty.size,uc4] using e4⟩
   ·cases h
  ·cases h
 |.fm es,cs,x,r,g,h,hr=>by
  simp only [Ab.dec] at h;unfold zg9 at h;split at h<;>try trivial
  split at h<;>try trivial
  rename_i he;subst he;simp only [ua0,ua9] at h;obtain ⟨_,rfl⟩:=h;obtain ⟨⟨u,h1,_,h3⟩,h4⟩:=hr;obtain ⟨r',arr,ck,rfl,e2,e3,e4⟩:=h3;exact ⟨⟨r',arr,ck,h1,e2,e3,e4⟩,by simpa [Ty.size,ub7] using h4⟩
 |.ic es t,cs,x,r,g,h,hr=>by
  simp only [Ab.dec] at h;unfold zg8 at h;split at h<;>try trivial
  split at h<;>try trivial
  rename_i ht;subst ht;split at h<;>try trivial
  rename_i he;subst he;cases h;obtain ⟨⟨u,h1,_,h3⟩,h4⟩:=hr;simp only [zn] at h3;refine ⟨?_,by simpa [Ty.size,ub7] using h4⟩;rcases h3 with ⟨ty,v,e1,e2,e3,e4,e5⟩|⟨e1,e2⟩
  ·exact .inl ⟨ty,v,e1,by rw [e2]; exact h1,e3,e4,e5⟩
  ·exact .inr ⟨e1,by rw [e2]; exact h1⟩
 |.fc f,cs,x,r,g,h,hr=>by
  simp only [Ab.dec] at h;unfold zg7 at h;split at h<;>try trivial
  ·split at h<;>try trivial
   rename_i hf;subst hf;simp only [ua0,ua9] at h;obtain ⟨_,rfl⟩:=h;obtain ⟨⟨u,h1,h2,h3⟩,h4⟩:=hr;simp only [zn] at h3;obtain ⟨vs,rfl,h5,_⟩:=h3;have h6:vs = #[]:=Array.size_eq_zero_iff.mp h5;subst h6;exact ⟨⟨_,h1,h2,fun k hk=>by cases hk; rfl⟩,by simpa [Ty.size,ub7] using h4⟩
  ·split at h<;>try trivial
   rename_i hf;subst hf;simp only [ua0,ua9] at h;obtain ⟨_,rfl⟩:=h;obtain ⟨⟨u,h1,h2,_⟩,h4⟩:=hr;exact ⟨⟨u,h1,h2,fun k hk=>nomatch hk⟩,by simpa [Ty.size,ub7] using h4⟩
end
end Go.Ab

namespace Go.Ab
open Go Go.RowKit
def exB:Ob->Value->Option Nat
 |.box _ _,.pointer (some a)=>some a.block
 |.arr _ _ _,v=>v.ownBlock
 |_,_=>none
section
variable (P:Program) (B:Nat) (w:World) (F:Nat->Prop) (R:Nat->Value->Prop)
def yq (t:Ty) (l:List t.den) (xs:List Value):Prop:=
 ∀ i x,l[i]? = some x->qs w F t x (fun j u=>xs[i*t.size+j]? = some u)
def qnu (v:Value):Ob->Prop
 |.gone=>True
 |.box ty cs=>∃ b arr,v = .pointer (some ⟨b,0,none⟩)/\w.heap[b]? = some (.cells arr ty (0,0))/\¬ F b/\B<=b/\arr.size=cs.length/\qu P w F R cs (fun j u=>arr[j]? = some u)
 |.fbox cs=>∃ b,v = .pointer (some ⟨b,0,none⟩)/\F b/\qu P w F R cs (fun j u=>w.cell? ⟨b,j,none⟩=some u)
 |.arr ety t l=>∃ xs,w.ownsRow B ety t.size v l.length xs/\(∀ g,v.ownBlock=some g->¬ F g)/\yq w F t l xs/\(∀ u∈xs,u.oneCell'=true)
 |.frz t l=>qs w F (.sl t) l (fun _ u=>u=v)
end
structure MemOK (P:Program) (B:Nat) (w:World) (F:Nat->Prop) (γ:Nat->Value) (m:Nat->Option Ob):Prop where
 ob:∀ id o,m id=some o->qnu P B w F (qp m γ) (γ id) o
 apart:∀ i j oi oj b,i≠j->m i=some oi->m j=some oj->exB oi (γ i)=some b->exB oj (γ j)≠some b
structure Step (B:Nat) (w:World) (F:Nat->Prop) (γ:Nat->Value) (m:Nat->Option Ob) (w':World) (F':Nat->Prop) (γ':Nat->Value) (m':Nat->Option Ob):Prop where
 hF:∀ b,F b->F' b
 hw:∀ b,F b->w'.heap[b]? = w.heap[b]?
 hR:∀ id v,qp m γ id v->qp m' γ' id v
 old:∀ b,b<B->w'.heap[b]? = w.heap[b]?
 os:w'.os=w.os
 tape:w'.tape=w.tape
 output:w'.output=w.output
 size:w.heap.size<=w'.heap.size
 bd:∀ b,F' b->b<w'.heap.size
 new:∀ b,F' b->F b∨B<=b
section
variable {P:Program} {B:Nat} {w w' w'':World} {F F' F'':Nat->Prop} {γ γ' γ'':Nat->Value} {m m' m'':Nat->Option Ob}
theorem Step.refl (hb:∀ b,F b->b<w.heap.size):Step B w F γ m w F γ m:=
 ⟨fun _ h=>h,fun _ _=>rfl,fun _ _ h=>h,fun _ _=>rfl,rfl,rfl,rfl,ua3 _,hb,fun _ h=>.inl h⟩
theorem Step.trans (h:Step B w F γ m w' F' γ' m') (k:Step B w' F' γ' m' w'' F'' γ'' m''):Step B w F γ m w'' F'' γ'' m'':=
 ⟨fun b hb=>k.hF b (h.hF b hb),fun b hb=>(k.hw b (h.hF b hb)).trans (h.hw b hb),fun i v hv=>k.hR i v (h.hR i v hv),fun b hb=>(k.old b hb).trans (h.old b hb),
  k.os.trans h.os,k.tape.trans h.tape,k.output.trans h.output,ual h.size k.size,k.bd,fun b hb=>(k.new b hb).elim (fun h'=>h.new b h') .inr⟩
theorem Step.repA {a:AV} {v:Value} (h:Step B w F γ m w' F' γ' m') (hr:qz P w F (qp m γ) a v):qz P w' F' (qp m' γ') a v:=qz.mono h.hF h.hw h.hR a hr
theorem Step.repCL {cs:List AC} {g:Nat->Value->Prop} (h:Step B w F γ m w' F' γ' m') (hr:qu P w F (qp m γ) cs g):qu P w' F' (qp m' γ') cs g:=
 qu.mono h.hF h.hw h.hR cs (fun _ _ h=>h) hr
theorem yq.mono {t:Ty} {l:List t.den} {xs:List Value} (hF:∀ b,F b->F' b) (hw:∀ b,F b->w'.heap[b]? = w.heap[b]?) (h:yq w F t l xs):yq w' F' t l xs:=
 fun i x hi=>(h i x hi).mono hF hw (fun _ _ _ h=>h)
theorem qgc {id:Nat} {o:Ob} {b:Nat} {R:Nat->Value->Prop} (h:qnu P B w F R (γ id) o) (he:exB o (γ id)=some b):b<w.heap.size/\¬ F b/\B<=b:=by
 cases o with
 |gone=>simp [exB] at he
 |fbox cs=>simp [exB] at he
 |frz t l=>simp [exB] at he
 |box ty cs=>
  obtain ⟨b',arr,h1,h2,h3,h4,_⟩:=h;rw [h1] at he;simp only [exB,ua0] at he;subst he;exact ⟨(uaa.1 h2).1,h3,h4⟩
 |arr ety t l=>
  obtain ⟨xs,h1,h2,_⟩:=h;simp only [exB] at he;exact ⟨(h1.lt b he).2,h2 b he,(h1.lt b he).1⟩
theorem qnu.keep {v:Value} {o:Ob} {R R':Nat->Value->Prop} (h:qnu P B w F R v o) (hF:∀ b,F b->F' b) (hw:∀ b,F b->w'.heap[b]? = w.heap[b]?) (hR:∀ id v,R id v->R' id v)
  (hb:∀ b,exB o v=some b->w'.heap[b]? = w.heap[b]? /\ ¬ F' b):qnu P B w' F' R' v o:=by
 cases o with
 |gone=>trivial
 |fbox cs=>
  obtain ⟨b,h1,h2,h3⟩:=h;exact ⟨b,h1,hF b h2,qu.mono hF hw hR cs (fun j u hu=>by rw [← hu]; exact ucf (hw b h2)) h3⟩
 |frz t l=>
  simp only [qnu] at h ⊢;exact qs.mono (t:=.sl t) hF hw (fun _ _ _ h=>h) h
 |box ty cs=>
  obtain ⟨b,arr,h1,h2,h3,h4,h5,h6⟩:=h;obtain ⟨e1,e2⟩:=hb b (by rw [h1]; rfl);exact ⟨b,arr,h1,e1.trans h2,e2,h4,h5,qu.mono hF hw hR cs (fun _ _ h=>h) h6⟩
 |arr ety t l=>
  obtain ⟨xs,h1,h2,h3,h4⟩:=h;refine ⟨xs,?_,fun g hg=>(hb g hg).2,h3.mono hF hw,h4⟩;refine ⟨h1.1,?_⟩;rcases h1.2 with hn|⟨g,cap,cur,rfl,hb',hg,rest⟩
  ·exact .inl hn
  ·exact .inr ⟨g,cap,cur,rfl,hb',(hb g rfl).1.trans hg,rest⟩
theorem MemOK.keep (h:MemOK P B w F γ m) (hF:∀ b,F b->F' b) (hw:∀ b,F b->w'.heap[b]? = w.heap[b]?)
  (hb:∀ id o b,m id=some o->exB o (γ id)=some b->w'.heap[b]? = w.heap[b]? /\ ¬ F' b):MemOK P B w' F' γ m:=
 ⟨fun id o ho=>(h.ob id o ho).keep hF hw (fun _ _ h=>h) (fun b hb'=>hb id o b ho hb'),h.apart⟩
theorem Step.below (hm:MemOK P B w F γ m) (hB:B<=w.heap.size) (hbd:∀ b,F b->b<w.heap.size) (hb:Below w.heap.size w w') (hF:∀ b,F b->F' b) (hF':∀ b,F' b->(F b∨w.heap.size<=b)/\b<w'.heap.size) :
  Step B w F γ m w' F' γ m/\MemOK P B w' F' γ m:=by
 refine ⟨⟨hF,fun b h=>hb.block b (hbd b h),fun _ _ h=>h,fun b h=>hb.block b (by omega),hb.os,hb.tape,hb.output,hb.size,fun b h=>(hF' b h).2,fun b h=>(hF' b h).1.elim .inl (fun h=>.inr (by omega))⟩,?_⟩;refine hm.keep hF (fun b h=>hb.block b (hbd b h)) fun id o b ho he=>?_;obtain ⟨h1,h2,_⟩:=qgc (hm.ob id o ho) he;exact ⟨hb.block b h1,fun h=>(hF' b h).1.elim h2 (by omega)⟩
def upd (m:Nat->Option Ob) (id:Nat) (o:Ob):Nat->Option Ob:=fun i=>if i=id then some o else m i
def qx (m:Nat->Option Ob):List (Nat×Ob)->Nat->Option Ob
 |[]=>m
 |(id,o)::r=>qx (upd m id o) r
def qck (γ:Nat->Value) (id:Nat) (v:Value):Nat->Value:=fun i=>if i=id then v else γ i
theorem xd (m:Nat->Option Ob) (id:Nat) (o:Ob):upd m id o id=some o:=by simp [upd]
theorem yp (m:Nat->Option Ob) {id i:Nat} (o:Ob) (h:i≠id):upd m id o i=m i:=by simp [upd,h]
theorem qgt (γ:Nat->Value) (id:Nat) (v:Value):qck γ id v id=v:=by simp [qck]
theorem qfa (γ:Nat->Value) {id i:Nat} (v:Value) (h:i≠id):qck γ id v i=γ i:=by simp [qck,h]
theorem qey {id:Nat} {o o0:Ob} (h0:m id=some o0) (hg:o0 = .gone->o = .gone):∀ i v,qp m γ i v->qp (upd m id o) γ i v:=by
 intro i v h;unfold qp at *;by_cases hi:i=id
 ·subst hi;rw [xd];rw [h0] at h;cases o<;>cases o0<;>simp_all
 ·rw [yp _ _ hi];exact h
theorem MemOK.change (h:MemOK P B w F γ m) {id:Nat} {o o0:Ob} (h0:m id=some o0) (hg:o0 = .gone->o = .gone)
  (hF:∀ b,F b->F' b) (hw:∀ b,F b->w'.heap[b]? = w.heap[b]?)
  (hex:∀ b,exB o (γ id)=some b->exB o0 (γ id)=some b)
  (hoth:∀ b,b<w.heap.size->exB o0 (γ id)≠some b->w'.heap[b]? = w.heap[b]? /\ (F' b->F b))
  (hok:qnu P B w' F' (qp (upd m id o) γ) (γ id) o):MemOK P B w' F' γ (upd m id o):=by
 refine ⟨fun i oi hi=>?_,fun i j oi oj b hij hi hj hbi hbj=>?_⟩
 ·by_cases he:i=id
  ·subst he;rw [xd,ua0] at hi;subst hi;exact hok
  ·rw [yp _ _ he] at hi;refine (h.ob i oi hi).keep hF hw (qey h0 hg) fun b hb=>?_;obtain ⟨e1,e2,_⟩:=qgc (h.ob i oi hi) hb;obtain ⟨e3,e4⟩:=hoth b e1 (fun hc=>h.apart i id oi o0 b he hi h0 hb hc);exact ⟨e3,fun hc=>e2 (e4 hc)⟩
 ·by_cases he:i=id
  ·subst he;rw [xd,ua0] at hi;subst hi;rw [yp _ _ (Ne.symm hij)] at hj;exact h.apart i j o0 oj b hij h0 hj (hex b hbi) hbj
  ·rw [yp _ _ he] at hi;by_cases hf:j=id
   ·subst hf;rw [xd,ua0] at hj;subst hj;exact h.apart i j oi o0 b hij hi h0 hbi (hex b hbj)
   ·rw [yp _ _ hf] at hj;exact h.apart i j oi oj b hij hi hj hbi hbj
theorem ql4 {id:Nat} {o:Ob} {v:Value} (h0:m id=none):∀ i u,qp m γ i u->qp (upd m id o) (qck γ id v) i u:=by
 intro i u h;unfold qp at *;by_cases hi:i=id
 ·subst hi;simp [h0] at h
 ·rw [yp _ _ hi,qfa _ _ hi];exact h
theorem MemOK.new (h:MemOK P B w F γ m) {id:Nat} {o:Ob} {v:Value} (h0:m id=none)
  (hF:∀ b,F b->F' b) (hw:∀ b,F b->w'.heap[b]? = w.heap[b]?)
  (hex:∀ b,exB o v=some b->w.heap.size<=b)
  (hoth:∀ b,b<w.heap.size->(w'.heap[b]? = w.heap[b]? /\ (F' b->F b)))
  (hok:qnu P B w' F' (qp (upd m id o) (qck γ id v)) v o):MemOK P B w' F' (qck γ id v) (upd m id o):=by
 refine ⟨fun i oi hi=>?_,fun i j oi oj b hij hi hj hbi hbj=>?_⟩
 ·by_cases he:i=id
  ·subst he;rw [xd,ua0] at hi;subst hi;rw [qgt];exact hok
  ·rw [yp _ _ he] at hi;rw [qfa _ _ he];refine (h.ob i oi hi).keep hF hw (ql4 h0) fun b hb=>?_;obtain ⟨e1,e2,_⟩:=qgc (h.ob i oi hi) hb;obtain ⟨e3,e4⟩:=hoth b e1;exact ⟨e3,fun hc=>e2 (e4 hc)⟩
 ·by_cases he:i=id
  ·subst he;rw [xd,ua0] at hi;subst hi;rw [yp _ _ (Ne.symm hij)] at hj;rw [qfa _ _ (Ne.symm hij)] at hbj;rw [qgt] at hbi;have h1:=(qgc (h.ob j oj hj) hbj).1;have h2:=hex b hbi;omega
  ·rw [yp _ _ he] at hi;rw [qfa _ _ he] at hbi;by_cases hf:j=id
   ·subst hf;rw [xd,ua0] at hj;subst hj;rw [qgt] at hbj;have h1:=(qgc (h.ob i oi hi) hbi).1;have h2:=hex b hbj;omega
   ·rw [yp _ _ hf] at hj;rw [qfa _ _ hf] at hbj;exact h.apart i j oi oj b hij hi hj hbi hbj
end
end Go.Ab

namespace Go.Ab
open Go Go.RowKit
def zh5:Value->AC
 |.int k n=>if k.min<=n/\n<=k.max then .int k n else .dead
 |.bool b=>.bool b
 |.string s=>if s.size<=maxLen then .str s else .dead
 |.slice none 0 0=>.nil
 |_=>.dead
def qua:Value->AV
 |.agg cs=>if cs.toList.all (·.oneCell') then .agg (cs.toList.map zh5) else .dead
 |.tuple _=>.dead
 |v=>.c (zh5 v)
def evA (sl:Nat->AV):Operand->AV
 |.tmp t=>sl t
 |.const v=>qua v
 |.global _=>.dead
 |.func f=>.c (.fn f [])
def qzn (P:Program):Nat->TypeId->Option Ty
 |0,_=>none
 |n+1,t=>
  match P.underlying t with
  |some .bool=>some .bool
  |some (.int k)=>some (.int k)
  |some .string=>some .str
  |some (.slice e)=>(qzn P n e).map .sl
  |some (.struct fs)=>fs.toList.foldr (fun f acc=>match qzn P n f.type,acc with
   |some a,some r=>some (.pair a r)
   |_,_=>none) (some .unit)
  |some (.array k e)=>match qzn P n e with
   |some a=>some (Nat.rec (motive:=fun _=>Ty) .unit (fun _ r=>.pair a r) k)
   |none=>none
  |_=>none
def vf (P:Program) (t:TypeId):Bool:=
 match P.underlying t with
 |some (.struct _)|some (.array _ _)=>true
 |_=>false
def qln:AV->Option (List AC)
 |.c a=>some [a]
 |.agg cs=>some cs
 |_=>none
def qw7 (wide:Bool) (cs:List AC):Option AV:=
 if wide then some (.agg cs) else match cs with
  |[a]=>some (.c a)
  |_=>none
def qna (cs:List AC) (off:Nat) (new:List AC):Option (List AC):=
 if off+new.length<=cs.length then some (cs.take off++new++cs.drop (off+new.length)) else none
def qe6 (cs:List AC) (off n:Nat):Option (List AC):=
 if off+n<=cs.length then some ((cs.drop off).take n) else none
structure Eff where
 v:AV
 wr:List (Nat×Ob)
 need:List Prop
abbrev Mem:=Nat->Option Ob
def rsC (m:Mem):AC->Option (AC×List (Nat×Ob))
 |.own id=>match m id with
  |some (.arr _ t l)=>some (.sl t l,[(id,.frz t l)])
  |some (.frz t l)=>some (.sl t l,[])
  |_=>none
 |a=>some (a,[])
def rsL (m:Mem):List AC->Option (List AC×List (Nat×Ob))
 |[]=>some ([],[])
 |a::r=>match rsC m a,rsL m r with
  |some (x,u),some (y,v)=>some (x::y,u++v)
  |_,_=>none
def rsA (m:Mem):AV->Option (AV×List (Nat×Ob))
 |.c a=>match rsC m a with
  |some (x,u)=>some (.c x,u)
  |none=>none
 |.agg cs=>match rsL m cs with
  |some (x,u)=>some (.agg x,u)
  |none=>none
 |_=>none
def qcj (m:Mem):List AV->Option (List AV×List (Nat×Ob))
 |[]=>some ([],[])
 |a::r=>match rsA m a,qcj m r with
  |some (x,u),some (y,v)=>some (x::y,u++v)
  |_,_=>none
def rsK (m:Mem):List AV->Option (List AC×List (Nat×Ob))
 |[]=>some ([],[])
 |.c (.ptr id 0)::r=>match m id with
  |some (.box _ cs)=>match rsL m cs with
   |some (cs',u)=>match qx m u id with
    |some (.box _ _)=>match rsK (qx m (u++[(id,.fbox cs')])) r with
     |some (y,v)=>some (.sptr cs'::y,(u++[(id,.fbox cs')])++v)
     |none=>none
    |_=>none
   |none=>none
  |some (.fbox cs)=>match rsK m r with
   |some (y,v)=>some (.sptr cs::y,v)
   |none=>none
  |_=>none
 |.c a::r=>match rsC m a with
  |some (x,u)=>match rsK (qx m u) r with
   |some (y,v)=>some (x::y,u++v)
   |none=>none
  |none=>none
 |_::_=>none
def qqk:AC->List Nat
 |.own id=>[id]
 |.ptr id _=>[id]
 |_=>[]
def zda:AV->List Nat
 |.c a=>qqk a
 |.agg cs=>cs.flatMap qqk
 |.optr id _ _ _=>[id]
 |.aptr b _ _=>qqk b
 |.maybe _ _ v=>zda v
 |_=>[]
def yst:Option Ob->List Nat
 |some (.box _ cs)=>cs.flatMap qqk
 |_=>[]
def eqT (P:Program):Nat->TypeId->List AC->List AC->Option Bool
 |0,_,_,_=>none
 |n+1,t,xs,ys=>
  match P.underlying t with
  |some .bool=>match xs,ys with
   |[.bool a],[.bool b]=>some (a==b)
   |_,_=>none
  |some (.int _)=>match xs,ys with
   |[.int k a],[.int k' b]=>if k=k' then some (a==b) else none
   |_,_=>none
  |some (.struct fs)=>if P.stoodInHeld t=true then none else
   fs.toList.foldr (fun f acc=>if f.name = "_" then acc else
    if (P.underlying f.type).isSome=true/\(P.info? f.type).isSome=true then
     match qe6 xs f.offset (if vf P f.type then P.cellsOf f.type else 1),qe6 ys f.offset (if vf P f.type then P.cellsOf f.type else 1) with
     |some x,some y=>match eqT P n f.type x y,acc with
      |some p,some q=>some (p&&q)
      |_,_=>none
     |_,_=>none
    else none) (some true)
  |some (.array len e)=>
   if (P.underlying e).isSome=true/\(P.info? e).isSome=true then
    (List.range len).foldr (fun i acc=>
     match qe6 xs (i*P.cellsOf e) (if vf P e then P.cellsOf e else 1),qe6 ys (i*P.cellsOf e) (if vf P e then P.cellsOf e else 1) with
     |some x,some y=>match eqT P n e x y,acc with
      |some p,some q=>some (p&&q)
      |_,_=>none
     |_,_=>none) (some true)
   else none
  |_=>none
def ybl (op:BinOp) (a b:Int):Option Bool:=
 match op with
 |.eql=>some (a==b)
 |.neq=>some (a != b)
 |.lss=>some (decide (a<b))
 |.leq=>some (decide (a<=b))
 |.gtr=>some (decide (a>b))
 |.geq=>some (decide (a≥b))
 |_=>none
def ymy (op:BinOp) (k:IntKind) (a b:Int):Option (AC×List Prop):=
 match op with
 |.add=>some (.int k (k.wrap (a+b)),[])
 |.sub=>some (.int k (k.wrap (a-b)),[])
 |.mul=>some (.int k (k.wrap (a*b)),[])
 |.quo=>some (.int k (k.wrap (a.tdiv b)),[b≠0])
 |.rem=>some (.int k (a.tmod b),[b≠0])
 |.and=>some (.int k (k.wrap (BitVec.ofInt k.bits a &&& BitVec.ofInt k.bits b).toNat),[])
 |.or=>some (.int k (k.wrap (BitVec.ofInt k.bits a ||| BitVec.ofInt k.bits b).toNat),[])
 |.xor=>some (.int k (k.wrap (BitVec.ofInt k.bits a ^^^ BitVec.ofInt k.bits b).toNat),[])
 |.andNot=>some (.int k (k.wrap (BitVec.ofInt k.bits a &&& ~~~BitVec.ofInt k.bits b).toNat),[])
 |.shl=>some (.int k (k.wrap (a*2 ^ (min b.toNat k.bits))),[¬ b<0])
 |.shr=>some (.int k (a.fdiv (2 ^ (min b.toNat k.bits))),[¬ b<0])
 |op=>match ybl op a b with
  |some x=>some (.bool x,[])
  |none=>none
def yn5:BinOp->Bool
 |.shl | .shr=>true
 |_=>false
def ya6 (P:Program) (op:BinOp) (t:TypeId):AV->AV->Option (AC×List Prop)
 |.c (.int k a),.c (.int k' b)=>if k=k'∨yn5 op=true then ymy op k a b else none
 |.c (.bool a),.c (.bool b)=>match op with
  |.eql=>if P.underlying t matches some .bool then some (.bool (a==b),[]) else none
  |.neq=>if P.underlying t matches some .bool then some (.bool (!(a==b)),[]) else none
  |_=>none
 |.agg xs,.agg ys=>if P.eqGuardType P.depth t=false/\vf P t=true then match eqT P 20 t xs ys with
   |some x=>match op with
    |.eql=>some (.bool x,[])
    |.neq=>some (.bool (!x),[])
    |_=>none
   |none=>none
  else none
 |_,_=>none
structure InsOK (P:Program) (f:FuncId) (e:TypeId) (T:Ty) (bytes:Nat):Prop where
 enters:∀ args w,(callFunc f args).run P w = .ok (.enter f args) w
 calls:∀ (w:World) (B n i:Nat) (s v:Value) (xs news:List Value),B<=w.heap.size->w.ownsRow B e T.size s n xs->w.ownsRow B e T.size v 1 news->(∀ g,v.ownBlock=some g->s.ownBlock≠some g)->i<=n ->
  (∀ u∈xs,u.oneCell'=true)->(∀ u∈news,u.oneCell'=true)->n+1<=maxLen->(n+1)*bytes<=140737488355328 ->
  Calls P f #[s,.int .i64 i,v] w fun en w'=>∃ v',en = .returned v'/\w.grownBy w' s.ownBlock/\w'.ownsRow B e T.size v' (n+1) (xs.take (i*T.size)++news++xs.drop (i*T.size))/\(v'.ownBlock=s.ownBlock∨v'.ownBlock=some w.heap.size)
structure CloneOK (P:Program) (f:FuncId) (e:TypeId) (T:Ty) (bytes:Nat):Prop where
 enters:∀ args w,(callFunc f args).run P w = .ok (.enter f args) w
 calls:∀ (w:World) (n c:Nat) (A:Option Addr) (xs:List Value),n<=c->(A=none->n=0)->xs.length=n*T.size->(∀ ad,A=some ad->∀ (j:Nat) u,xs[j]? = some u->w.cell? (ad.add j)=some u)->(∀ u∈xs,u.oneCell'=true) ->
  n<=maxLen->n*bytes<=140737488355328 ->
  Calls P f #[.slice A n c] w fun en w'=>∃ v',en = .returned v'/\w.grownBy w' none/\w'.ownsRow w.heap.size e T.size v' n xs
structure UpdOK (P:Program) (f:FuncId) (T:Ty) (ps:List Ty) (g:T.den->qi ps->T.den):Prop where
 enters:∀ args w,(callFunc f args).run P w = .ok (.enter f args) w
 calls:∀ (w:World) (F:Nat->Prop) (b:Nat) (ety:TypeId) (arr:Array Value) (x:T.den) (y:qi ps) (vs:List Value),w.heap[b]? = some (.cells arr ety (0,0))->arr.size=T.size ->
  (∀ u∈arr,u.oneCell'=true)->qs w F T x (fun j u=>arr[j]? = some u)->qad w F ps y vs ->
  Calls P f (Value.pointer (some ⟨b,0,none⟩)::vs).toArray w fun en w'=>∃ (u:Value) (ns:List Value),en = .returned u/\ns.length=T.size/\w'=w.setRow b ns.toArray/\qs w F T (g x y) (fun j u=>ns[j]? = some u)
inductive Row where
 |clone (e:TypeId) (T:Ty) (bytes:Nat)
 |ins (e:TypeId) (T:Ty) (bytes:Nat)
 |upd (T:Ty) (ps:List Ty) (g:T.den->qi ps->T.den)
def zgr (P:Program) (f:FuncId):Row->Prop
 |.clone e T n=>CloneOK P f e T n
 |.ins e T n=>InsOK P f e T n
 |.upd T ps g=>UpdOK P f T ps g
structure Gm where
 c:FuncId->Option Ct
 r:FuncId->Option Row
instance:CoeFun Gm fun _=>FuncId->Option Ct:=⟨Gm.c⟩
instance:Coe (FuncId->Option Ct) Gm:=⟨fun c=>⟨c,fun _=>none⟩⟩
def qhd (P:Program) (Γ:Gm):Prop:=(∀ f ct,Γ.c f=some ct->qa P f ct)/\∀ f r,Γ.r f=some r->zgr P f r
def zct (t:Ty):AV->Option t.den
 |.c a=>if t.wide then none else match dec t [a] with
  |some (x,[])=>some x
  |_=>none
 |.agg cs=>if t.wide then match dec t cs with
  |some (x,[])=>some x
  |_=>none else none
 |_=>none
def qz1 {ps ps' rs rs':List Ty} (h:ps=ps') (k:rs=rs') (g:qi ps->qi rs):qi ps'->qi rs':=k ▸ h ▸ g
def ygj {ps ps':List Ty} (h:ps=ps') (D:qi ps->Prop):qi ps'->Prop:=h ▸ D
def zg6 {rs rs':List Ty} (k:rs=rs') (x:qi rs):qi rs':=k ▸ x
def zru {t u:Ty} (h:t=u) (x:t.den):u.den:=h ▸ x
def qbh:(ps:List PT)->List AC->Option (qn ps)
 |[],[]=>some ()
 |.d t::r,a::s=>match zct t (.c a),qbh r s with
  |some x,some y=>some (x,y)
  |_,_=>none
 |.ptr t::r,.sptr cs::s=>match dec t cs,qbh r s with
  |some (x,_),some y=>some (x,y)
  |_,_=>none
 |.pk f::r,.sptr [.fn f' []]::s=>if f'=f then match qbh r s with
  |some y=>some ((),y)
  |none=>none
  else none
 |.pfn ps rs::r,.sptr [.fv ps' rs' g]::s=>if h:ps'=ps then if k:rs'=rs then match qbh r s with
   |some y=>some (qz1 h k g,y)
   |none=>none
  else none else none
 |_,_=>none
def qmf:(ps:List Ty)->(cps:List PT)->List AC->Option (qi ps->qn cps)
 |[],cps,caps=>match qbh cps caps with
  |some ys=>some (fun _=>ys)
  |none=>none
 |t::r,.d t'::cps,caps=>if h:t=t' then match qmf r cps caps with
   |some m=>some (fun x=>(zru h x.1,m x.2))
   |none=>none
  else none
 |_::_,_,_=>none
def zsa (Γ:Gm) (ps rs:List Ty):AC->Option ((qi ps->qi rs)×List Prop)
 |.fv ps' rs' g=>if h:ps'=ps then if k:rs'=rs then some (qz1 h k g,[]) else none else none
 |.fn f caps=>match Γ f with
  |some ct=>if k:ct.rs=rs then match qmf ps ct.ps caps with
    |some m=>some (fun x=>zg6 k (ct.f (m x)),[∀ x,WfL ps x->qr (ct.ok (m x))])
    |none=>none
   else none
  |none=>none
 |_=>none
def zsb (Γ:Gm) (ps rs:List Ty):AC->Option ((qi ps->qi rs)×(qi ps->Prop))
 |.pv ps' rs' g D=>if h:ps'=ps then if k:rs'=rs then some (qz1 h k g,ygj h D) else none else none
 |.fn f caps=>match Γ f with
  |some ct=>if k:ct.rs=rs then match qmf ps ct.ps caps with
    |some m=>some (fun x=>zg6 k (ct.f (m x)),fun x=>qr (ct.ok (m x)))
    |none=>none
   else none
  |none=>none
 |_=>none
def ynk (Γ:Gm):(p:PT)->AV->Option (p.den×List Prop)
 |.d t,a=>match zct t a with
  |some x=>some (x,[])
  |none=>none
 |.ptr t,.c (.sptr cs)=>match dec t cs with
  |some (x,_)=>some (x,[])
  |none=>none
 |.fn ps rs,.c a=>zsa Γ ps rs a
 |.pf ps rs,.c a=>match zsb Γ ps rs a with
  |some x=>some (x,[])
  |none=>none
 |_,_=>none
def qjd (Γ:Gm):(ps:List PT)->List AV->Option (qn ps×List Prop)
 |[],[]=>some ((),[])
 |p::r,a::s=>match ynk Γ p a,qjd Γ r s with
  |some (x,n),some (y,k)=>some ((x,y),n++k)
  |_,_=>none
 |_,_=>none
def qga (t:Ty) (x:t.den):AV:=if t.wide then .agg (enc t x) else match enc t x with
 |[a]=>.c a
 |_=>.dead
def zhc:(ts:List Ty)->qi ts->List AV
 |[],_=>[]
 |t::r,x=>qga t x.1::zhc r x.2
def qqc:(ts:List Ty)->qi ts->AV
 |[t],x=>qga t x.1
 |ts,x=>.tup (zhc ts x)
def ygh (Γ:Gm) (f:FuncId) (args:List AV):Option (AV×List Prop):=
 match Γ f with
 |some ct=>match qjd Γ ct.ps args with
  |some (x,n)=>some (qqc ct.rs (ct.f x),n++ct.ok x)
  |none=>none
 |none=>none
def qe3:(ps:List Ty)->List AV->Option (qi ps)
 |[],[]=>some ()
 |t::r,a::s=>match zct t a,qe3 r s with
  |some x,some y=>some (x,y)
  |_,_=>none
 |_,_=>none
def qlw (k:IntKind):List AC->Option (List Int)
 |[]=>some []
 |.int k' n::r=>if k=k' then (qlw k r).map (n :: ·) else none
 |_=>none
def zxy:List AC->Option IntKind
 |.int k _::_=>some k
 |_=>none
def qvz:List Int->Nat->Int->Int->List Int
 |[],_,_,_=>[]
 |n::r,j,i,v=>(bif i==(j:Int) then v else n)::qvz r (j+1) i v
def zd1 (c:Operand) (want:Bool):AV->AV
 |.maybe g w v=>match c with
  |.tmp t=>if g=t/\w=want then v else .maybe g w v
  |_=>.maybe g w v
 |v=>v
def zbg (p:Bool):AV->AV->Option AV
 |.c (.bool x),.c (.bool y)=>some (.c (.bool (bif p then x else y)))
 |.c (.int k x),.c (.int k' y)=>if k=k' then some (.c (.int k (bif p then x else y))) else none
 |_,_=>none
def zag (place:Nat->Option (Nat×Nat)) (cs:List AC):List (Nat×AV)->Option (List AC)
 |[]=>some cs
 |(i,v)::r=>match place i,qln v with
  |some (off,n),some new=>if new.length=n then match qna cs off new with
    |some cs'=>zag place cs' r
    |none=>none
   else none
  |_,_=>none
def zp9 (P:Program) (t:TypeId):Option (Nat->Option (Nat×Nat)):=
 match P.underlying t with
 |some (.struct fs)=>if fs.toList.all (fun f=>(P.info? f.type).isSome) then some fun i=>(fs[i]?).map fun f=>(f.offset,P.cellsOf f.type) else none
 |some (.array _ e)=>if (P.info? e).isSome then some fun i=>some (i*P.cellsOf e,P.cellsOf e) else none
 |_=>none
def zig (P:Program) (t:TypeId) (parts:List (Nat×AV)):Option AV:=
 match (P.info? t).bind (·.zero),zp9 P t with
 |some z,some pl=>match qln (qua z) with
  |some cs=>match zag pl cs parts with
   |some cs'=>some (.agg cs')
   |none=>none
  |none=>none
 |_,_=>none
def qnb (t:Ty) (k:Nat):List (Nat×AV)->Option (List t.den)
 |[]=>some []
 |(i,v)::r=>if i=k then match zct t v,qnb t (k+1) r with
   |some x,some l=>some (x::l)
   |_,_=>none
  else none
def qf1:Int->List AC->List (Int×Nat)
 |_,[]=>[]
 |k,.fn f []::r=>(k,f)::qf1 (k+1) r
 |k,_::r=>qf1 (k+1) r
def qq9 (m:Mem):AV->Option (List AC×List Prop)
 |.c (.ptr id off)=>match m id with
  |some (.box _ cs)=>some (cs.drop off,[])
  |some (.fbox cs)=>some (cs.drop off,[])
  |_=>none
 |.c (.sptr cs)=>some (cs,[])
 |.optr id sz i off=>match m id with
  |some (.arr _ t l)=>if t.size=sz then some ((enc t (l.getD i t.dflt)).drop off,[i<l.length]) else none
  |some (.frz t l)=>if t.size=sz then some ((enc t (l.getD i t.dflt)).drop off,[i<l.length]) else none
  |_=>none
 |.aptr b n i=>match b with
  |.ptr id off=>match m id with
   |some (.box _ cs)=>pickI (cs.drop off) n i
   |some (.fbox cs)=>pickI (cs.drop off) n i
   |_=>none
  |.sptr cs=>pickI cs n i
  |_=>none
 |_=>none
where
 pickI (cs:List AC) (n:Nat) (i:Int):Option (List AC×List Prop):=
  match zxy cs,qe6 cs 0 n with
  |some k,some seg=>match qlw k seg with
   |some ns=>some ([.int k (ns.getD i.toNat 0)],[])
   |none=>none
  |none,some seg=>if (qf1 0 seg).isEmpty then none else some ([.fs (qf1 0 seg) i],[((qf1 0 seg).find? (fun x=>x.1==i)).isSome=true])
  |_,_=>none
def zhh (P:Program) (t:TypeId) (x:AV) (m:Mem):Option Eff:=
 match qq9 m x with
 |some (cs,n)=>if (P.info? t).isSome/\(P.underlying t).isSome then
   if vf P t then match qe6 cs 0 (P.cellsOf t) with
    |some l=>some ⟨.agg l,[],n⟩
    |none=>none
   else match cs with
    |a::_=>some ⟨.c a,[],n⟩
    |[]=>none
  else none
 |none=>none
def zmt (P:Program) (t:TypeId) (x v:AV) (m:Mem):Option Eff:=
 match qln v with
 |none=>none
 |some new=>if (P.info? t).isSome/\new.length=P.cellsOf t then
   match x with
   |.c (.ptr id off)=>match m id with
    |some (.box e cs)=>match qna cs off new with
     |some cs'=>some ⟨.dead,[(id,.box e cs')],[]⟩
     |none=>none
    |_=>none
   |.optr id sz i off=>match m id,rsL m new with
    |some (.arr e t' l),some (new',u)=>if t'.size=sz/\(new.flatMap qqk).all (· != id) then
      match qna (enc t' (l.getD i t'.dflt)) off new' with
      |some row=>match dec t' row with
       |some (y,[])=>some ⟨.dead,u++[(id,.arr e t' (l.set i y))],[i<l.length]⟩
       |_=>none
      |none=>none
     else none
    |_,_=>none
   |.aptr (.ptr id off) n i=>match m id,new with
    |some (.box e cs),[.int k y]=>match qe6 cs off n with
     |some seg=>match qlw k seg with
      |some ns=>match qna cs off ((qvz ns 0 i y).map (.int k)) with
       |some cs'=>some ⟨.dead,[(id,.box e cs')],[]⟩
       |none=>none
      |none=>none
     |none=>none
    |_,_=>none
   |_=>none
  else none
def qod (m:Mem):AC->Option ((t:Ty)×List t.den)
 |.sl t l=>some ⟨t,l⟩
 |.slx t l=>some ⟨t,l⟩
 |.own id=>match m id with
  |some (.arr _ t l)=>some ⟨t,l⟩
  |some (.frz t l)=>some ⟨t,l⟩
  |_=>none
 |_=>none
def zk4 (P:Program) (t:TypeId) (x:AV) (i:Int) (m:Mem):Option Eff:=
 match P.underlying t with
 |some (.slice e)=>if (P.info? e).isSome then match x with
   |.c (.own id)=>match m id with
    |some (.arr _ tt l)=>if tt.size=P.cellsOf e then some ⟨.optr id tt.size i.toNat 0,[],[0<=i/\i<l.length]⟩ else none
    |some (.frz tt l)=>if tt.size=P.cellsOf e then some ⟨.c (.sptr (enc tt (l.getD i.toNat tt.dflt))),[],[0<=i/\i<l.length]⟩ else none
    |_=>none
   |.c (.sl tt l)=>if tt.size=P.cellsOf e then some ⟨.c (.sptr (enc tt (l.getD i.toNat tt.dflt))),[],[0<=i/\i<l.length]⟩ else none
   |.c (.slx tt l)=>if tt.size=P.cellsOf e then some ⟨.c (.sptr (enc tt (l.getD i.toNat tt.dflt))),[],[0<=i/\i<l.length]⟩ else none
   |_=>none
  else none
 |some (.array n e)=>if (P.info? e).isSome then
   if P.cellsOf e=1 then match x with
    |.c (.ptr id off)=>some ⟨.aptr (.ptr id off) n i,[],[0<=i/\i<n]⟩
    |.c (.sptr cs)=>some ⟨.aptr (.sptr cs) n i,[],[0<=i/\i<n]⟩
    |_=>none
   else match i with
    |.ofNat k=>if k<n then match x with
      |.c (.ptr id off)=>some ⟨.c (.ptr id (off+k*P.cellsOf e)),[],[]⟩
      |.c (.sptr cs)=>some ⟨.c (.sptr (cs.drop (k*P.cellsOf e))),[],[]⟩
      |_=>none
     else none
    |_=>none
  else none
 |_=>none
def qni (P:Program) (s:TypeId) (f:Nat):Option Field:=
 match P.underlying s with
 |some (.struct fs)=>fs[f]?
 |_=>none
def qsn (P:Program) (s:TypeId) (x:AV) (f:Nat):Option AV:=
 match qni P s f with
 |some fd=>if (P.info? fd.type).isSome=true/\P.cellsOf fd.type≠0 then match x with
   |.c (.ptr id off)=>some (.c (.ptr id (off+fd.offset)))
   |.c (.sptr cs)=>some (.c (.sptr (cs.drop fd.offset)))
   |.optr id sz i off=>some (.optr id sz i (off+fd.offset))
   |_=>none
  else none
 |none=>none
def zml (t:Ty) (l:List t.den) (lo hi mx:Option Int):Option (AC×List Prop):=
 match mx with
 |none=>some (.sl t ((l.drop (lo.getD 0).toNat).take ((hi.getD l.length)-(lo.getD 0)).toNat),[0<=lo.getD 0/\lo.getD 0<=hi.getD l.length/\hi.getD l.length<=l.length])
 |some k=>match hi with
  |some h=>some (.slx t ((l.drop (lo.getD 0).toNat).take (h-(lo.getD 0)).toNat),[0<=lo.getD 0/\lo.getD 0<=h/\h<=l.length/\k=h])
  |none=>none
def zck (P:Program) (d:Nat) (t:TypeId) (s x:AV) (m:Mem):Option Eff:=
 match P.underlying t with
 |some (.slice e)=>match P.info? e,qzn P 20 e,m d with
  |some i,some tt,none=>if i.size=tt.size/\0<tt.size/\(i.zero.any fun z=>z.cells.size==tt.size)=true then
   match (match x with
    |.c .nil=>some ([]:List tt.den)
    |.c a=>match qod m a with
     |some ⟨u,l⟩=>if h:u=tt then some (kw h l) else none
     |none=>none
    |_=>none) with
   |some new=>match s with
    |.c .nil=>some ⟨.c (.own d),[(d,.arr e tt new)],[new.length<=maxLen/\new.length*i.bytes<=140737488355328]⟩
    |.c (.own id)=>match m id with
     |some (.arr e' u l)=>if h:u=tt then if e'=e/\(zda x).all (· != id) then
       some ⟨.c (.own d),[(id,.gone),(d,.arr e tt (kw h l++new))],[(kw h l).length+new.length<=maxLen/\((kw h l).length+new.length)*i.bytes<=140737488355328]⟩ else none else none
     |_=>none
    |.c (.slx u l)=>if h:u=tt then
       some ⟨.c (.own d),[(d,.arr e tt (kw h l++new))],[0<new.length/\(kw h l).length+new.length<=maxLen/\((kw h l).length+new.length)*i.bytes<=140737488355328]⟩ else none
    |_=>none
   |none=>none
   else none
  |_,_,_=>none
 |_=>none
def qzb (k:IntKind) (x:Int):List AV->Option Int
 |[]=>some x
 |.c (.int k' y)::r=>if k=k' then qzb k (if y<x then y else x) r else none
 |_=>none
def qza (k:IntKind) (x:Int):List AV->Option Int
 |[]=>some x
 |.c (.int k' y)::r=>if k=k' then qza k (if x<y then y else x) r else none
 |_=>none
def zk5 (P:Program) (t:TypeId) (x:AV) (i:Int):Option Eff:=
 match P.underlying t with
 |some .string=>match x with
  |.c (.str b)=>some ⟨.c (.int .u8 (b.data.getD i.toNat 0).toNat),[],[0<=i/\i<b.size]⟩
  |_=>none
 |some (.array n e)=>if (P.info? e).isSome=true/\(P.underlying e).isSome=true/\P.cellsOf e=1/\vf P e=false then match x with
   |.agg cs=>match zxy cs with
    |some k=>match qlw k cs with
     |some ns=>if ns.length=n then some ⟨.c (.int k (ns.getD i.toNat 0)),[],[0<=i/\i<n]⟩ else none
     |none=>none
    |none=>none
   |_=>none
  else none
 |_=>none
def qoo (P:Program) (t:TypeId) (x:AV) (m:Mem):Option Eff:=
 match P.underlying t,x with
 |some (.array n e),.c (.ptr id off)=>match P.info? e,qzn P 20 e,m id with
  |some i,some tt,some (.box _ cs)=>match rsL m cs with
   |some (cs',[])=>match qe6 cs' off (n*tt.size) with
    |some seg=>match splitN tt n seg with
     |some l=>if i.size=tt.size/\0<tt.size/\n<=1000 then some ⟨.c (.sl tt l),[(id,.fbox cs')],[]⟩ else none
     |none=>none
    |none=>none
   |_=>none
  |_,_,_=>none
 |_,_=>none
where
 splitN (t:Ty):Nat->List AC->Option (List t.den)
  |0,[]=>some []
  |n+1,cs=>match dec t (cs.take t.size) with
   |some (x,[])=>match splitN t n (cs.drop t.size) with
    |some l=>some (x::l)
    |none=>none
   |_=>none
  |_,_=>none
def qmw (Γ:Gm) (n:Int) (args:List AV):List (Int×Nat)->Option ((rs:List Ty)×qi rs×List Prop)
 |[]=>none
 |(k,f)::r=>match Γ f with
  |some ct=>match qjd Γ ct.ps args with
   |some (x,ns)=>match r with
    |[]=>some ⟨ct.rs,ct.f x,(n=k)::(ns++ct.ok x)⟩
    |r=>match qmw Γ n args r with
     |some ⟨rs,y,ms⟩=>if h:rs=ct.rs then some ⟨ct.rs,bif n==k then ct.f x else zg6 h y,[n=k->qr (ns++ct.ok x),n≠k->qr ms]⟩ else none
     |none=>none
   |none=>none
  |none=>none
def zrt (Γ:Gm) (fv:AV) (args:List AV):Option (AV×List Prop):=
 match fv with
 |.c (.fn f caps)=>ygh Γ f (args++caps.map .c)
 |.c (.fv ps rs g)=>match qe3 ps args with
  |some x=>some (qqc rs (g x),[])
  |none=>none
 |.c (.pv ps rs g D)=>match qe3 ps args with
  |some x=>some (qqc rs (g x),[D x])
  |none=>none
 |.c (.fs es n)=>match qmw Γ n args es with
  |some ⟨rs,y,ns⟩=>some (qqc rs y,ns)
  |none=>none
 |_=>none
def ydh (P:Program) (t:TypeId) (x:AV) (m:Mem):Option Eff:=
 match P.underlying t with
 |some (.slice _)=>match x with
  |.c .nil=>some ⟨.c (.int .i64 0),[],[]⟩
  |.c a=>match qod m a with
   |some ⟨_,l⟩=>some ⟨.c (.int .i64 l.length),[],[]⟩
   |none=>none
  |_=>none
 |some .string=>match x with
  |.c (.str s)=>some ⟨.c (.int .i64 s.size),[],[]⟩
  |_=>none
 |_=>none
def ygi (P:Program) (d:Nat) (b:Builtin) (ts:List TypeId) (vs:List AV) (m:Mem):Option Eff:=
 match b,ts,vs with
 |.len,[t],[x]=>ydh P t x m
 |.append,[t,t'],[s,x]=>if t=t' then zck P d t s x m else none
 |.min,_,.c (.int k n)::r=>match qzb k n r with
  |some y=>some ⟨.c (.int k y),[],[]⟩
  |none=>none
 |.max,_,.c (.int k n)::r=>match qza k n r with
  |some y=>some ⟨.c (.int k y),[],[]⟩
  |none=>none
 |_,_,_=>none
def qjj:List AV->Option (List AC×List (Nat×Ob))
 |[]=>some ([],[])
 |.c a::r=>match qjj r with
  |some (y,_)=>some (a::y,[])
  |none=>none
 |_=>none
def ztm:AC->Option ((t:Ty)×List t.den)
 |.sl t l=>some ⟨t,l⟩
 |.slx t l=>some ⟨t,l⟩
 |_=>none
def zdn:Bool->List AV->Option (Option Int×List AV)
 |false,r=>some (none,r)
 |true,.c (.int _ n)::r=>some (some n,r)
 |true,_=>none
def ztt (P:Program) (d:Nat) (t:TypeId) (n c:Int) (m:Mem):Option Eff:=
 match P.underlying t with
 |some (.slice e)=>match P.info? e,qzn P 20 e,m d with
  |some i,some tt,none=>match i.zero with
   |some z=>match qln (qua z) with
    |some cs=>match dec tt cs with
     |some (x,[])=>if i.size=tt.size/\z.cells.size=tt.size/\0<tt.size then
       some ⟨.c (.own d),[(d,.arr e tt (List.replicate n.toNat x))],[0<=n/\n<=c/\c<=maxLen/\c*i.bytes<=140737488355328]⟩ else none
     |_=>none
    |none=>none
   |none=>none
  |_,_,_=>none
 |_=>none
def ybs (P:Program) (d:Nat) (t:TypeId) (lo hi mx:Bool) (x:AV) (r:List AV) (m:Mem):Option Eff:=
 match lo,hi,mx,x,r with
 |false,true,false,.c (.own id),[.c (.int _ h)]=>match P.underlying t,m id,m d with
  |some (.slice e),some (.arr e' tt l),none=>if (P.info? e).isSome=true/\P.cellsOf e=tt.size then
    some ⟨.c (.own d),[(id,.gone),(d,.arr e' tt (l.take h.toNat))],[0<=h/\h<=l.length]⟩
   else none
  |_,_,_=>none
 |_,_,_,_,_=>none
def nmA:AV->Bool
 |.maybe _ _ _=>false
 |_=>true
def zlc (P:Program) (t:TypeId):Bool:=match P.underlying t with
 |some (.interface _)=>true
 |_=>false
def zyc (P:Program) (o:BinOp) (t:TypeId) (y:Operand) (x:AV):Option Bool:=
 match o,y,x with
 |.eql,.const .nilIface,.c (.ic es _ z)=>if zlc P t=true then some (yy es z.1).isNone else none
 |.neq,.const .nilIface,.c (.ic es _ z)=>if zlc P t=true then some (!(yy es z.1).isNone) else none
 |_,_,_=>none
def zba (P:Program) (name:String) (ty:TypeId):Option FuncId:=
 match P.info? ty,P.underlying ty with
 |some i,some (.struct _)=>match i.methods.find? (·.name==name) with
  |some mm=>match mm.func with
   |some (f,false)=>if mm.path.isEmpty=true then some f else none
   |_=>none
  |none=>none
 |_,_=>none
def zay (P:Program) (name:String):List (Int×Nat)->Option (List (Int×Nat))
 |[]=>some []
 |(k,ty)::r=>match zba P name ty,zay P name r with
  |some f,some fs=>some ((k,f)::fs)
  |_,_=>none
def qkk {α:Type} (i:Int) (l m:List α):List α:=l.take i.toNat++m++l.drop i.toNat
def yg3 (Γ:Gm):AV->Option Row
 |.c (.fn f [])=>Γ.r f
 |_=>none
def yek (r:Row) (d:Nat) (args:List AV) (m:Mem):Option Eff:=
 match r,args,m d with
 |.clone e T bytes,[.c a],none=>match qod m a with
  |some ⟨t1,l⟩=>if h1:t1=T then some ⟨.c (.own d),[(d,.arr e T (kw h1 l))],[l.length<=maxLen,l.length*bytes<=140737488355328]⟩ else none
  |none=>none
 |.ins e T bytes,[.c (.own a),.c (.int .i64 i),.c (.own b)],none=>match m a,m b with
  |some (.arr e1 t1 l),some (.arr e2 t2 x)=>if h1:t1=T then if h2:t2=T then if e1=e/\e2=e/\a≠b then
    some ⟨.c (.own d),[(a,.gone),(d,.arr e T (qkk i (kw h1 l) (kw h2 x)))],[0<=i/\i<=l.length,x.length=1,l.length+1<=maxLen/\(l.length+1)*bytes<=140737488355328]⟩ else none else none else none
  |_,_=>none
 |_,_,_=>none
def zm1 (Γ:Gm) (n:Int) (cs:List AC) (args:List AV):List (Int×Nat)->Option ((T:Ty)×T.den×List Prop)
 |[]=>none
 |(k,f)::r=>match Γ.r f with
  |some (.upd T ps g)=>match dec T cs,qe3 ps args with
   |some (x,[]),some y=>match r with
    |[]=>some ⟨T,g x y,[n=k]⟩
    |r=>match zm1 Γ n cs args r with
     |some ⟨T',z,ms⟩=>if h:T'=T then some ⟨T,bif n==k then g x y else zru h z,[n≠k->qr ms]⟩ else none
     |none=>none
   |_,_=>none
  |_=>none
def zr9 (P:Program) (Γ:Gm) (d:Nat) (op:Op) (vs:List AV) (m:Mem):Option Eff:=
 match op,vs with
 |.move _,[x] | .assign _,[x]=>some ⟨x,[],[]⟩
 |.alloc e,[]=>match (P.info? e).bind (·.zero),m d with
  |some z,none=>match qln (qua z) with
   |some cs=>some ⟨.c (.ptr d 0),[(d,.box e cs)],[]⟩
   |none=>none
  |_,_=>none
 |.box e _,[x]=>match qln x,m d with
  |some cs,none=>some ⟨.c (.ptr d 0),[(d,.box e cs)],[]⟩
  |_,_=>none
 |.build t ps,vs=>match zig P t ((ps.toList.map (·.1)).zip vs) with
  |some v=>some ⟨v,[],[]⟩
  |none=>none
 |.buildSlice t n ps,vs=>match P.underlying t,m d with
  |some (.slice e),none=>match P.info? e,qzn P 20 e,qcj m vs with
   |some i,some tt,some (vs',u)=>if i.size=tt.size/\0<tt.size/\n*i.size<=16777216/\ps.size=n/\(i.zero.any fun z=>z.cells.size==tt.size)=true then match qnb tt 0 ((ps.toList.map (·.1)).zip vs') with
     |some l=>if l.length=n then some ⟨.c (.own d),u++[(d,.arr e tt l)],[]⟩ else none
     |none=>none
    else none
   |_,_,_=>none
  |_,_=>none
 |.load t _,[x]=>zhh P t x m
 |.store t _ _,[x,v]=>zmt P t x v m
 |.nilCheck _,[x]=>match x with
  |.c (.ptr id off)=>some ⟨.c (.ptr id off),[],[]⟩
  |.c (.sptr cs)=>some ⟨.c (.sptr cs),[],[]⟩
  |_=>none
 |.binOp o t _ y0 _,[x,y]=>match zyc P o t y0 x with
  |some v=>some ⟨.c (.bool v),[],[]⟩
  |none=>match ya6 P o t x y with
   |some (a,n)=>some ⟨.c a,[],n⟩
   |none=>none
 |.unOp o _ _,[.c (.int k n)]=>match o with
  |.neg=>some ⟨.c (.int k (k.wrap (0-n))),[],[]⟩
  |_=>none
 |.unOp o _ _,[.c (.bool b)]=>match o with
  |.not=>some ⟨.c (.bool (!b)),[],[]⟩
  |_=>none
 |.convert s t _,[.c (.int _ n)]=>match P.underlying s,P.underlying t with
  |some _,some (.int k)=>some ⟨.c (.int k (k.wrap n)),[],[]⟩
  |_,_=>none
 |.makeSlice t _ _,[.c (.int _ n),.c (.int _ c)]=>ztt P d t n c m
 |.slice t _ lo hi mx,x::r=>match ybs P d t lo.isSome hi.isSome mx.isSome x r m with
  |some e=>some e
  |none=>match (if lo.isSome=false/\hi.isSome=false/\mx.isSome=false then qoo P t x m else none) with
  |some e=>some e
  |none=>match P.underlying t,rsA m x,zdn lo.isSome r with
  |some (.slice e),some (x',u),some (l,r1)=>match zdn hi.isSome r1 with
   |some (h,r2)=>match zdn mx.isSome r2 with
    |some (k,[])=>match x' with
     |.c a=>match ztm a with
      |some ⟨tt,y⟩=>if (P.info? e).isSome/\P.cellsOf e=tt.size then match zml tt y l h k with
        |some (z,n)=>some ⟨.c z,u,n⟩
        |none=>none
       else none
      |none=>none
     |_=>none
    |_=>none
   |none=>none
  |_,_,_=>none
 |.fieldAddr s _ f,[x]=>match qsn P s x f with
  |some v=>some ⟨v,[],[]⟩
  |none=>none
 |.field s _ f,[.agg cs]=>match qni P s f with
  |some fd=>if (P.info? fd.type).isSome/\(P.underlying fd.type).isSome then match qe6 cs fd.offset (if vf P fd.type then P.cellsOf fd.type else 1) with
    |some l=>match qw7 (vf P fd.type) l with
     |some v=>some ⟨v,[],[]⟩
     |none=>none
    |none=>none
   else none
  |none=>none
 |.indexAddr t _ _,[x,.c (.int _ i)]=>zk4 P t x i m
 |.index t _ _,[x,.c (.int _ i)]=>zk5 P t x i
 |.lookup t _ _ true,[.c (.mp es),.c (.int .i64 n)]=>match P.underlying t with
  |some (.map k e)=>match P.underlying k,(P.info? e).bind (·.zero) with
   |some (.int .i64),some .nilFunc=>some ⟨.tup [.c (.fs es n),.c (.bool (es.find? (fun x=>x.1==n)).isSome)],[],[]⟩
   |_,_=>none
  |_=>none
 |.extract _ i,[.tup vs]=>match vs[i]? with
  |some v=>some ⟨v,[],[]⟩
  |none=>none
 |.typeAssert _ _ ty true,[.c (.ic es _ x)]=>match P.underlying ty with
  |some (.struct _)=>if ((P.info? ty).bind (·.zero)).isSome=true then some ⟨.tup [.dead,.c (.bool (yy es x.1==some ty))],[],[]⟩ else none
  |_=>none
 |.makeFunc (.func f) first _,vs=>if first.size=0 then match (if (Γ f).isSome then rsK m vs else qjj vs) with
   |some (caps,u)=>some ⟨.c (.fn f caps),u,[]⟩
   |none=>none
  else none
 |.call ⟨.builtin b,_,ts⟩,vs=>ygi P d b ts.toList vs m
 |.call ⟨.invoke _ name,_,_⟩,.c (.ic es t x)::args=>match qcj m args,zay P name es with
  |some (args',u),some fs=>match qmw Γ x.1 (qga t x.2::args') fs with
   |some ⟨rs,y,n⟩=>some ⟨qqc rs y,u,n⟩
   |none=>none
  |_,_=>none
 |.call ⟨.value _,_,_⟩,.c (.fs es n) :: .c (.ptr id 0)::args=>match m id with
  |some (.box e cs)=>match zm1 Γ n cs args es with
   |some ⟨T,z,ns⟩=>some ⟨.dead,[(id,.box e (enc T z))],ns⟩
   |none=>none
  |_=>none
 |.call ⟨.value _,_,_⟩,fv::args=>match yg3 Γ fv with
  |some r=>yek r d args m
  |none=>match qcj m args with
   |some (args',u)=>match zrt Γ fv args' with
    |some (v,n)=>some ⟨v,u,n⟩
    |none=>none
   |none=>none
 |_,_=>none
def zr8 (P:Program) (Γ:Gm) (d:Nat) (op:Op) (vs:List AV) (m:Mem):Option Eff:=
 match op with
 |.pick c _ _=>match vs with
  |[.c (.bool p),a,b]=>match zbg p (zd1 c true a) (zd1 c false b) with
   |some v=>some ⟨v,[],[]⟩
   |none=>none
  |_=>none
 |op=>if vs.all nmA then zr9 P Γ d op vs m else none
def qrl (op:Op) (vs:List AV) (m:Mem):List Nat:=
 match op with
 |.makeFunc _ _ _=>vs.flatMap zda++(vs.flatMap zda).flatMap (fun i=>yst (m i))
 |.move _=>[]
 |_=>vs.flatMap zda
def qg8 (ks:List Nat) (m:Mem):Mem:=fun i=>if ks.contains i then m i else none
def qg5 (sl:Nat->AV):Nat->Tmp->Bool->Option (List (Tmp×Bool×Bool))
 |0,_,_=>none
 |n+1,g,want=>match sl g with
  |.c (.bool b)=>some [(g,want,b)]
  |.maybe g0 w0 (.c (.bool b))=>match qg5 sl n g0 w0 with
   |some l=>some ((g,want,b)::l)
   |none=>none
  |_=>none
def unm (gs:List (Tmp×Bool×Bool)):AV->AV
 |.maybe g w v=>if gs.any (fun x=>x.1==g&&x.2.1==w) then v else .maybe g w v
 |v=>v
def zvc (gs:List (Tmp×Bool×Bool)) (ns:List Prop):List Prop:=ns.map fun p=>gs.foldr (fun x q=>x.2.2=x.2.1->q) p
structure Ef where
 dst:Option Tmp
 v:AV
 wr:List (Nat×Ob)
 need:List Prop
 rd:List Tmp
 ks:List Nat
def qrv (op:Op):List Tmp:=op.operands.toList.filterMap fun
 |.tmp t=>some t
 |_=>none
def dOf (b:Nat) (o:Oper):Nat:=b+o.dst.getD 1000000
def qal (P:Program) (Γ:Gm) (b:Nat) (ops:List Oper) (o:Oper) (sl:Nat->AV) (m:Mem):Option Ef:=
 match o.guard with
 |none=>
  let vs:=o.op.operands.toList.map (evA sl)
  let ks:=dOf b o::qrl o.op vs m
  match zr8 P Γ (dOf b o) o.op vs (qg8 ks m) with
  |some e=>some ⟨o.dst,e.v,e.wr,e.need,qrv o.op,ks⟩
  |none=>none
 |some (j,want)=>
  match (ops[j]?).bind (·.dst) with
  |some g=>match qg5 sl 5 g want with
   |some gs=>
    let vs:=o.op.operands.toList.map fun x=>unm gs (evA sl x)
    let ks:=dOf b o::qrl o.op vs m
    match zr8 P Γ (dOf b o) o.op vs (qg8 ks m) with
    |some e=>match e.wr with
     |[]=>some ⟨o.dst,.maybe g want e.v,[],zvc gs e.need,gs.map (·.1)++qrv o.op,ks⟩
     |_=>none
    |none=>none
   |none=>none
  |none=>none
def qdj (sl:Nat->AV) (d:Option Tmp) (v:AV):Nat->AV:=
 match d with
 |none=>sl
 |some t=>fun i=>if i=t then v else sl i
def Ef.go (e:Ef) (s:St):St:=⟨s.n,qdj s.sl e.dst e.v,qx s.mem e.wr,s.gs⟩
def qvs (P:Program) (Γ:Gm) (b:Nat) (ops:List Oper):List Oper->St->Option (List Ef×St)
 |[],s=>some ([],s)
 |o::r,s=>match qal P Γ b ops o s.sl s.mem with
  |some e=>match qvs P Γ b ops r (e.go s) with
   |some (es,s')=>some (e::es,s')
   |none=>none
  |none=>none
def xi:List Nat->List Oper->List Nat
 |acc,[]=>acc
 |acc,o::r=>xi (acc++[o.after.toList.foldr (fun e s=>if Region.binds .any e then 2 ^ e.on ||| acc.getD e.on 0 ||| s else s) 0]) r
def qma (n:Nat):Nat->List Tmp->List Oper->Bool
 |_,_,[]=>true
 |k,W,o::r=>
  (match o.dst with
   |some t=>decide (t<n) && !W.contains t
   |none=>true) &&
  (match o.guard with
   |some (j,_)=>decide (j<k)&&o.after.toList.any fun e=>e.on==j&&Region.binds .any e
   |none=>true) &&
  (o.after.toList.all fun e=>!Region.binds .any e || decide (e.on<k)) &&
  qma n (k+1) (o.dst.toList++W) r
def qg6 (e f:Ef):Bool:=
 (match e.dst with
  |some t=>!f.rd.contains t&&(f.dst != some t)
  |none=>true) &&
 (match f.dst with
  |some t=>!e.rd.contains t
  |none=>true) &&
 e.wr.all (fun x=>!f.ks.contains x.1&&f.wr.all fun y=>x.1 != y.1) &&
 f.wr.all fun y=>!e.ks.contains y.1
def qw8 (k:Nat) (mask:Nat) (f:Ef):Nat->List Ef->Bool
 |_,[]=>true
 |i,e::r=>if i<k then (mask.testBit i || qg6 e f)&&qw8 k mask f (i+1) r else true
def qkp (ops:List Oper) (es:List Ef):Bool:=
 let ms:=xi [] ops
 (List.range es.length).all fun k=>match es[k]?,ms[k]? with
  |some f,some mask=>qw8 k mask f 0 es
  |_,_=>false
def clr (sl:Nat->AV):Nat->AV:=fun i=>match sl i with
 |.maybe _ _ _=>.dead
 |v=>v
inductive XE where
 |normal
 |exit (id:Nat)
 |ret
 |panic (p:PV)
 |val (v:AV)
 |jump (l:Nat)
inductive Tr where
 |leaf (e:XE) (s:St)
 |br (b:Bool) (x y:Tr)
 |need (p:Prop) (x:Tr)
 |two (p:Prop) (x y:Tr)
def Tr.bind (f:St->Option Tr):Tr->Option Tr
 |.leaf .normal s=>f s
 |.leaf e s=>some (.leaf e s)
 |.br b x y=>match x.bind f,y.bind f with
  |some x',some y'=>some (.br b x' y')
  |_,_=>none
 |.need p x=>match x.bind f with
  |some x'=>some (.need p x')
  |none=>none
 |.two p x y=>match x.bind f,y.bind f with
  |some x',some y'=>some (.two p x' y')
  |_,_=>none
def Tr.bindV (f:AV->St->Option Tr):Tr->Option Tr
 |.leaf (.val v) s=>f v s
 |.leaf (.panic p) s=>some (.leaf (.panic p) s)
 |.leaf _ _=>none
 |.br b x y=>match x.bindV f,y.bindV f with
  |some x',some y'=>some (.br b x' y')
  |_,_=>none
 |.need p x=>match x.bindV f with
  |some x'=>some (.need p x')
  |none=>none
 |.two p x y=>match x.bindV f,y.bindV f with
  |some x',some y'=>some (.two p x' y')
  |_,_=>none
def Tr.block (id:Nat):Tr->Tr
 |.leaf (.exit i) s=>if i=id then .leaf .normal s else .leaf (.exit i) s
 |.leaf e s=>.leaf e s
 |.br b x y=>.br b (x.block id) (y.block id)
 |.need p x=>.need p (x.block id)
 |.two p x y=>.two p (x.block id) (y.block id)
def Tr.scope:Tr->Tr
 |.leaf (.jump _) s=>.need False (.leaf .ret s)
 |.leaf (.val _) s=>.need False (.leaf .ret s)
 |.leaf e s=>.leaf e s
 |.br b x y=>.br b x.scope y.scope
 |.need p x=>.need p x.scope
 |.two p x y=>.two p x.scope y.scope
def zq:Code->Nat
 |.loop _=>1
 |.seq a b=>zq a+zq b
 |.cond _ a b=>zq a+zq b
 |.block _ c=>zq c
 |.scope c=>zq c
 |_=>0
def needL (ns:List Prop) (t:Tr):Tr:=ns.foldr (fun p t=>.need p t) t
def zhl (es:List Ef) (t:Tr):Tr:=es.foldr (fun e t=>needL e.need t) t
def qid (s:St):St:=⟨s.n,clr s.sl,s.mem,s.gs⟩
def qxa (P:Program) (Γ:Gm) (b:Nat) (ops:List Oper) (draw:Bool) (s:St):Option Tr:=
 if qma s.n 0 [] ops then match qvs P Γ b ops ops s with
  |some (es,s')=>if draw=false∨qkp ops es=true then some (zhl es (.leaf .normal (qid s'))) else none
  |none=>none
 else none
structure Cx where
 Γ:Gm
 Pi:FuncId->Option Pc
 K:Nat->FuncId->List AV->St->Option Tr
def zmo (P:Program) (C:Cx) (b:Nat) (o:Oper) (s:St):Option Tr:=
 match o.guard,o.op,o.op.operands.toList.map (evA s.sl) with
 |none,.call ⟨.value _,_,_⟩,.c (.fn f caps)::args=>match C.Pi f with
  |some pc=>match qcj s.mem (args++caps.map .c) with
   |some (xs,u)=>match qjd C.Γ pc.ps xs with
    |some (x,n)=>some (needL (n++pc.ok x) (.br (pc.bad x) (.leaf (.panic (pc.pv x)) (qid ⟨s.n,s.sl,qx s.mem u,s.gs⟩)) (.leaf (.val (qqc pc.rs (pc.f x))) (qid ⟨s.n,s.sl,qx s.mem u,s.gs⟩))))
    |none=>none
   |none=>none
  |none=>if args.all nmA then C.K (dOf b o) f (args++caps.map .c) (qid s) else none
 |none,.binOp .eql t _ _ _,[.c (.sl _ l),.c .nil]=>if P.underlying t matches some (.slice _) then
   some (.two (l=[]) (.leaf (.val (.c (.bool true))) (qid s)) (.leaf (.val (.c (.bool false))) (qid s))) else none
 |_,_,_=>none
def zdm (P:Program) (C:Cx) (b:Nat) (ops:List Oper):List Oper->St->Option Tr
 |[],s=>some (.leaf .normal (qid s))
 |o::r,s=>match qal P C.Γ b ops o s.sl s.mem with
  |some e=>match zdm P C b ops r (e.go s) with
   |some t=>some (needL e.need t)
   |none=>none
  |none=>match zmo P C b o s with
   |some t=>t.bindV fun v s'=>zdm P C b ops r ⟨s'.n,qdj s'.sl o.dst v,s'.mem,s'.gs⟩
   |none=>none
def knA (kn:List (Tmp×Bool)) (t:Tmp):Option Bool:=match kn with
 |[]=>none
 |(x,v)::r=>if x=t then some v else knA r t
def zgz (kn:List (Tmp×Bool)):Operand->Option Bool
 |.tmp t=>knA kn t
 |.const (.bool c)=>some c
 |_=>none
def ycq (kn:List (Tmp×Bool)):Op->Option Operand
 |.move x=>some x
 |.pick c x y=>match zgz kn c with
  |some true=>some x
  |some false=>some y
  |none=>none
 |_=>none
def zky (o:Oper):Oper:=⟨o.dst,o.op,o.type,o.pos,o.after,none⟩
def zdk (P:Program) (C:Cx) (b:Nat) (ops:List Oper) (kn:List (Tmp×Bool)) (o:Oper) (s:St) (k:List (Tmp×Bool)->St->Option Tr):Option Tr:=
 match ycq kn o.op,o.dst with
 |some x,some d=>match zgz kn x with
  |some c=>k ((d,c)::kn) ⟨s.n,qdj s.sl (some d) (.c (.bool c)),s.mem,s.gs⟩
  |none=>match evA s.sl x with
   |.maybe _ _ _=>none
   |v=>k kn ⟨s.n,qdj s.sl (some d) v,s.mem,s.gs⟩
 |_,_=>match qal P C.Γ b ops (zky o) s.sl s.mem with
  |some e=>match k kn (e.go s) with
   |some t=>some (needL e.need t)
   |none=>none
  |none=>match zmo P C b (zky o) s with
   |some t=>t.bindV fun v s'=>k kn ⟨s'.n,qdj s'.sl o.dst v,s'.mem,s'.gs⟩
   |none=>none
def qog (P:Program) (C:Cx) (b:Nat) (ops:List Oper):List (Tmp×Bool)->List Oper->St->Option Tr
 |_,[],s=>some (.leaf .normal (qid s))
 |kn,o::r,s=>match o.guard with
  |none=>zdk P C b ops kn o s fun kn s=>qog P C b ops kn r s
  |some (j,want)=>match (ops[j]?).bind (·.dst) with
   |none=>none
   |some g=>match knA kn g with
    |some v=>if v=want then zdk P C b ops kn o s fun kn s=>qog P C b ops kn r s
     else qog P C b ops kn r ⟨s.n,qdj s.sl o.dst .dead,s.mem,s.gs⟩
    |none=>match s.sl g with
     |.c (.bool p)=>match zdk P C b ops ((g,want)::kn) o s fun kn s=>qog P C b ops kn r s,qog P C b ops ((g,!want)::kn) r ⟨s.n,qdj s.sl o.dst .dead,s.mem,s.gs⟩ with
      |some x,some y=>some (.br p (if want then x else y) (if want then y else x))
      |_,_=>none
     |_=>none
def ztd (m:Mem) (id:Nat):Mem:=match rsC m (.own id) with
 |some (_,u)=>qx m u
 |none=>m
def yss (s:St):St:=⟨s.n,s.sl,((List.range s.n).flatMap fun t=>match s.sl t with
 |.c (.ptr id 0)=>match s.mem id with
  |some (.box _ cs)=>cs.flatMap qqk
  |_=>[]
 |_=>[]).foldl ztd s.mem,s.gs⟩
def ja (P:Program) (C:Cx) (bs:Nat) (Λ:Nat->St->Option Tr):Code->Nat->St->Option Tr
 |.skip,_,s=>some (.leaf .normal s)
 |.ret,_,s=>some (.leaf .ret s)
 |.exit id,_,s=>some (.leaf (.exit id) s)
 |.region _ ops draw,_,s=>match qxa P C.Γ bs ops.toList draw s with
  |some t=>some t
  |none=>match (if draw=false/\qma s.n 0 [] ops.toList=true then zdm P C bs ops.toList ops.toList s else none) with
   |some t=>some t
   |none=>match (if draw=false/\qma s.n 0 [] ops.toList=true then qog P C bs ops.toList [] ops.toList s else none) with
    |some t=>some t
    |none=>match qxa P C.Γ bs ops.toList draw (yss s) with
     |some t=>some t
     |none=>some (.need False (.leaf .ret s))
 |.seq a b,k,s=>match ja P C bs Λ a k s with
  |some t=>t.bind (ja P C bs Λ b (k+zq a))
  |none=>none
 |.cond c a b,k,s=>match evA s.sl c with
  |.c (.bool p)=>match ja P C bs Λ a k s,ja P C bs Λ b (k+zq a) s with
   |some x,some y=>some (.br p x y)
   |_,_=>none
  |_=>none
 |.block id c,k,s=>match ja P C bs Λ c k s with
  |some t=>some (t.block id)
  |none=>none
 |.loop _,k,s=>match Λ k s with
  |some t=>some t
  |none=>some (.need False (.leaf .ret s))
 |.scope c,k,s=>match ja P C bs Λ c k s with
  |some t=>some t.scope
  |none=>none
 |.label _,_,s=>some (.leaf .normal s)
 |.goto l,_,s=>some (.leaf (.jump l) s)
 |_,_,s=>some (.need False (.leaf .ret s))
def qos (n:Nat) (args:List AV):St:=⟨n,fun i=>args.getD i .dead,fun _=>none,fun _=>.dead⟩
def St.at (s:St) (t:Nat):AV:=if t<10000 then s.sl t else s.gs (t-10000)
def yd7 (P:Program) (s:St):ResultVar->Option (AV×List Prop)
 |.tmp t=>some (s.sl t,[])
 |.cell a t=>match s.sl a with
  |.c (.ptr id off)=>match zhh P t (.c (.ptr id off)) s.mem with
   |some e=>some (e.v,e.need)
   |none=>none
  |_=>none
def qdx (P:Program) (s:St):List ResultVar->Option (List AV×List Prop)
 |[]=>some ([],[])
 |r::rs=>match yd7 P s r,qdx P s rs with
  |some (v,n),some (vs,k)=>some (v::vs,n++k)
  |_,_=>none
def qzk:List AV->AV
 |[v]=>v
 |vs=>.tup vs
def St.back (n:Nat) (s:St):St:=⟨n,fun t=>if t<10000 then s.gs t else .dead,s.mem,fun t=>s.gs (t+10000)⟩
def qgb (P:Program) (rv:List ResultVar) (n:Nat):Tr->Option Tr
 |.leaf .ret s=>match qdx P s rv with
  |some (vs,ns)=>some (needL ns (.leaf (.val (qzk vs)) (s.back n)))
  |none=>none
 |.leaf .normal s=>match qdx P s rv with
  |some (vs,ns)=>some (needL ns (.leaf (.val (qzk vs)) (s.back n)))
  |none=>none
 |.leaf (.panic p) s=>some (.leaf (.panic p) (s.back n))
 |.leaf _ _=>none
 |.br b x y=>match qgb P rv n x,qgb P rv n y with
  |some x',some y'=>some (.br b x' y')
  |_,_=>none
 |.need p x=>match qgb P rv n x with
  |some x'=>some (.need p x')
  |none=>none
 |.two p x y=>match qgb P rv n x,qgb P rv n y with
  |some x',some y'=>some (.two p x' y')
  |_,_=>none
def qql (P:Program) (C:Cx) (Xi:FuncId->Option (Func×(Nat->St->Option Tr))) (d:Nat) (f:FuncId) (args:List AV) (s:St):Option Tr:=
 match Xi f with
 |some (fn,Λ)=>match fn.body with
  |some c=>if args.length<=fn.ntmps/\(fn.name == "runtime.NumGoroutine")=false then
    match ja P C ((d+1)*10000) Λ c 0 ⟨fn.ntmps,fun i=>args.getD i .dead,s.mem,s.at⟩ with
    |some t=>qgb P fn.results.toList s.n t
    |none=>none
   else none
  |none=>none
 |none=>none
end Go.Ab

namespace Go.Ab
open Go Go.RowKit
section
variable (P:Program) (w:World) (F:Nat->Prop) (R:Nat->Value->Prop)
def zr:List AV->List Value->Prop
 |[],[]=>True
 |a::r,v::s=>qz P w F R a v/\zr r s
 |_,_=>False
end
theorem zy0 {P:Program} {w:World} {F:Nat->Prop} {R:Nat->Value->Prop}:{us:List Value} -> {vs:List AV}->zr P w F R vs us->qky P w F R vs (fun j u=>us[j]? = some u)
 |[],[],_=>trivial
 |u::us,v::vs,h=>⟨⟨u,rfl,h.1⟩,by simpa using zy0 h.2⟩
 |[],_::_,h=>h.elim
 |_::_,[],h=>h.elim
def zq5 (P:Program) (B:Nat) (o:Oper) (a:Act) (w:World) (F:Nat->Prop) (γ:Nat->Value) (M:Mem) (v:AV) (wr:List (Nat×Ob)):Prop:=
 ∀ (K:Act->World->Prop) (Q:Exit->Act->World->Prop),
  (∀ u w' F' γ',Step B w F γ M w' F' γ' (qx M wr)->MemOK P B w' F' γ' (qx M wr)->qz P w' F' (qp (qx M wr) γ') v u->K (a.put o.dst u) w')->o.wp P a w K Q
section
variable {P:Program} {B:Nat} {o:Oper} {a:Act} {w w':World} {F F':Nat->Prop} {γ γ':Nat->Value} {M m:Mem} {R:Nat->Value->Prop}
theorem qbs {v:AV} {wr:List (Nat×Ob)} {u:Value} (hr:(execOp a.eval o).run P w = .ok (.value u) w') (hs:Step B w F γ M w' F' γ' (qx M wr)) (hm:MemOK P B w' F' γ' (qx M wr))
  (ha:qz P w' F' (qp (qx M wr) γ') v u):zq5 P B o a w F γ M v wr:=by
 intro K Q hK;unfold Oper.wp;rw [hr];exact hK u w' F' γ' hs hm ha
theorem yg {v:AV} {u:Value} (hm:MemOK P B w F γ M) (hb:∀ b,F b->b<w.heap.size) (hr:(execOp a.eval o).run P w = .ok (.value u) w) (ha:qz P w F (qp M γ) v u):zq5 P B o a w F γ M v []:=
 qbs hr (Step.refl hb) hm ha
theorem qu.drop_ {cs:List AC} {g:Nat->Value->Prop} (h:qu P w F R cs g) (n:Nat):qu P w F R (cs.drop n) (fun j u=>g (n+j) u):=
 qu.of_at _ fun j c hc=>h.at_ (by rw [← hc,ubd])
theorem qu.take_ {cs:List AC} {g:Nat->Value->Prop} (h:qu P w F R cs g) (n:Nat):qu P w F R (cs.take n) g:=
 qu.of_at _ fun j c hc=>h.at_ (by rw [uap] at hc; split at hc<;>simp_all)
theorem qu.turn {cs:List AC} {g g':Nat->Value->Prop} (h:qu P w F R cs g) (hg:∀ j u,j<cs.length->g j u->g' j u):qu P w F R cs g':=
 qu.of_at _ fun j c hc=>by
  obtain ⟨u,h1,h2⟩:=h.at_ hc;exact ⟨u,hg j u (uaj.1 hc).1 h1,h2⟩
theorem qu.vals:(cs:List AC) -> {g:Nat->Value->Prop}->qu P w F R cs g->∃ us:List Value,us.length=cs.length/\(∀ j u,us[j]? = some u->g j u)/\qu P w F R cs (fun j u=>us[j]? = some u)/\∀ u∈us,u.oneCell'=true
 |[],_,_=>⟨[],rfl,fun j u h=>by simp at h,trivial,fun u h=>by simp at h⟩
 |c::r,g,h=>by
  obtain ⟨⟨u,h1,h2,h3⟩,h4⟩:=h;obtain ⟨us,e1,e2,e3,e4⟩:=qu.vals r h4;refine ⟨u::us,by simp [e1],fun j v hv=>?_,⟨⟨u,rfl,h2,h3⟩,by simpa using e3⟩,fun v hv=>?_⟩
  ·cases j with
   |zero=>simp at hv; subst hv; exact h1
   |succ j=>exact e2 j v (by simpa using hv)
  ·rcases ua2.1 hv with rfl|hv
   ·exact h2
   ·exact e4 v hv
theorem qir {cs l:List AC} {off n:Nat} {g:Nat->Value->Prop} (h:qe6 cs off n=some l) (hr:qu P w F R cs g):l.length=n/\qu P w F R l (fun j u=>g (off+j) u):=by
 unfold qe6 at h;split at h
 ·cases h;exact ⟨by simp; omega,(hr.drop_ off).take_ n⟩
 ·cases h
theorem qi8 {id off:Nat} {e:TypeId} {cs:List AC} {v:Value} (hm:MemOK P B w F γ M) (hM:M id=some (.box e cs)) (h:zn P w F (qp M γ) (.ptr id off) v) :
  ∃ b arr,γ id = .pointer (some ⟨b,0,none⟩)/\v = .pointer (some ⟨b,off,none⟩)/\w.heap[b]? = some (.cells arr e (0,0))/\¬ F b/\B<=b/\arr.size=cs.length/\qu P w F (qp M γ) cs (fun j u=>arr[j]? = some u):=by
 obtain ⟨b,arr,h1,h2⟩:=hm.ob id _ hM;obtain ⟨b',h3,h4⟩:=h;unfold qp at h3;rw [hM] at h3;simp only [h1,Value.pointer.injEq,Option.some.injEq,Addr.mk.injEq,and_self,and_true] at h3;subst h3;exact ⟨b',arr,h1,h4,h2⟩
theorem zcx {id off:Nat} {cs:List AC} {v:Value} (hm:MemOK P B w F γ M) (hM:M id=some (.fbox cs)) (h:zn P w F (qp M γ) (.ptr id off) v) :
  ∃ b,v = .pointer (some ⟨b,off,none⟩)/\F b/\qu P w F (qp M γ) cs (fun j u=>w.cell? ⟨b,j,none⟩=some u):=by
 obtain ⟨b,h1,h2⟩:=hm.ob id _ hM;obtain ⟨b',h3,h4⟩:=h;unfold qp at h3;rw [hM] at h3;simp only [h1,Value.pointer.injEq,Option.some.injEq,Addr.mk.injEq,and_self,and_true] at h3;subst h3;exact ⟨b',h4,h2⟩
theorem qen {id:Nat} {v:Value} {o:Ob} (hM:M id=some o) (ho:o ≠ .gone) (h:zn P w F (qp M γ) (.own id) v):v=γ id:=by
 simp only [zn] at h;unfold qp at h;rw [hM] at h;cases o<;>simp_all
theorem qe2 (a:Addr) (i j:Nat):(a.add i).add j=a.add (i+j):=by
 unfold Addr.add;by_cases hi:i=0<;>by_cases hj:j=0<;>simp [hi,hj,Nat.add_assoc]
theorem qbf (b off j:Nat):(⟨b,off,none⟩:Addr).add j=⟨b,off+j,none⟩:=by unfold Addr.add; split<;>simp_all
theorem qn3 {b:Nat} {arr:Array Value} {e:TypeId} {fr:Nat×Nat} (h:w.heap[b]? = some (.cells arr e fr)) (j:Nat):w.cell? ⟨b,j,none⟩=arr[j]? := by simp [World.cell?,h]
theorem zy5 {t:Ty} {l:List t.den} {xs:List Value} {i:Nat} (h:yq w F t l xs) (hi:i<l.length):qu P w F R (enc t (l.getD i t.dflt)) (fun j u=>xs[i*t.size+j]? = some u):=by
 have:=h i (l.getD i t.dflt) (by simp [List.getD,ua7 hi]);exact qs.enc t _ this
theorem zbw {t:Ty} {l:List t.den} {v:Value} {i:Nat} (h:qs w F (.sl t) l (fun _ u=>u=v)) (hi:i<l.length) :
  ∃ ad c,v = .slice (some ad) l.length c/\F ad.block/\qu P w F R (enc t (l.getD i t.dflt)) (fun j u=>w.cell? ((ad.add (i*t.size)).add j)=some u):=by
 obtain ⟨A,c,h1,h2,h3,h4⟩:=h;have hx:l[i]? = some (l.getD i t.dflt):=by simp [List.getD,ua7 hi]
 obtain ⟨ad,rfl,hf,h5⟩:=h4 i _ hx;exact ⟨ad,c,h1.symm,hf,(qs.enc (P:=P) (R:=R) t _ h5).turn fun j u _ h=>by rw [qe2]; exact h⟩
theorem qyf {id:Nat} {ety:TypeId} {t:Ty} {l:List t.den} {i:Nat} (hm:MemOK P B w F γ M) (hM:M id=some (.arr ety t l)) (hi:i<l.length) :
  ∃ b c arr,γ id = .slice (some ⟨b,0,none⟩) l.length c/\w.heap[b]? = some (.cells arr ety (0,0))/\¬ F b/\B<=b/\(i+1)*t.size<=arr.size /\
   qu P w F (qp M γ) (enc t (l.getD i t.dflt)) (fun j u=>arr[i*t.size+j]? = some u):=by
 obtain ⟨xs,h1,h2,h3,h4⟩:=hm.ob id _ hM;obtain ⟨hl,hn|⟨b,cap,cur,hv,hb,hh,hnc,_,hcs,ht⟩⟩:=h1
 ·omega
 ·refine ⟨b,cap,cur,hv,hh,h2 b (by rw [hv]; rfl),hb,?_,(zy5 h3 hi).turn fun j u hj hu=>?_⟩
  ·rw [hcs];exact uam _ (by omega)
  ·rw [← ht,uap] at hu;split at hu
   ·simpa using hu
   ·cases hu
theorem qpl {k:IntKind}:{cs:List AC} -> {ns:List Int}->qlw k cs=some ns->cs=ns.map (.int k)
 |[],ns,h=>by simp [qlw] at h; subst h; rfl
 |c::r,ns,h=>by
  unfold qlw at h;split at h
  ·simp_all
  ·rename_i k' n r' he;cases he;split at h
   ·rename_i hk;subst hk;cases hr:qlw k r with
    |none=>rw [hr] at h; simp at h
    |some ms=>
     rw [hr] at h;simp at h;subst h;rw [qpl hr];rfl
   ·cases h
  ·cases h
theorem zaj {i:Int} {p:Int×Nat}:{cs:List AC} -> {k:Int}->(qf1 k cs).find? (fun x=>x.1==i)=some p->k<=i/\cs[(i-k).toNat]? = some (.fn p.2 [])
 |[],_,h=>by simp [qf1] at h
 |c::r,k,h=>by
  have hrest:(qf1 (k+1) r).find? (fun x=>x.1==i)=some p->k<=i/\(c::r)[(i-k).toNat]? = some (.fn p.2 []):=fun h'=>by
   obtain ⟨h1,h2⟩:=zaj h';refine ⟨by omega,?_⟩;rw [show (i-k).toNat=(i-(k+1)).toNat+1 by omega];simpa using h2
  by_cases hc:∃ f,c = .fn f []
  ·obtain ⟨f,rfl⟩:=hc;have h':((k,f)::qf1 (k+1) r).find? (fun x=>x.1==i)=some p:=h;rw [List.find?_cons] at h';split at h'
   ·rename_i hk;have hk':k=i:=by simpa using hk
    cases h';rw [hk'];exact ⟨ua4 _,by simp⟩
   ·exact hrest h'
  ·have he:qf1 k (c::r)=qf1 (k+1) r:=by
    cases c with
    |fn f caps=>cases caps with
     |nil=>exact absurd ⟨f,rfl⟩ hc
     |cons _ _=>rfl
    |_=>rfl
   rw [he] at h;exact hrest h
theorem qvk {cs cs':List AC} {n:Nat} {i:Int} {nn:List Prop} {ad:Addr} (h:qq9.pickI cs n i=some (cs',nn)) (hn:qr nn) (hr:qu P w F R cs (fun j u=>w.cell? (ad.add j)=some u)) (h0:0<=i) (h1:i<n) :
  qu P w F R cs' (fun j u=>w.cell? ((ad.add i.toNat).add j)=some u):=by
 unfold qq9.pickI at h;split at h
 ·rename_i k seg hk hseg;split at h
  ·rename_i ns hns;simp only [ua0,ua9] at h;obtain ⟨rfl,_⟩:=h;obtain ⟨hl,hc⟩:=qir hseg hr;have he:=qpl hns;subst he;have hi:i.toNat<ns.length:=by simp at hl; omega
   obtain ⟨u,e1,e2,e3⟩:=hc.at_ (j:=i.toNat) (c:=.int k (ns.getD i.toNat 0)) (by simp [ua7 hi,List.getD]);exact ⟨⟨u,by show w.cell? ((ad.add i.toNat).add 0)=some u; rw [qe2]; simpa using e1,e2,e3⟩,trivial⟩
  ·cases h
 ·rename_i seg hk hseg;split at h<;>try trivial
  cases h;obtain ⟨p,hp⟩:=ub8.1 hn;obtain ⟨hl,hc⟩:=qir hseg hr;obtain ⟨h2,h3⟩:=zaj hp;rw [ufq] at h3;obtain ⟨u,e1,e2,vs,e3,e4,_⟩:=hc.at_ (j:=i.toNat) h3;have e5:vs = #[]:=Array.size_eq_zero_iff.mp e4;subst e5;refine ⟨⟨u,by show w.cell? ((ad.add i.toNat).add 0)=some u; rw [qe2]; simpa using e1,e2,?_⟩,trivial⟩;show u=fsV ((qf1 0 seg).find? (fun x=>x.1==i));rw [hp,e3];rfl
 ·cases h
theorem qxq {x:AV} {v:Value} {cs:List AC} {n:List Prop} (hm:MemOK P B w F γ M) (hsub:∀ i y,m i=some y->M i=some y) (h:qq9 m x=some (cs,n)) (hn:qr n) (hr:qz P w F (qp M γ) x v) :
  ∃ ad,v = .pointer (some ad)/\qu P w F (qp M γ) cs (fun j u=>w.cell? (ad.add j)=some u):=by
 unfold qq9 at h;split at h
 ·rename_i id off;split at h
  ·rename_i e cs' hmid;cases h;obtain ⟨b,arr,_,hv,hh,_,_,_,hc⟩:=qi8 hm (hsub _ _ hmid) hr.2;exact ⟨_,hv,(hc.drop_ off).turn fun j u _ hu=>by rw [qbf,qn3 hh]; exact hu⟩
  ·rename_i cs' hmid;cases h;obtain ⟨b,hv,_,hc⟩:=zcx hm (hsub _ _ hmid) hr.2;exact ⟨_,hv,(hc.drop_ off).turn fun j u _ hu=>by rw [qbf]; exact hu⟩
  ·cases h
 ·rename_i cs';cases h;obtain ⟨_,ad,hv,_,hc⟩:=hr;exact ⟨ad,hv,hc⟩
 ·rename_i id sz i off;obtain ⟨A,n0,c0,h3,h4⟩:=hr;split at h
  ·rename_i e t l hmid;split at h
   ·rename_i hsz;cases h;obtain ⟨b,c,arr,e1,e2,_,_,_,e6⟩:=qyf hm (hsub _ _ hmid) hn;unfold qp at h3;rw [hsub _ _ hmid] at h3;simp only [e1,Value.slice.injEq,Option.some.injEq] at h3;obtain ⟨rfl,_,_⟩:=h3;refine ⟨_,h4,(e6.drop_ off).turn fun j u _ hu=>?_⟩;rw [qe2,qbf,qn3 e2,← hu,← hsz];congr 1;omega
   ·cases h
  ·rename_i t l hmid;split at h
   ·rename_i hsz;cases h;have hob:=hm.ob id _ (hsub _ _ hmid);obtain ⟨ad,c,e1,e2,e3⟩:=zbw (P:=P) (R:=qp M γ) (v:=γ id) hob hn;unfold qp at h3;rw [hsub _ _ hmid] at h3;simp only [e1,Value.slice.injEq,Option.some.injEq] at h3;obtain ⟨rfl,_,_⟩:=h3;refine ⟨_,h4,(e3.drop_ off).turn fun j u _ hu=>?_⟩;rw [qe2] at hu ⊢;rw [← hu,← hsz];congr 2;omega
   ·cases h
  ·cases h
 ·rename_i base k i;obtain ⟨ad,h1,h2,h3,rfl⟩:=hr;refine ⟨_,rfl,?_⟩;split at h
  ·rename_i id off;split at h
   ·rename_i e cs' hmid;obtain ⟨b,arr,_,hv,hh,_,_,_,hc⟩:=qi8 hm (hsub _ _ hmid) h1;simp only [ucx,ua0] at hv;subst hv;exact qvk h hn ((hc.drop_ off).turn fun j u _ hu=>by rw [qbf,qn3 hh]; exact hu) h2 h3
   ·rename_i cs' hmid;obtain ⟨b,hv,_,hc⟩:=zcx hm (hsub _ _ hmid) h1;simp only [ucx,ua0] at hv;subst hv;exact qvk h hn ((hc.drop_ off).turn fun j u _ hu=>by rw [qbf]; exact hu) h2 h3
   ·cases h
  ·rename_i cs';obtain ⟨ad',hv,_,hc⟩:=h1;simp only [ucx,ua0] at hv;subst hv;exact qvk h hn hc h2 h3
  ·cases h
 ·cases h
theorem qvt {t:TypeId} {d:TypeDesc} (h:P.underlying t=some d):(isAgg t).run P w = .ok (vf P t) w:=by
 unfold isAgg vf;rw [Sem.run_bind,run_underlying h];cases d<;>simp [h]
theorem ke {t:TypeId} {i:TypeInfo} (h:P.info? t=some i):(sizeOf t).run P w = .ok (P.cellsOf t) w:=by
 simp [sizeOf,typeInfo,h,Program.cellsOf]
theorem za5 {t:TypeId} {x:AV} {v:Value} {e:Eff} (hm:MemOK P B w F γ M) (hsub:∀ i y,m i=some y->M i=some y) (h:zhh P t x m=some e) (hn:qr e.need) (hr:qz P w F (qp M γ) x v) :
  e.wr=[]/\∃ u,(Instr.loadAt t v).run P w = .ok u w/\qz P w F (qp M γ) e.v u:=by
 unfold zhh at h;split at h
 ·rename_i cs n hcs;split at h
  ·rename_i hi;obtain ⟨i,hi1⟩:=ub8.1 hi.1;obtain ⟨d,hd⟩:=ub8.1 hi.2;have key:∀ l,qr n->qu P w F (qp M γ) l (fun j u=>True)->True:=fun _ _ _=>trivial;split at h
   ·rename_i hw;split at h
    ·rename_i l hl;cases h;obtain ⟨ad,rfl,hc⟩:=qxq hm hsub hcs hn hr;obtain ⟨e1,e2⟩:=qir hl hc;obtain ⟨us,f1,f2,f3,_⟩:=e2.vals;refine ⟨rfl,.agg us.toArray,?_,us.toArray,rfl,by simpa using f1,by simpa using f3⟩;have hlc:=run_loadCells_list (P:=P) w ad us (fun j u hu=>by have:=f2 j u hu; simpa using this);simp [Instr.loadAt,Instr.sureAddr,loadVar,qvt hd,hw,ke hi1,← e1,← f1,hlc]
    ·cases h
   ·rename_i hw;split at h
    ·rename_i a r;cases h;obtain ⟨ad,rfl,⟨u,e1,e2,e3⟩,_⟩:=qxq hm hsub hcs hn hr;refine ⟨rfl,u,?_,e2,e3⟩;have e1':w.cell? ad=some u:=by simpa [Addr.add] using e1
     have hw':vf P t=false:=by simpa using hw
     simp [Instr.loadAt,Instr.sureAddr,loadVar,qvt hd,hw',load,Sem.run,e1']
    ·cases h
  ·cases h
 ·cases h
end
end Go.Ab

namespace Go.Ab
open Go Go.RowKit
theorem wq (k:IntKind) (n:Int):inR k (k.wrap n):=by
 unfold inR IntKind.wrap IntKind.min IntKind.max;cases k<;>simp [IntKind.signed,IntKind.bits]<;>first|omega|(split<;>omega)
theorem zna (k:IntKind):k.min<=0/\0<=k.max:=by cases k<;>simp [IntKind.min,IntKind.max,IntKind.signed,IntKind.bits]
theorem yfh (k:IntKind) {a b:Int} (ha:inR k a):inR k (a.tmod b):=by
 have hz:=zna k;have hn:(a.tmod b).natAbs<=a.natAbs:=by rw [Int.natAbs_tmod]; exact Nat.mod_le _ _
 unfold inR at *;rcases Int.le_total 0 a with h|h
 ·have h1:=Int.tmod_nonneg b h;omega
 ·have h1:0<=(-a).tmod b:=Int.tmod_nonneg b (by omega);rw [Int.neg_tmod] at h1;omega
theorem yb6 (k:IntKind) {a:Int} (n:Nat) (ha:inR k a):inR k (a.fdiv (2 ^ n)):=by
 have hz:=zna k;have hp:(0:Int)<2 ^ n:=Int.pow_pos (by omega);rw [Int.fdiv_eq_ediv_of_nonneg _ (by omega)];unfold inR at *;rcases Int.le_total 0 a with h|h
 ·have h1:=Int.ediv_nonneg h (ubs hp);have h2:=Int.ediv_le_self (2 ^ n) h;omega
 ·have h1:a/2 ^ n<=0:=Int.ediv_nonpos_of_nonpos_of_neg h (by omega);have h2:a<=a/2 ^ n:=by
   refine Int.le_ediv_of_mul_le hp ?_;have:=Int.mul_le_mul_of_nonpos_left (a:=a) (b:=2 ^ n) (c:=1) h (by omega);omega
  omega
section
variable {P:Program} {B:Nat} {o:Oper} {a:Act} {w w':World} {F F':Nat->Prop} {γ γ':Nat->Value} {M m:Mem} {R:Nat->Value->Prop}
theorem qkt {t:TypeId} {cs:Array Value} {off:Nat} {i:TypeInfo} {d:TypeDesc} (hd:P.underlying t=some d) (hi:P.info? t=some i) (hl:off+(if vf P t then P.cellsOf t else 1)<=cs.size) :
  (part t cs off).run P w = .ok (if vf P t then .agg (cs.extract off (off+P.cellsOf t)) else cs.getD off undef) w:=by
 unfold part;rw [Sem.run_bind,qvt hd];cases hw:vf P t
 ·simp only [hw] at hl;have:off<cs.size:=by simp only [ubt,ub3] at hl; omega
  simp [Array.getD,this]
 ·simp [ke hi]
theorem qoj {t:TypeId} {cs:Array Value} {xs l:List AC} {off n:Nat} (hn:n=if vf P t then P.cellsOf t else 1) (hs:cs.size=xs.length) (hr:qu P w F R xs (fun j u=>cs[j]? = some u)) (h:qe6 xs off n=some l) :
  off+n<=cs.size/\∃ us:List Value,us.length=l.length/\qu P w F R l (fun j u=>us[j]? = some u)/\(if vf P t then .agg (cs.extract off (off+P.cellsOf t)) else cs.getD off undef)=(if vf P t then .agg us.toArray else us.headD undef)/\l.length=n:=by
 have h1:off+n<=xs.length:=by
  unfold qe6 at h;split at h
  ·assumption
  ·cases h
 obtain ⟨e1,e2⟩:=qir h hr;refine ⟨by omega,(cs.toList.drop off).take n,by rw [uae,ubl,e1,uad]; omega,e2.turn fun j u hj hu=>?_,?_,e1⟩
 ·have:j<n:=by omega
  rw [uap,if_pos this,ubd];simpa using hu
 ·subst hn;split
  ·congr 1;rw [← udx];simp [Array.toList_extract,List.extract]
  ·rename_i hw;have h2:off+1<=xs.length:=by simpa [hw] using h1
   have:off<cs.size:=by omega
   simp [Array.getD,this,List.headD];rw [ubp (by simpa using this)];simp
def qnh (d:Nat) (e:TypeId) (n:Nat) (xs ys:Array Value):List Nat->Sem Bool
 |[]=>pure true
 |i::r=>do
  let a ← part e xs (i*n)
  let b ← part e ys (i*n)
  let q ← Op.equalIn d e a b
  if (!q)=true then pure false else qnh d e n xs ys r
theorem qxp (d:Nat) (t e:TypeId) (len:Nat) {ti:TypeInfo} (xs ys:Array Value) (ht:P.underlying t=some (.array len e)) (hi:P.info? e=some ti) :
  (Op.equalIn (d+1) t (.agg xs) (.agg ys)).run P w=(qnh d e (P.cellsOf e) xs ys (List.range len)).run P w:=by
 simp only [Op.equalIn,ub4,uah ht,ubm,ke hi];rw [Std.Legacy.Range.forIn_eq_forIn_range'];have:List.range' 0 len 1=List.range len:=List.range_eq_range'.symm;simp only [Std.Legacy.Range.size,Nat.sub_zero,ueu,Nat.div_one];rw [this];generalize List.range len=l;clear ht this
 induction l generalizing w with
 |nil=>simp [qnh]
 |cons i l ih=>
  simp only [List.forIn_cons,qnh,ub4,Sem.run_ite];generalize (part e xs (i*P.cellsOf e)).run P w=r1;cases r1 with
  |ok a w1=>
   simp only [ubm];generalize (part e ys (i*P.cellsOf e)).run P w1=r2;cases r2 with
   |ok b w2=>
    simp only [ubm];generalize (Op.equalIn d e a b).run P w2=r3;cases r3 with
    |ok r w3=>
     cases r
     ·simp only [ubm,Bool.not_false,if_true,ud4]
     ·simp only [ubm,Bool.not_true,ubt,ub3,ud4];exact ih
    |halt x w3=>simp [Result.andThen]
   |halt x w2=>simp [Result.andThen]
  |halt x w1=>simp [Result.andThen]
theorem zdt:(n:Nat) -> {t:TypeId} -> {xs ys:List AC} -> {r:Bool}->eqT P n t xs ys=some r->(d:Nat)->n<=d->(us vs:List Value)->us.length=xs.length->vs.length=ys.length ->
  qu P w F R xs (fun j u=>us[j]? = some u)->qu P w F R ys (fun j u=>vs[j]? = some u) ->
  (Op.equalIn d t (if vf P t then .agg us.toArray else us.headD undef) (if vf P t then .agg vs.toArray else vs.headD undef)).run P w = .ok r w
 |0,t,xs,ys,r,h,d,hd,us,vs,hu,hv,hx,hy=>by simp [eqT] at h
 |n+1,t,xs,ys,r,h,d,hd,us,vs,hu,hv,hx,hy=>by
  obtain ⟨d,rfl⟩:∃ d',d=d'+1:=⟨d-1,by omega⟩;unfold eqT at h;split at h
  ·rename_i ht;split at h
   ·rename_i a b;cases h;obtain ⟨⟨u,e1,_,rfl⟩,_⟩:=hx;obtain ⟨⟨v,f1,_,rfl⟩,_⟩:=hy;have hw:vf P t=false:=by simp [vf,ht]
    have e2:us.headD undef = .bool a:=by cases us<;>simp_all
    have f2:vs.headD undef = .bool b:=by cases vs<;>simp_all
    simp only [hw,e2,f2];exact ufr w d t a b ht
   ·cases h
  ·rename_i k0 ht;split at h
   ·rename_i k a k' b;split at h
    ·rename_i hk;subst hk;cases h;obtain ⟨⟨u,e1,_,rfl,_⟩,_⟩:=hx;obtain ⟨⟨v,f1,_,rfl,_⟩,_⟩:=hy;have hw:vf P t=false:=by simp [vf,ht]
     have e2:us.headD undef = .int k a:=by cases us<;>simp_all
     have f2:vs.headD undef = .int k b:=by cases vs<;>simp_all
     simp only [hw,e2,f2];exact run_equalIn_int w d t k k0 a b ht
    ·cases h
   ·cases h
  ·rename_i fs ht;split at h
   ·cases h
   ·rename_i hst;have hw:vf P t=true:=by simp [vf,ht]
    simp only [hw,if_true];have hfo:P.fieldsOf t=fs:=by simp [Program.fieldsOf,ht]
    rw [run_equalIn_struct w d t us.toArray vs.toArray (by rw [hfo]; exact ht) (by simpa using hst),hfo];clear hfo hst ht hw;generalize fs.toList=l at h
    induction l generalizing r with
    |nil=>
     simp only [List.foldr_nil,ua0] at h;subst h;simp [Op.eqFields]
    |cons f l ih=>
     simp only [ufs] at h;split at h
     ·rename_i hf;simp only [Op.eqFields,hf];simpa using ih _ h
     ·rename_i hf;split at h
      ·rename_i hi;obtain ⟨di,hi1⟩:=ub8.1 hi.1;obtain ⟨ti,hi2⟩:=ub8.1 hi.2;split at h
       ·rename_i x y hgx hgy;split at h
        ·rename_i p q hp hq;cases h;obtain ⟨b1,us',b2,b3,b4,b5⟩:=qoj (t:=f.type) (cs:=us.toArray) rfl (by simpa using hu) (by simpa using hx) hgx;obtain ⟨c1,vs',c2,c3,c4,c5⟩:=qoj (t:=f.type) (cs:=vs.toArray) rfl (by simpa using hv) (by simpa using hy) hgy;have hrec:=zdt n hp d (by omega) us' vs' b2 c2 b3 c3;simp only [Op.eqFields,if_pos hf,ub4,qkt hi1 hi2 b1,qkt hi1 hi2 c1,ubm,b4,c4,hrec];cases p
         ·simp
         ·simpa using ih _ hq
        ·cases h
       ·cases h
      ·cases h
  ·rename_i len e ht;split at h
   ·rename_i hi;obtain ⟨di,hi1⟩:=ub8.1 hi.1;obtain ⟨ti,hi2⟩:=ub8.1 hi.2;have hw:vf P t=true:=by simp [vf,ht]
    simp only [hw,if_true];rw [qxp d t e len us.toArray vs.toArray ht hi2];clear hw ht;generalize List.range len=l at h
    induction l generalizing r with
    |nil=>
     simp only [List.foldr_nil,ua0] at h;subst h;simp [qnh]
    |cons i l ih=>
     simp only [ufs] at h;split at h
     ·rename_i x y hgx hgy;split at h
      ·rename_i p q hp hq;cases h;obtain ⟨b1,us',b2,b3,b4,b5⟩:=qoj (t:=e) (cs:=us.toArray) rfl (by simpa using hu) (by simpa using hx) hgx;obtain ⟨c1,vs',c2,c3,c4,c5⟩:=qoj (t:=e) (cs:=vs.toArray) rfl (by simpa using hv) (by simpa using hy) hgy;have hrec:=zdt n hp d (by omega) us' vs' b2 c2 b3 c3;simp only [qnh,ub4,qkt hi1 hi2 b1,qkt hi1 hi2 c1,ubm,b4,c4,hrec];cases p
       ·simp
       ·simpa using ih _ hq
      ·cases h
     ·cases h
   ·cases h
  ·cases h
theorem zr1 {op:BinOp} {k:IntKind} {x y:Int} {r:Bool} (h:ybl op x y=some r) (t:TypeId) (X Y:Operand) :
  (do eqGuard op t X Y (.int k x) (.int k y); binOp op t (.int k x) (.int k y):Sem Value).run P w = .ok (.bool r) w:=by
 unfold ybl at h;split at h<;>simp only [Option.some.injEq,reduceCtorEq] at h<;>subst h<;>simp [eqGuard_at_int,binOp,Op.intCmp]
theorem zrc {op:BinOp} {t:TypeId} {x y:AV} {vx vy:Value} {c:AC} {n:List Prop} (h:ya6 P op t x y=some (c,n)) (hn:qr n) (hx:qz P w F R x vx) (hy:qz P w F R y vy) (X Y:Operand) :
  ∃ u,(do eqGuard op t X Y vx vy; binOp op t vx vy:Sem Value).run P w = .ok u w/\u.oneCell'=true/\zn P w F R c u:=by
 unfold ya6 at h;split at h
 ·rename_i k a k' b;obtain ⟨_,rfl,ha⟩:=hx;obtain ⟨_,rfl,hb⟩:=hy;split at h
  ·rename_i hk;have key:∀ op',op'=op->(op' ≠ .shl/\op' ≠ .shr)->k=k':=by
    rintro op' rfl ⟨h1,h2⟩;rcases hk with hk|hk
    ·exact hk
    ·cases op'<;>simp_all [yn5]
   unfold ymy at h;split at h
   ·obtain rfl:=key _ rfl (by simp);cases h;exact ⟨_,by simp [uci,binOp,Op.intArith],rfl,rfl,wq _ _⟩
   ·obtain rfl:=key _ rfl (by simp);cases h;exact ⟨_,by simp [uci,binOp,Op.intArith],rfl,rfl,wq _ _⟩
   ·obtain rfl:=key _ rfl (by simp);cases h;exact ⟨_,by simp [uci,binOp,Op.intArith],rfl,rfl,wq _ _⟩
   ·obtain rfl:=key _ rfl (by simp);cases h;exact ⟨_,by have hn:=hn; simp only [qr] at hn; simp [uci,binOp,Op.intDiv,hn],rfl,rfl,wq _ _⟩
   ·obtain rfl:=key _ rfl (by simp);cases h;exact ⟨_,by have hn:=hn; simp only [qr] at hn; simp [uci,binOp,Op.intDiv,hn],rfl,rfl,yfh _ ha⟩
   ·obtain rfl:=key _ rfl (by simp);cases h;exact ⟨_,by simp [uci,binOp,Op.intBits],rfl,rfl,wq _ _⟩
   ·obtain rfl:=key _ rfl (by simp);cases h;exact ⟨_,by simp [uci,binOp,Op.intBits],rfl,rfl,wq _ _⟩
   ·obtain rfl:=key _ rfl (by simp);cases h;exact ⟨_,by simp [uci,binOp,Op.intBits],rfl,rfl,wq _ _⟩
   ·obtain rfl:=key _ rfl (by simp);cases h;exact ⟨_,by simp [uci,binOp,Op.intBits],rfl,rfl,wq _ _⟩
   ·cases h;exact ⟨_,by have hn:=hn; simp only [qr] at hn; simp [uci,binOp,Op.shift,hn],rfl,rfl,wq _ _⟩
   ·cases h;exact ⟨_,by have hn:=hn; simp only [qr] at hn; simp [uci,binOp,Op.shift,hn],rfl,rfl,yb6 _ _ ha⟩
   ·obtain rfl:=key _ rfl ⟨by assumption,by assumption⟩;split at h
    ·rename_i r hr;cases h;exact ⟨_,zr1 hr t X Y,rfl,rfl⟩
    ·cases h
  ·cases h
 ·rename_i a b;obtain ⟨_,rfl⟩:=hx;obtain ⟨_,rfl⟩:=hy;split at h
  ·split at h
   ·rename_i ht;simp only at h; obtain ⟨rfl,rfl⟩:=h;have ht':P.underlying t=some .bool:=by revert ht; cases P.underlying t with
     |none=>simp
     |some d=>cases d<;>simp
    exact ⟨_,by simp [eqGuard_at_bool,binOp,Op.equal,Op.maxDepth,ufr w 9999 t a b ht'],rfl,rfl⟩
   ·cases h
  ·split at h
   ·rename_i ht;simp only at h; obtain ⟨rfl,rfl⟩:=h;have ht':P.underlying t=some .bool:=by revert ht; cases P.underlying t with
     |none=>simp
     |some d=>cases d<;>simp
    exact ⟨_,by simp [eqGuard_at_bool,binOp,Op.equal,Op.maxDepth,ufr w 9999 t a b ht'],rfl,rfl⟩
   ·cases h
  ·cases h
 ·rename_i xs ys;obtain ⟨us,rfl,e1,e2⟩:=hx;obtain ⟨vs,rfl,f1,f2⟩:=hy;split at h
  ·rename_i hg;split at h
   ·rename_i r hr;have hq:=zdt 20 hr 10000 (by omega) us.toList vs.toList (by simpa using e1) (by simpa using f1) (by simpa using e2) (by simpa using f2);simp only [hg.2,if_true,uev] at hq;split at h
    ·cases h;exact ⟨_,by simp [ub4,run_eqGuard_agg w _ t X Y us vs hg.1,run_eql_struct,hq],rfl,rfl⟩
    ·cases h;exact ⟨_,by simp [ub4,run_eqGuard_agg w _ t X Y us vs hg.1,run_neq_struct,hq],rfl,rfl⟩
    ·cases h
   ·cases h
  ·cases h
 ·cases h
end
end Go.Ab

namespace Go.Ab
open Go Go.RowKit
section
variable {P:Program} {B:Nat} {o:Oper} {a:Act} {w w':World} {F F':Nat->Prop} {γ γ':Nat->Value} {M m:Mem} {R:Nat->Value->Prop}
theorem zh6 (v:Value):zn P w F R (zh5 v) v:=by
 unfold zh5;split
 ·split
  ·rename_i h;exact ⟨rfl,h⟩
  ·trivial
 ·rfl
 ·split
  ·rename_i h;exact ⟨rfl,h⟩
  ·trivial
 ·rfl
 ·trivial
theorem zvt (vs:List Value) (h:∀ v∈vs,v.oneCell'=true):qu P w F R (vs.map zh5) (fun j u=>vs[j]? = some u):=
 qu.of_at _ fun j c hc=>by
  rw [udi] at hc;cases hv:vs[j]? with
  |none=>rw [hv] at hc; simp at hc
  |some v=>
   rw [hv] at hc;simp only [udj,ua0] at hc;subst hc;exact ⟨v,rfl,h v (ube hv),zh6 v⟩
theorem qr2 (v:Value):qz P w F R (qua v) v:=by
 unfold qua;split
 ·rename_i cs;split
  ·rename_i h;refine ⟨cs,rfl,by simp,?_⟩;have:=zvt (P:=P) (w:=w) (F:=F) (R:=R) cs.toList (fun v hv=>ucj.1 h v hv);simpa using this
  ·trivial
 ·trivial
 ·rename_i h1 h2;refine ⟨?_,zh6 v⟩;cases v<;>first|rfl|(exact absurd rfl (h1 _))|(exact absurd rfl (h2 _))
theorem qgy {x:AV} {v:Value} {cs:List AC} (h:qln x=some cs) (hr:qz P w F R x v):v.cells.size=cs.length/\qu P w F R cs (fun j u=>v.cells[j]? = some u)/\(∀ u∈v.cells,u.oneCell'=true):=by
 unfold qln at h;split at h
 ·cases h;have hv:v.cells = #[v]:=by
   have:=hr.1;cases v<;>first|rfl|simp [Value.oneCell'] at this
  rw [hv];exact ⟨rfl,⟨⟨v,rfl,hr.1,hr.2⟩,trivial⟩,by simpa using hr.1⟩
 ·cases h;obtain ⟨arr,rfl,h1,h2⟩:=hr;refine ⟨h1,h2,fun u hu=>?_⟩;obtain ⟨us,e1,e2,e3,e4⟩:=h2.vals;have:us=arr.toList:=by
   apply List.ext_getElem?;intro j;rcases uar j us.length with hj|hj
   ·have:=e2 j us[j] (ua7 hj);rw [ua7 hj,← this];simp
   ·rw [ucy hj,ucy (by simp; omega)]
  subst this;exact e4 u (ued.2 hu)
 ·cases h
theorem zj9 (vs:List Value) (off:Nat):∀ (k:Nat) (cs:Array Value),
  ((vs.zipIdx k).foldl (fun cs (x:Value×Nat)=>cs.setIfInBounds (off+x.2) x.1) cs).size=cs.size /\
  ∀ j,((vs.zipIdx k).foldl (fun cs (x:Value×Nat)=>cs.setIfInBounds (off+x.2) x.1) cs)[j]? = if off+k<=j/\j<off+k+vs.length/\j<cs.size then vs[j-(off+k)]? else cs[j]? := by
 induction vs with
 |nil=>
  intro k cs;refine ⟨rfl,fun j=>?_⟩;simp only [List.zipIdx_nil,List.foldl_nil,ub9];rw [if_neg (by omega)]
 |cons v vs ih=>
  intro k cs;obtain ⟨e1,e2⟩:=ih (k+1) (cs.setIfInBounds (off+k) v);simp only [List.zipIdx_cons,List.foldl_cons];refine ⟨by rw [e1]; simp,fun j=>?_⟩;rw [e2];simp only [Array.size_setIfInBounds,uaf];by_cases h1:off+(k+1)<=j/\j<off+(k+1)+vs.length/\j<cs.size
  ·rw [if_pos h1,if_pos (by omega)];rw [show j-(off+k)=(j-(off+(k+1)))+1 from by omega,udy]
  ·rw [if_neg h1];by_cases h2:j=off+k
   ·subst h2;by_cases h3:off+k<cs.size
    ·rw [if_pos (by omega)];simp [h3]
    ·rw [if_neg (by omega)];simp [h3]
   ·rw [uew (by omega),if_neg (by omega)]
theorem qpr {cs cs' new:List AC} {off:Nat} {g g':Nat->Value->Prop} (h:qna cs off new=some cs') (hc:qu P w F R cs g) (hn:qu P w F R new (fun j u=>g' (off+j) u))
  (ho:∀ j u,(j<off∨off+new.length<=j)->g j u->g' j u):cs'.length=cs.length/\qu P w F R cs' g':=by
 unfold qna at h;split at h
 ·rename_i hl;cases h;refine ⟨by simp; omega,qu.of_at _ fun j c hj=>?_⟩;rcases uar j off with h1|h1
  ·rw [uc3 (by simp; omega),uc3 (by simp; omega),uap,if_pos h1] at hj;obtain ⟨u,e1,e2⟩:=hc.at_ hj;exact ⟨u,ho j u (.inl h1) e1,e2⟩
  ·rcases uar j (off+new.length) with h2|h2
   ·rw [uc3 (by simp; omega),ubr (by simp; omega)] at hj;simp only [uae] at hj;rw [show j-min off cs.length=j-off from by omega] at hj;obtain ⟨u,e1,e2⟩:=hn.at_ hj;rw [show off+(j-off)=j from by omega] at e1;exact ⟨u,e1,e2⟩
   ·rw [ubr (by simp; omega),ubd] at hj;rw [show off+new.length+(j-(cs.take off++new).length)=j from by simp; omega] at hj;obtain ⟨u,e1,e2⟩:=hc.at_ hj;exact ⟨u,ho j u (.inr h2) e1,e2⟩
 ·cases h
theorem qxv {pl:Nat->Option (Nat×Nat)}:{parts:List (Nat×AV)} -> {ps:List (Nat×Value)} -> {cs cs':List AC} -> {arr:Array Value}->zag pl cs parts=some cs'->ps.length=parts.length ->
  (∀ (k i:Nat) (x:AV) (v:Nat×Value),parts[k]? = some (i,x)->ps[k]? = some v->v.1=i/\qz P w F R x v.2)->arr.size=cs.length->qu P w F R cs (fun j u=>arr[j]? = some u) ->
  ∃ arr',Instr.fill pl arr ps=some arr'/\arr'.size=cs'.length/\qu P w F R cs' (fun j u=>arr'[j]? = some u)
 |[],[],cs,cs',arr,h,_,_,hs,hc=>by
  simp only [zag,ua0] at h;subst h;exact ⟨arr,rfl,hs,hc⟩
 |(i,x)::r,(i',v)::ps,cs,cs',arr,h,hl,hp,hs,hc=>by
  obtain ⟨rfl,hv⟩:=hp 0 i x (i',v) rfl rfl;simp only at hv;simp only [zag] at h;split at h
  ·rename_i off n new hpl hnew;split at h
   ·rename_i hn;split at h
    ·rename_i cs1 hput;obtain ⟨e1,e2,_⟩:=qgy hnew hv;have hb:off+new.length<=cs.length:=by
      unfold qna at hput;split at hput
      ·assumption
      ·cases hput
     obtain ⟨f1,f2⟩:=zj9 v.cells.toList off 0 arr;have hz:v.cells.zipIdx.foldl (fun cs (x:Value×Nat)=>cs.setIfInBounds (off+x.2) x.1) arr=(v.cells.toList.zipIdx 0).foldl (fun cs (x:Value×Nat)=>cs.setIfInBounds (off+x.2) x.1) arr:=by
      rw [← Array.foldl_toList,Array.toList_zipIdx]
     obtain ⟨g1,g2⟩:=qpr (g':=fun j u=>((v.cells.toList.zipIdx 0).foldl (fun cs (x:Value×Nat)=>cs.setIfInBounds (off+x.2) x.1) arr)[j]? = some u) hput hc
      (e2.turn fun j u hj hu=>by
       simp only [f2];rw [if_pos (by simp; omega)];rw [show off+j-(off+0)=j from by omega];simpa using hu)
      (fun j u hj hu=>by
       simp only [f2];rw [if_neg (by simp; omega)];exact hu)
     obtain ⟨arr',k1,k2,k3⟩:=qxv (ps:=ps) h (by simpa using hl) (fun k i x v h1 h2=>hp (k+1) i x v (by simpa using h1) (by simpa using h2)) (by rw [f1,hs,g1]) g2;refine ⟨arr',?_,k2,k3⟩;simp only [Instr.fill,hpl];rw [if_neg (by simp; omega)];rw [← k1];congr 1
    ·cases h
   ·cases h
  ·cases h
 |[],_::_,_,_,_,_,hl,_,_,_=>by simp at hl
 |_::_,[],_,_,_,_,hl,_,_,_=>by simp at hl
theorem zdv (fs:List Field) (h:∀ f∈fs,(P.info? f.type).isSome=true) :
  (fs.mapM (m:=Sem) fun f=>(do pure (f.offset,← sizeOf f.type):Sem (Nat×Nat))).run P w = .ok (fs.map fun f=>(f.offset,P.cellsOf f.type)) w:=by
 induction fs with
 |nil=>simp
 |cons f fs ih=>
  obtain ⟨i,hi⟩:=ub8.1 (h f (by simp));rw [List.mapM_cons];have ih':=ih (fun g hg=>h g (by simp [hg]));rw [ub4,ub4,ke hi];simp only [ubm,ud4];rw [ub4,ih'];simp
theorem znf {t:TypeId} {parts:List (Nat×AV)} {ps:Array (Nat×Value)} {x:AV} (h:zig P t parts=some x) (hl:ps.size=parts.length)
  (hp:∀ (k i:Nat) (x:AV) (v:Nat×Value),parts[k]? = some (i,x)->ps[k]? = some v->v.1=i/\qz P w F R x v.2) :
  ∃ u,(Instr.build t ps).run P w = .ok u w/\qz P w F R x u:=by
 unfold zig at h;split at h
 ·rename_i z pl hz hpl;split at h
  ·rename_i cs hcs;split at h
   ·rename_i cs' hfill;cases h;cases hi:P.info? t with
    |none=>simp [hi] at hz
    |some ti=>
     simp only [hi,uee] at hz;have hzr:=qr2 (P:=P) (w:=w) (F:=F) (R:=R) z;obtain ⟨e1,e2,_⟩:=qgy hcs hzr;have hzv:(zeroValue t).run P w = .ok z w:=by simp [zeroValue,typeInfo,hi,hz]
     obtain ⟨arr',k1,k2,k3⟩:=qxv (ps:=ps.toList) hfill (by simpa using hl) (fun k i x v h1 h2=>hp k i x v h1 (by simpa using h2)) e1 e2;refine ⟨.agg arr',?_,arr',rfl,k2,k3⟩;unfold zp9 at hpl;split at hpl
     ·rename_i fs hfs;split at hpl
      ·rename_i hall;cases hpl;have hm:=zdv (P:=P) (w:=w) fs.toList (fun f hf=>ucj.1 hall f hf);have hm':(fs.mapM (m:=Sem) fun (f:Field)=>(do pure (f.offset,← sizeOf f.type):Sem (Nat×Nat))).run P w = .ok (fs.map fun (f:Field)=>(f.offset,P.cellsOf f.type)) w:=by
        rw [Array.mapM_eq_mapM_toList];rw [Sem.run_map,hm];simp only [ubm];congr 1;rw [← udx];simp
       have:(fun (i:Nat)=>(fs.map fun (f:Field)=>(f.offset,P.cellsOf f.type))[i]?)=(fun i=>(fs[i]?).map fun f=>(f.offset,P.cellsOf f.type)):=by
        funext i;simp
       simp only [Instr.build,ub4,hzv,ubm,uah hfs];rw [hm'];simp only [ubm,this,k1];rfl
      ·cases hpl
     ·rename_i len e hfs;split at hpl
      ·rename_i hie;obtain ⟨ei,hei⟩:=ub8.1 hie;cases hpl;simp [Instr.build,hzv,uah hfs,ke hei,k1]
      ·cases hpl
     ·cases hpl
   ·cases h
  ·cases h
 ·cases h
end
end Go.Ab

namespace Go.Ab
open Go Go.RowKit
section
variable {P:Program} {B:Nat} {o:Oper} {a:Act} {w w':World} {F F':Nat->Prop} {γ γ':Nat->Value} {M m:Mem} {R:Nat->Value->Prop}
theorem zaf {s:TypeId} {f:Nat} {fd:Field} (h:qni P s f=some fd):∃ fs,P.underlying s=some (.struct fs)/\fs[f]? = some fd:=by
 unfold qni at h;split at h
 ·exact ⟨_,by assumption,h⟩
 ·cases h
theorem zdu {fd:Field} {ad:Addr} {i:TypeInfo} (hi:P.info? fd.type=some i) (hs:P.cellsOf fd.type≠0):(fieldPlace ad fd).run P w = .ok (ad.add fd.offset) w:=by
 simp [fieldPlace,ke hi,hs]
theorem qqs {s:TypeId} {f:Nat} {fd:Field} {ad:Addr} (h:qni P s f=some fd) (hi:(P.info? fd.type).isSome=true) (hs:P.cellsOf fd.type≠0) :
  (Instr.fieldAt s (.pointer (some ad)) f).run P w = .ok (.pointer (some (ad.add fd.offset))) w:=by
 obtain ⟨fs,h1,h2⟩:=zaf h;obtain ⟨i,hi'⟩:=ub8.1 hi;simp [Instr.fieldAt,uah h1,h2,Instr.sureAddr,zdu hi' hs]
theorem qf6 (ad:Addr) (n:Nat):(ad.add n).block=ad.block:=by unfold Addr.add; split<;>rfl
theorem zae {s:TypeId} {f:Nat} {x y:AV} {v:Value} (h:qsn P s x f=some y) (hr:qz P w F R x v) :
  ∃ u,(Instr.fieldAt s v f).run P w = .ok u w/\qz P w F R y u:=by
 unfold qsn at h;split at h
 ·rename_i fd hf;split at h
  ·rename_i hc;split at h<;>try trivial
   ·rename_i id off;cases h;obtain ⟨_,b,h1,rfl⟩:=hr;exact ⟨_,qqs hf hc.1 hc.2,rfl,b,h1,by rw [qbf]⟩
   ·rename_i cs;cases h;obtain ⟨_,ad,rfl,h2,h3⟩:=hr;exact ⟨_,qqs hf hc.1 hc.2,rfl,_,rfl,by rw [qf6]; exact h2,(h3.drop_ _).turn fun j u _ hu=>by rw [qe2]; exact hu⟩
   ·rename_i id sz i off;cases h;obtain ⟨A,n,c,h1,rfl⟩:=hr;exact ⟨_,qqs hf hc.1 hc.2,A,n,c,h1,by rw [qe2,uc4]⟩
  ·cases h
 ·cases h
theorem zog {wide:Bool} {cs:List AC} {x:AV} {us:List Value} (h:qw7 wide cs=some x) (hl:us.length=cs.length) (hr:qu P w F R cs (fun j u=>us[j]? = some u)) :
  qz P w F R x (if wide then .agg us.toArray else us.headD undef):=by
 unfold qw7 at h;cases wide
 ·simp only [ubt,ub3] at h ⊢;split at h
  ·rename_i c;cases h;obtain ⟨⟨u,e1,e2,e3⟩,_⟩:=hr;have:us.headD undef=u:=by cases us<;>simp_all
   rw [this];exact ⟨e2,e3⟩
  ·cases h
 ·simp only [if_true,ua0] at h ⊢;subst h;exact ⟨us.toArray,rfl,by simpa using hl,by simpa using hr⟩
theorem zny {s:TypeId} {f:Nat} {fd:Field} {cs l:List AC} {x:AV} {v:Value} (hf:qni P s f=some fd) (hi:(P.info? fd.type).isSome=true/\(P.underlying fd.type).isSome=true)
  (hg:qe6 cs fd.offset (if vf P fd.type then P.cellsOf fd.type else 1)=some l) (hx:qw7 (vf P fd.type) l=some x) (hr:qz P w F R (.agg cs) v) :
  ∃ u,(Instr.field s v f).run P w = .ok u w/\qz P w F R x u:=by
 obtain ⟨fs,h1,h2⟩:=zaf hf;obtain ⟨i,hi1⟩:=ub8.1 hi.1;obtain ⟨d,hi2⟩:=ub8.1 hi.2;obtain ⟨arr,rfl,e1,e2⟩:=hr;obtain ⟨b1,us,b2,b3,b4,_⟩:=qoj (t:=fd.type) rfl e1 e2 hg;refine ⟨_,?_,zog hx b2 b3⟩;simp only [Instr.field,ub4,uah h1,ubm,h2,asAgg,ud4,qkt hi2 hi1 b1,b4]
theorem qxz {t e:TypeId} {ti:TypeInfo} {ad:Addr} {n c:Nat} {k:IntKind} {i:Int} (ht:P.underlying t=some (.slice e)) (he:P.info? e=some ti) (h:0<=i/\i<n) :
  (Instr.indexAt t (.slice (some ad) n c) (.int k i)).run P w = .ok (.pointer (some (ad.add (i.toNat*P.cellsOf e)))) w:=by
 simp [Instr.indexAt,uah ht,asIntOf,h,ke he]
theorem qla {t e:TypeId} {ti:TypeInfo} {ad:Addr} {n:Nat} {k:IntKind} {i:Int} (ht:P.underlying t=some (.array n e)) (he:P.info? e=some ti) (h:0<=i/\i<n) :
  (Instr.indexAt t (.pointer (some ad)) (.int k i)).run P w = .ok (.pointer (some (ad.add (i.toNat*P.cellsOf e)))) w:=by
 simp [Instr.indexAt,uah ht,asIntOf,Instr.sureAddr,h,ke he]
theorem qv1 {tt:Ty} {l:List tt.den} {v:Value} {t e:TypeId} {ti:TypeInfo} {k:IntKind} {i:Int} (hr:qs w F (.sl tt) l (fun _ u=>u=v)) (ht:P.underlying t=some (.slice e)) (he:P.info? e=some ti)
  (hs:tt.size=P.cellsOf e) (hi:0<=i/\i<l.length):∃ u,(Instr.indexAt t v (.int k i)).run P w = .ok u w/\qz P w F R (.c (.sptr (enc tt (l.getD i.toNat tt.dflt)))) u:=by
 obtain ⟨ad,c,rfl,h2,h3⟩:=zbw (P:=P) (R:=R) (i:=i.toNat) hr (by omega);exact ⟨_,qxz ht he hi,rfl,_,rfl,by rw [qf6]; exact h2,h3.turn fun j u _ hu=>by rw [← hs]; exact hu⟩
theorem zn3 {t:TypeId} {x:AV} {k:IntKind} {i:Int} {e:Eff} {v:Value} (hm:MemOK P B w F γ M) (hsub:∀ i y,m i=some y->M i=some y) (h:zk4 P t x i m=some e) (hn:qr e.need) (hr:qz P w F (qp M γ) x v) :
  e.wr=[]/\∃ u,(Instr.indexAt t v (.int k i)).run P w = .ok u w/\qz P w F (qp M γ) e.v u:=by
 unfold zk4 at h;split at h
 ·rename_i el ht;split at h
  ·rename_i hel;obtain ⟨ti,he⟩:=ub8.1 hel;split at h<;>try trivial
   ·rename_i id;split at h<;>try trivial
    ·rename_i ety tt l hmid;split at h<;>try trivial
     rename_i hs;cases h;obtain ⟨b,c,arr,e1,e2,e3,e4,e5,e6⟩:=qyf (i:=i.toNat) hm (hsub _ _ hmid) (by have:=hn.1; have:=hn.2; omega);have hv:=qen (hsub _ _ hmid) (by simp) hr.2;subst hv;refine ⟨rfl,_,by rw [e1]; exact qxz ht he hn,⟨b,0,none⟩,l.length,c,?_,by rw [← hs]; rfl⟩;unfold qp;rw [hsub _ _ hmid];exact e1.symm
    ·rename_i tt l hmid;split at h<;>try trivial
     rename_i hs;cases h;have hv:=qen (hsub _ _ hmid) (by simp) hr.2;subst hv;exact ⟨rfl,qv1 (hm.ob id _ (hsub _ _ hmid)) ht he hs hn⟩
   ·rename_i tt l;split at h<;>try trivial
    rename_i hs;cases h;exact ⟨rfl,qv1 (by simpa only [qz,zn] using hr.2) ht he hs hn⟩
   ·rename_i tt l;split at h<;>try trivial
    rename_i hs;cases h;obtain ⟨_,A,_,h2⟩:=hr;exact ⟨rfl,qv1 h2 ht he hs hn⟩
  ·cases h
 ·rename_i n el ht;split at h
  ·rename_i hel;obtain ⟨ti,he⟩:=ub8.1 hel;split at h
   ·rename_i h1;split at h<;>try trivial
    ·rename_i id off;cases h;obtain ⟨_,b,f1,rfl⟩:=hr;exact ⟨rfl,_,qla ht he hn,⟨b,off,none⟩,⟨b,f1,rfl⟩,hn.1,hn.2,by rw [h1,Nat.mul_one]⟩
    ·rename_i cs;cases h;obtain ⟨_,ad,rfl,f2,f3⟩:=hr;exact ⟨rfl,_,qla ht he hn,ad,⟨ad,rfl,f2,f3⟩,hn.1,hn.2,by rw [h1,Nat.mul_one]⟩
   ·split at h<;>try trivial
    rename_i k';split at h<;>try trivial
    rename_i hk;have hb:(0:Int)<=Int.ofNat k'/\Int.ofNat k'<(n:Int):=⟨uak _,Int.ofNat_lt.2 hk⟩;split at h<;>try trivial
    ·rename_i id off;cases h;obtain ⟨_,b,f1,rfl⟩:=hr;exact ⟨rfl,_,qla ht he hb,rfl,b,f1,by rw [qbf]; rfl⟩
    ·rename_i cs;cases h;obtain ⟨_,ad,rfl,f2,f3⟩:=hr;exact ⟨rfl,_,qla ht he hb,rfl,_,rfl,by rw [qf6]; exact f2,(f3.drop_ _).turn fun j u _ hu=>by rw [qe2]; exact hu⟩
  ·cases h
 ·cases h
theorem qv0 {tt:Ty} {l:List tt.den} {v:Value} (hr:qs w F (.sl tt) l (fun _ u=>u=v)):∃ A c,v = .slice A l.length c/\l.length<=maxLen:=by
 obtain ⟨A,c,h1,h2,h3,_⟩:=hr;exact ⟨A,c,h1.symm,by omega⟩
theorem yke {id:Nat} {ety:TypeId} {t:Ty} {l:List t.den} (hm:MemOK P B w F γ M) (hM:M id=some (.arr ety t l)):∃ A c,γ id = .slice A l.length c/\l.length<=maxLen:=by
 obtain ⟨xs,⟨h1,h2⟩,_⟩:=hm.ob id _ hM;rcases h2 with ⟨h3,h4⟩|⟨g,cap,cur,h3,_,_,h4,h5,_⟩
 ·exact ⟨none,0,by rw [h3,h4],by omega⟩
 ·exact ⟨_,_,h3,by omega⟩
theorem ztl {c:AC} {tt:Ty} {l:List tt.den} {v:Value} (hm:MemOK P B w F γ M) (hsub:∀ i y,m i=some y->M i=some y) (h:qod m c=some ⟨tt,l⟩) (hr:zn P w F (qp M γ) c v) :
  ∃ A cap,v = .slice A l.length cap/\l.length<=maxLen:=by
 unfold qod at h;split at h<;>try trivial
 ·cases h;simp only [zn] at hr;exact qv0 hr
 ·cases h;obtain ⟨A,_,h2⟩:=hr;exact qv0 h2
 ·rename_i id;split at h<;>try trivial
  ·rename_i ety t' l' hmid;cases h;have hv:=qen (hsub _ _ hmid) (by simp) hr;subst hv;exact yke hm (hsub _ _ hmid)
  ·rename_i t' l' hmid;cases h;have hv:=qen (hsub _ _ hmid) (by simp) hr;subst hv;exact qv0 (hm.ob id _ (hsub _ _ hmid))
theorem zx1 {t:TypeId} {x:AV} {e:Eff} {v:Value} (hm:MemOK P B w F γ M) (hsub:∀ i y,m i=some y->M i=some y) (h:ydh P t x m=some e) (hr:qz P w F (qp M γ) x v) (ty:TypeId) :
  e.wr=[]/\∃ u,(Builtin.len_ #[t] ty #[v]).run P w = .ok u w/\qz P w F (qp M γ) e.v u:=by
 have hbig:∀ n:Nat,n<=maxLen->inR .i64 (n:Int):=fun n hn=>by
  simp only [maxLen] at hn;unfold inR;simp [IntKind.min,IntKind.max,IntKind.signed,IntKind.bits];omega
 unfold ydh at h;split at h
 ·rename_i el ht;split at h<;>try trivial
  ·cases h;obtain ⟨_,rfl⟩:=hr;exact ⟨rfl,_,by simp [Builtin.len_,uah ht,goInt],rfl,rfl,hbig 0 (by simp [maxLen])⟩
  ·rename_i c _;split at h<;>try trivial
   rename_i tt l hl;cases h;obtain ⟨A,cap,rfl,h2⟩:=ztl hm hsub hl hr.2;exact ⟨rfl,_,by simp [Builtin.len_,uah ht,goInt],rfl,rfl,hbig _ h2⟩
 ·rename_i ht;split at h<;>try trivial
  rename_i s;cases h;obtain ⟨_,rfl,h2⟩:=hr;exact ⟨rfl,_,by simp [Builtin.len_,uah ht,goInt],rfl,rfl,hbig _ h2⟩
 ·cases h
theorem zk6 {t:TypeId} {x:AV} {k:IntKind} {i:Int} {e:Eff} {v:Value} (h:zk5 P t x i=some e) (hn:qr e.need) (hr:qz P w F R x v) :
  e.wr=[]/\∃ u,(Instr.index t v (.int k i)).run P w = .ok u w/\qz P w F R e.v u:=by
 unfold zk5 at h;split at h
 ·rename_i ht;split at h<;>try trivial
  rename_i b;cases h;obtain ⟨h1,h2⟩:=hn;obtain ⟨_,hx⟩:=hr;simp only [zn] at hx;refine ⟨rfl,?_⟩;have hi:i.toNat<b.size:=by omega
  have hb:b[i.toNat]? = some (b[i.toNat]):=by simp [hi]
  have hd:b.data.getD i.toNat 0=b[i.toNat]:=by
   simp only [Array.getD];exact dif_pos hi
  refine ⟨.int .u8 b[i.toNat].toNat,?_,?_⟩
  ·rw [hx.1];simp [Instr.index,uah ht,asIntOf,h1,hb]
  ·refine ⟨rfl,?_⟩;simp only [zn,hd];have hlt:=b[i.toNat].toNat_lt;have e1:IntKind.u8.min=0:=by decide
   have e2:IntKind.u8.max=255:=by decide
   simp only [true_and];constructor<;>omega
 ·rename_i n el ht;split at h<;>try trivial
  rename_i hc;obtain ⟨c1,c2,c3,c4⟩:=hc;obtain ⟨ti,hti⟩:=ub8.1 c1;obtain ⟨d,hd⟩:=ub8.1 c2;split at h<;>try trivial
  rename_i cs;split at h<;>try trivial
  rename_i k' _;split at h<;>try trivial
  rename_i ns hns;split at h<;>try trivial
  rename_i hlen;cases h;obtain ⟨h1,h2⟩:=hn;obtain ⟨arr,rfl,e1,e2⟩:=hr;have he:=qpl hns;subst he;have hi:i.toNat<ns.length:=by omega
  obtain ⟨u,q1,q2,q3⟩:=e2.at_ (j:=i.toNat) (c:=.int k' (ns.getD i.toNat 0)) (by simp [ua7 hi,List.getD]);refine ⟨rfl,u,?_,q2,q3⟩;have hsz:arr.size=ns.length:=by simpa using e1
  have hp:=qkt (w:=w) (cs:=arr) (off:=i.toNat) hd hti (by rw [c4]; simp only [ubt,ub3]; omega);simp only [Instr.index,ub4,uah ht,ubm,asIntOf,ud4,h1,true_and,h2,if_true,ke hti,c3,Nat.mul_one,hp,c4,ubt,ub3];have:arr[i.toNat]? = some u:=q1
  simp_all
 ·cases h
end
end Go.Ab

namespace Go.Ab
open Go Go.RowKit
section
variable {P:Program} {B:Nat} {o:Oper} {a:Act} {w w':World} {F F':Nat->Prop} {γ γ':Nat->Value} {M m:Mem} {R:Nat->Value->Prop}
theorem qg1:(t:Ty) -> {cs:List AC} -> {x:t.den} -> {r:List AC}->dec t cs=some (x,r)->cs.length=t.size+r.length
 |.int k,cs,x,r,h=>by
  simp only [dec] at h;unfold zjb at h;split at h
  ·split at h
   ·simp only [ua0,ua9] at h;obtain ⟨_,rfl⟩:=h;simp [Ty.size,ub7]
   ·cases h
  ·cases h
 |.bool,cs,x,r,h=>by
  simp only [dec] at h;unfold zja at h;split at h
  ·simp only [ua0,ua9] at h;obtain ⟨_,rfl⟩:=h;simp [Ty.size,ub7]
  ·cases h
 |.str,cs,x,r,h=>by
  simp only [dec] at h;unfold zjd at h;split at h
  ·simp only [ua0,ua9] at h;obtain ⟨_,rfl⟩:=h;simp [Ty.size,ub7]
  ·cases h
 |.sl e,cs,x,r,h=>by
  simp only [dec] at h;unfold zjc at h;split at h
  ·split at h
   ·simp only [ua0,ua9] at h;obtain ⟨_,rfl⟩:=h;simp [Ty.size,ub7]
   ·cases h
  ·split at h
   ·simp only [ua0,ua9] at h;obtain ⟨_,rfl⟩:=h;simp [Ty.size,ub7]
   ·cases h
  ·simp only [ua0,ua9] at h;obtain ⟨_,rfl⟩:=h;simp [Ty.size,ub7]
  ·cases h
 |.unit,cs,x,r,h=>by
  simp only [dec,ua0,ua9] at h;obtain ⟨_,rfl⟩:=h;simp [Ty.size]
 |.pair a b,cs,x,r,h=>by
  simp only [dec] at h;split at h
  ·rename_i x1 r1 h1;split at h
   ·rename_i x2 r2 h2;simp only [ua0,ua9] at h;obtain ⟨_,rfl⟩:=h;have e1:=qg1 a h1;have e2:=qg1 b h2;simp only [Ty.size];omega
   ·cases h
  ·cases h
 |.fm es,cs,x,r,h=>by
  simp only [dec] at h;unfold zg9 at h;split at h<;>try trivial
  split at h<;>try trivial
  simp only [ua0,ua9] at h;obtain ⟨_,rfl⟩:=h;simp [Ty.size,ub7]
 |.ic es t,cs,x,r,h=>by
  simp only [dec] at h;unfold zg8 at h;split at h<;>try trivial
  split at h<;>try trivial
  split at h<;>try trivial
  simp only [ua0,ua9] at h;obtain ⟨_,rfl⟩:=h;simp [Ty.size,ub7]
 |.fc f,cs,x,r,h=>by
  simp only [dec] at h;unfold zg7 at h;split at h<;>try trivial
  all_goals
   split at h<;>try trivial
   simp only [ua0,ua9] at h;obtain ⟨_,rfl⟩:=h;simp [Ty.size,ub7]
theorem qs.cell:(t:Ty) -> {x:t.den} -> {g:Nat->Value->Prop}->qs w F t x g->∀ j,j<t.size->∃ u,g j u/\u.oneCell'=true
 |.int _,_,_,h,j,hj=>by
  have:j=0:=by simp [Ty.size] at hj; omega
  subst this;exact ⟨_,h.1,rfl⟩
 |.bool,_,_,h,j,hj=>by
  have:j=0:=by simp [Ty.size] at hj; omega
  subst this;exact ⟨_,h,rfl⟩
 |.str,_,_,h,j,hj=>by
  have:j=0:=by simp [Ty.size] at hj; omega
  subst this;exact ⟨_,h.1,rfl⟩
 |.sl e,_,_,h,j,hj=>by
  have:j=0:=by simp [Ty.size] at hj; omega
  subst this;obtain ⟨A,c,h1,_⟩:=h;exact ⟨_,h1,rfl⟩
 |.unit,_,_,_,j,hj=>by simp [Ty.size] at hj
 |.pair a b,x,g,h,j,hj=>by
  rcases uar j a.size with h1|h1
  ·exact qs.cell a h.1 j h1
  ·obtain ⟨u,e1,e2⟩:=qs.cell b h.2 (j-a.size) (by simp only [Ty.size] at hj; omega);rw [show a.size+(j-a.size)=j from by omega] at e1;exact ⟨u,e1,e2⟩
 |.fm es,_,_,h,j,hj=>by
  have:j=0:=by simp [Ty.size] at hj; omega
  subst this;obtain ⟨r,arr,ck,h1,_⟩:=h;exact ⟨_,h1,rfl⟩
 |.ic es t,_,_,h,j,hj=>by
  have:j=0:=by simp [Ty.size] at hj; omega
  subst this;rcases h with ⟨ty,u,_,h2,_⟩|⟨_,h2⟩
  ·exact ⟨_,h2,rfl⟩
  ·exact ⟨_,h2,rfl⟩
 |.fc f,_,_,h,j,hj=>by
  have:j=0:=by simp [Ty.size] at hj; omega
  subst this;obtain ⟨u,h1,h2,_⟩:=h;exact ⟨u,h1,h2⟩
theorem qgo {t:Ty} {l:List t.den} {xs:List Value} (h:yq w F t l xs) (hl:xs.length=l.length*t.size):∀ u∈xs,u.oneCell'=true:=by
 intro u hu;obtain ⟨k,hk,rfl⟩:=List.getElem_of_mem hu;have hpos:0<t.size:=by
  rcases uft t.size with h0|h0
  ·rw [h0] at hl; omega
  ·exact h0
 have hi:k/t.size<l.length:=(Nat.div_lt_iff_lt_mul hpos).2 (by omega);have:=h (k/t.size) l[k/t.size] (ua7 hi);obtain ⟨v,e1,e2⟩:=qs.cell t this (k%t.size) (Nat.mod_lt _ hpos);rw [ud5,Nat.div_add_mod,ua7 hk] at e1;cases e1;exact e2
theorem qbi {t:Ty} {x:t.den} {v:Value} (h:zv w F t x v):qz P w F R (qga t x) v:=by
 obtain ⟨h1,h2,h3⟩:=h;have he:=qs.enc (P:=P) (R:=R) t x h3;unfold qga;cases hw:t.wide
 ·simp only [ubt,ub3];have hv:v.cells = #[v]:=by
   cases v<;>first|rfl|(exact absurd (h2.2 ⟨_,rfl⟩) (by simp [hw]))
  have:∃ c,enc t x=[c]:=by cases t<;>first|(simp_all [Ty.wide,enc]; done)|(rename_i f; cases f<;>simp_all [Ty.wide,enc])
  obtain ⟨c,hc⟩:=this;rw [hc] at he ⊢;obtain ⟨⟨u,e1,e2,e3⟩,_⟩:=he;rw [hv] at e1;simp at e1;subst e1;exact ⟨e2,e3⟩
 ·simp only [if_true];obtain ⟨arr,rfl⟩:=h2.1 hw;exact ⟨arr,rfl,by rw [qcq]; exact h1,he⟩
theorem zee:{ts:List Ty} -> {x:qi ts} -> {vs:List Value}->qad w F ts x vs->zr P w F R (zhc ts x) vs
 |[],_,_,h=>by cases h; trivial
 |_::_,_,_,⟨v,vs',h1,h2,h3⟩=>by subst h1; exact ⟨qbi h2,zee h3⟩
theorem zr.length:{xs:List AV} -> {vs:List Value}->zr P w F R xs vs->vs.length=xs.length
 |[],[],_=>rfl
 |_::_,_::_,h=>by simp [zr.length h.2]
 |[],_::_,h=>h.elim
 |_::_,[],h=>h.elim
theorem qz4 {ts:List Ty} {x:qi ts} {v:Value} (h:∃ vs:Array Value,v = .tuple vs/\qad w F ts x vs.toList):qz P w F R (.tup (zhc ts x)) v:=by
 obtain ⟨vs,rfl,h2⟩:=h;have h3:=zee (P:=P) (R:=R) h2;exact ⟨vs,rfl,by have:=h3.length; simpa using this,by simpa using zy0 h3⟩
theorem qsg:{ts:List Ty} -> {x:qi ts} -> {v:Value}->qi6 w F ts x v->qz P w F R (qqc ts x) v
 |[],_,_,h=>qz4 (ts:=[]) h
 |[_],_,_,h=>qbi h
 |t::t'::r,_,_,h=>qz4 (ts:=t::t'::r) h
theorem zr.mono_ (hF:∀ b,F b->F' b) (hw:∀ b,F b->w'.heap[b]? = w.heap[b]?) {R':Nat->Value->Prop} (hR:∀ id v,R id v->R' id v):{xs:List AV} -> {vs:List Value}->zr P w F R xs vs->zr P w' F' R' xs vs
 |[],[],_=>trivial
 |_::_,_::_,h=>⟨qz.mono hF hw hR _ h.1,zr.mono_ hF hw hR h.2⟩
 |[],_::_,h=>h.elim
 |_::_,[],h=>h.elim
theorem qsd {t:Ty} {x:AV} {d:t.den} {v:Value} (h:zct t x=some d) (hr:qz P w F R x v):zv w F t d v:=by
 unfold zct at h;split at h
 ·rename_i c;split at h
  ·cases h
  ·rename_i hw;split at h<;>try trivial
   rename_i y hd;cases h;have hv:v.cells = #[v]:=by
    have:=hr.1;cases v<;>first|rfl|simp [Value.oneCell'] at this
   obtain ⟨e1,_⟩:=qs.dec (P:=P) (w:=w) (F:=F) (R:=R) (g:=fun j u=>v.cells[j]? = some u) t hd ⟨⟨v,by simp [hv],hr.1,hr.2⟩,trivial⟩;refine ⟨?_,⟨fun h'=>absurd h' hw,fun ⟨cs,hc⟩=>?_⟩,e1⟩
   ·rw [hv];cases t<;>simp_all [Ty.size,Ty.wide]
   ·have:=hr.1;rw [hc] at this;simp [Value.oneCell'] at this
 ·rename_i cs;split at h
  ·rename_i hw;split at h<;>try trivial
   rename_i y hd;cases h;obtain ⟨arr,rfl,h1,h2⟩:=hr;have hl:cs.length=t.size:=by simpa using qg1 t hd
   obtain ⟨e1,_⟩:=qs.dec (P:=P) (w:=w) (F:=F) (R:=R) (g:=fun j u=>(Value.agg arr).cells[j]? = some u) t hd h2;exact ⟨by show arr.size=_; omega,⟨fun _=>⟨arr,rfl⟩,fun _=>hw⟩,e1⟩
  ·cases h
 ·cases h
theorem qdv:{ts:List Ty} -> {xs:List AV} -> {x:qi ts} -> {vs:List Value}->qe3 ts xs=some x->zr P w F R xs vs->qad w F ts x vs
 |[],[],_,[],_,_=>rfl
 |t::r,a::s,x,v::vs,h,hr=>by
  simp only [qe3] at h;split at h
  ·rename_i y z h1 h2;cases h;exact ⟨v,vs,rfl,qsd h1 hr.1,qdv h2 hr.2⟩
  ·cases h
 |[],[],_,_::_,_,hr=>hr.elim
 |_::_,_::_,_,[],_,hr=>hr.elim
 |[],_::_,_,_,h,_=>by simp [qe3] at h
 |_::_,[],_,_,h,_=>by simp [qe3] at h
theorem yz (M:Mem) (u v:List (Nat×Ob)):qx M (u++v)=qx (qx M u) v:=by
 induction u generalizing M with
 |nil=>rfl
 |cons x u ih=>exact ih _
def qa6 (m M:Mem):Prop:=∀ i y,m i=some y->M i=some y ∨ ∃ e t l,y = .arr e t l/\M i=some (.frz t l)
theorem qa6.of (h:∀ i y,m i=some y->M i=some y):qa6 m M:=fun i y hy=>.inl (h i y hy)
theorem yfo {id:Nat} {o:Ob} (h:M id=some o):upd M id o=M:=by
 funext i;unfold upd;split
 ·rename_i hi; subst hi; exact h.symm
 ·rfl
theorem ztc {id:Nat} {e:TypeId} {t:Ty} {l:List t.den} (hm:MemOK P B w F γ M) (hb:∀ b,F b->b<w.heap.size) (hM:M id=some (.arr e t l)) :
  ∃ F',Step B w F γ M w F' γ (upd M id (.frz t l))/\MemOK P B w F' γ (upd M id (.frz t l)):=by
 have hob:=hm.ob id _ hM;obtain ⟨xs,hown,hnF,hrows,_⟩:=hob;refine ⟨fun b=>F b∨(γ id).ownBlock=some b,?_,?_⟩
 ·refine ⟨fun b h=>.inl h,fun _ _=>rfl,qey hM (by simp),fun _ _=>rfl,rfl,rfl,rfl,ua3 _,fun b h=>?_,fun b h=>?_⟩
  ·rcases h with h|h
   ·exact hb b h
   ·exact (hown.lt b h).2
  ·rcases h with h|h
   ·exact .inl h
   ·exact .inr (hown.lt b h).1
 ·refine hm.change hM (by simp) (fun b h=>.inl h) (fun _ _=>rfl) (fun b h=>by simp [exB] at h) (fun b _ hne=>⟨rfl,fun h=>?_⟩) ?_
  ·rcases h with h|h
   ·exact h
   ·exact absurd (by simpa [exB] using h) hne
  ·simp only [qnu];obtain ⟨hl,hn|⟨g,cap,cur,hv,hbg,hg,hnc,hcm,hcs,ht⟩⟩:=hown
   ·obtain ⟨h1,h2⟩:=hn;refine ⟨none,0,?_,by omega,by simp [maxLen],fun i x hi=>?_⟩
    ·rw [h1,h2]
    ·rw [ucr h2] at hi;simp at hi
   ·refine ⟨some ⟨g,0,none⟩,cap,hv.symm,hnc,hcm,fun i x hi=>⟨_,rfl,.inr (by rw [hv]; rfl),?_⟩⟩;refine (hrows i x hi).mono (fun b h=>.inl h) (fun _ _=>rfl) fun j u hj hu=>?_;rw [qbf,qn3 hg,← hu,← ht,uap];have:i<l.length:=(uaj.1 hi).1;have h3:i*t.size+t.size<=l.length*t.size:=by
     rw [← uay];exact uam _ this
    rw [if_pos (by omega)];simp
theorem qpt {c x:AC} {u:List (Nat×Ob)} {v:Value} (hm:MemOK P B w F γ M) (hb:∀ b,F b->b<w.heap.size) (hs:qa6 m M) (h:rsC m c=some (x,u)) (hr:zn P w F (qp M γ) c v) :
  ∃ F',Step B w F γ M w F' γ (qx M u)/\MemOK P B w F' γ (qx M u)/\qa6 m (qx M u)/\zn P w F' (qp (qx M u) γ) x v:=by
 unfold rsC at h;split at h
 ·rename_i id;split at h<;>try trivial
  ·rename_i e t l hid;cases h;rcases hs id _ hid with hM|⟨e',t',l',he,hM⟩
   ·obtain ⟨F',s1,s2⟩:=ztc hm hb hM;have hv:=qen hM (by simp) hr;subst hv;refine ⟨F',s1,s2,fun i y hy=>?_,?_⟩
    ·by_cases hi:i=id
     ·subst hi;rw [hid] at hy;cases hy;exact .inr ⟨e,t,l,rfl,xd _ _ _⟩
     ·simp only [qx];rw [yp _ _ hi];exact hs i y hy
    ·simp only [zn];exact s2.ob id _ (xd _ _ _)
   ·cases he;have hv:=qen hM (by simp) hr;subst hv;have hself:qx M [(id,Ob.frz t l)]=M:=yfo hM;refine ⟨F,by rw [hself]; exact Step.refl hb,by rw [hself]; exact hm,by rw [hself]; exact hs,?_⟩;simp only [zn];exact hm.ob id _ hM
  ·rename_i t l hid;cases h;rcases hs id _ hid with hM|⟨e',t',l',he,hM⟩
   ·have hv:=qen hM (by simp) hr;subst hv;refine ⟨F,Step.refl hb,hm,hs,?_⟩;simp only [zn];exact hm.ob id _ hM
   ·cases he
 ·cases h;exact ⟨F,Step.refl hb,hm,hs,hr⟩
theorem ql7:{cs xs:List AC} -> {u:List (Nat×Ob)} -> {M:Mem} -> {F:Nat->Prop} -> {g:Nat->Value->Prop}->MemOK P B w F γ M->(∀ b,F b->b<w.heap.size)->qa6 m M->rsL m cs=some (xs,u)->qu P w F (qp M γ) cs g ->
  ∃ F',Step B w F γ M w F' γ (qx M u)/\MemOK P B w F' γ (qx M u)/\qa6 m (qx M u)/\xs.length=cs.length/\qu P w F' (qp (qx M u) γ) xs g
 |[],xs,u,M,F,g,hm,hb,hs,h,hr=>by
  simp only [rsL,ua0,ua9] at h;obtain ⟨rfl,rfl⟩:=h;exact ⟨F,Step.refl hb,hm,hs,rfl,trivial⟩
 |c::r,xs,u,M,F,g,hm,hb,hs,h,hr=>by
  simp only [rsL] at h;split at h
  ·rename_i x u1 y u2 h1 h2;cases h;obtain ⟨⟨v,e1,e2,e3⟩,e4⟩:=hr;obtain ⟨F1,s1,m1,t1,r1⟩:=qpt hm hb hs h1 e3;obtain ⟨F2,s2,m2,t2,l2,r2⟩:=ql7 m1 s1.bd t1 h2 (s1.repCL e4);rw [yz];exact ⟨F2,s1.trans s2,m2,t2,by simp [l2],⟨⟨v,e1,e2,zn.mono s2.hF s2.hw s2.hR _ r1⟩,r2⟩⟩
  ·cases h
theorem zfm {x y:AV} {u:List (Nat×Ob)} {v:Value} (hm:MemOK P B w F γ M) (hb:∀ b,F b->b<w.heap.size) (hs:qa6 m M) (h:rsA m x=some (y,u)) (hr:qz P w F (qp M γ) x v) :
  ∃ F',Step B w F γ M w F' γ (qx M u)/\MemOK P B w F' γ (qx M u)/\qa6 m (qx M u)/\qz P w F' (qp (qx M u) γ) y v:=by
 unfold rsA at h;split at h
 ·split at h<;>try trivial
  rename_i h1;cases h;obtain ⟨F1,s1,m1,t1,r1⟩:=qpt hm hb hs h1 hr.2;exact ⟨F1,s1,m1,t1,hr.1,r1⟩
 ·split at h<;>try trivial
  rename_i h1;cases h;obtain ⟨arr,e1,e2,e3⟩:=hr;obtain ⟨F1,s1,m1,t1,l1,r1⟩:=ql7 hm hb hs h1 e3;exact ⟨F1,s1,m1,t1,arr,e1,by rw [e2,l1],r1⟩
 ·cases h
theorem wv:{cs xs:List AV} -> {u:List (Nat×Ob)} -> {M:Mem} -> {F:Nat->Prop} -> {vs:List Value}->MemOK P B w F γ M->(∀ b,F b->b<w.heap.size)->qa6 m M->qcj m cs=some (xs,u)->zr P w F (qp M γ) cs vs ->
  ∃ F',Step B w F γ M w F' γ (qx M u)/\MemOK P B w F' γ (qx M u)/\qa6 m (qx M u)/\zr P w F' (qp (qx M u) γ) xs vs
 |[],xs,u,M,F,vs,hm,hb,hs,h,hr=>by
  simp only [qcj,ua0,ua9] at h;obtain ⟨rfl,rfl⟩:=h;exact ⟨F,Step.refl hb,hm,hs,hr⟩
 |c::r,xs,u,M,F,[],hm,hb,hs,h,hr=>hr.elim
 |c::r,xs,u,M,F,v::vs,hm,hb,hs,h,hr=>by
  simp only [qcj] at h;split at h
  ·rename_i x u1 y u2 h1 h2;cases h;obtain ⟨F1,s1,m1,t1,r1⟩:=zfm hm hb hs h1 hr.1;have hr2:zr P w F1 (qp (qx M u1) γ) r vs:=zr.mono_ s1.hF s1.hw s1.hR hr.2;obtain ⟨F2,s2,m2,t2,r2⟩:=wv m1 s1.bd t1 h2 hr2;rw [yz];exact ⟨F2,s1.trans s2,m2,t2,s2.repA r1,r2⟩
  ·cases h
end
end Go.Ab

namespace Go.Ab
open Go Go.RowKit
section
variable {P:Program} {B:Nat} {o:Oper} {a:Act} {w w':World} {F F':Nat->Prop} {γ γ':Nat->Value} {M m:Mem} {R:Nat->Value->Prop}
theorem ye5 {d:Nat} {ob:Ob} {v:Value} {x:Obj} (hb:∀ b,F b->b<w.heap.size) (hB:B<=w.heap.size) (hd:M d=none):Step B w F γ M (w.alloc x) F (qck γ d v) (upd M d ob):=
 ⟨fun _ h=>h,fun b h=>uaq _ _ _ (hb b h),ql4 hd,fun b h=>uaq _ _ _ (by omega),rfl,rfl,rfl,by simp,fun b h=>by have:=hb b h; simp; omega,fun b h=>.inl h⟩
theorem zp3 {d:Nat} {ty:TypeId} {arr:Array Value} {cs:List AC} (hm:MemOK P B w F γ M) (hb:∀ b,F b->b<w.heap.size) (hB:B<=w.heap.size) (hd:M d=none) (hl:arr.size=cs.length)
  (hr:qu P w F (qp M γ) cs (fun j u=>arr[j]? = some u)) :
  Step B w F γ M (w.alloc (.cells arr ty)) F (qck γ d (.pointer (some ⟨w.heap.size,0,none⟩))) (upd M d (.box ty cs)) /\
  MemOK P B (w.alloc (.cells arr ty)) F (qck γ d (.pointer (some ⟨w.heap.size,0,none⟩))) (upd M d (.box ty cs)):=by
 have hs:Step B w F γ M (w.alloc (.cells arr ty)) F (qck γ d (.pointer (some ⟨w.heap.size,0,none⟩))) (upd M d (.box ty cs)):=ye5 hb hB hd;refine ⟨hs,hm.new hd hs.hF hs.hw (fun b h=>?_) (fun b h=>⟨uaq _ _ _ h,fun h=>h⟩) ?_⟩
 ·simp only [exB,ua0] at h;omega
 ·exact ⟨w.heap.size,arr,rfl,ud6 w _,fun h=>by have:=hb _ h; omega,hB,hl,hs.repCL hr⟩
theorem zqb {d:Nat} {ty:TypeId} {cs:List AC} {b:Nat}:qz P w F (qp (upd M d (.box ty cs)) (qck γ d (.pointer (some ⟨b,0,none⟩)))) (.c (.ptr d 0)) (.pointer (some ⟨b,0,none⟩)):=by
 refine ⟨rfl,b,?_,rfl⟩;unfold qp;rw [xd];exact (qgt _ _ _).symm
theorem qnp {d:Nat} {ety:TypeId} {t:Ty} {l:List t.den} {xs:List Value} {v:Value} (hm:MemOK P B w F γ M) (hb:∀ b,F b->b<w.heap.size) (hB:B<=w.heap.size) (hd:M d=none)
  (hg:w.grownBy w' none) (hown:w'.ownsRow B ety t.size v l.length xs) (hnew:∀ g,v.ownBlock=some g->w.heap.size<=g) (hrows:yq w' F t l xs) :
  Step B w F γ M w' F (qck γ d v) (upd M d (.arr ety t l))/\MemOK P B w' F (qck γ d v) (upd M d (.arr ety t l)):=by
 have hblk:∀ b,b<w.heap.size->w'.heap[b]? = w.heap[b]? := fun b h=>hg.block b h (by simp);have hs:Step B w F γ M w' F (qck γ d v) (upd M d (.arr ety t l)):=
  ⟨fun _ h=>h,fun b h=>hblk b (hb b h),ql4 hd,fun b h=>hblk b (by omega),hg.os,hg.tape,hg.output,hg.size,fun b h=>by have:=hb b h; have:=hg.size; omega,fun b h=>.inl h⟩
 refine ⟨hs,hm.new hd hs.hF hs.hw (fun b h=>hnew b (by simpa [exB] using h)) (fun b h=>⟨hblk b h,fun h=>h⟩) ?_⟩;refine ⟨xs,hown,fun g hg' hF=>?_,hrows,qgo hrows hown.1⟩;have:=hb g hF;have:=hnew g hg';omega
theorem qfq {d:Nat} {ety:TypeId} {t:Ty} {l:List t.den} {v:Value} (h1:v.oneCell'=true):qz P w F (qp (upd M d (.arr ety t l)) (qck γ d v)) (.c (.own d)) v:=by
 refine ⟨h1,?_⟩;simp only [zn];unfold qp;rw [xd];exact (qgt _ _ _).symm
theorem MemOK.moved (h:MemOK P B w F γ M) {id d:Nat} {o0 o:Ob} {v:Value} (h0:M id=some o0) (hd:M d=none)
  (hw:∀ b,F b->w'.heap[b]? = w.heap[b]?)
  (hex:∀ b,exB o v=some b->exB o0 (γ id)=some b∨w.heap.size<=b)
  (hoth:∀ b,b<w.heap.size->exB o0 (γ id)≠some b->w'.heap[b]? = w.heap[b]?)
  (hok:qnu P B w' F (qp (upd (upd M id .gone) d o) (qck γ d v)) v o):MemOK P B w' F (qck γ d v) (upd (upd M id .gone) d o):=by
 have hne:d≠id:=by rintro rfl; rw [hd] at h0; cases h0
 have hR:∀ i u,qp M γ i u->qp (upd (upd M id .gone) d o) (qck γ d v) i u:=fun i u hu=>
  ql4 (γ:=γ) (m:=upd M id .gone) (by rw [yp _ _ hne]; exact hd) i u (qey h0 (fun _=>rfl) i u hu)
 refine ⟨fun i oi hi=>?_,fun i j oi oj b hij hi hj hbi hbj=>?_⟩
 ·by_cases he:i=d
  ·subst he;rw [xd,ua0] at hi;subst hi;rw [qgt];exact hok
  ·rw [yp _ _ he] at hi;rw [qfa _ _ he];by_cases hf:i=id
   ·subst hf;rw [xd,ua0] at hi;subst hi;trivial
   ·rw [yp _ _ hf] at hi;refine (h.ob i oi hi).keep (fun _ h=>h) hw hR fun b hb=>?_;obtain ⟨e1,e2,_⟩:=qgc (h.ob i oi hi) hb;exact ⟨hoth b e1 (fun hc=>h.apart i id oi o0 b hf hi h0 hb hc),e2⟩
 ·have key:∀ i oi b,i≠d->(upd (upd M id .gone) d o) i=some oi->exB oi ((qck γ d v) i)=some b->i≠id/\M i=some oi/\exB oi (γ i)=some b:=by
   intro i oi b h1 h2 h3;rw [yp _ _ h1] at h2;rw [qfa _ _ h1] at h3;by_cases hf:i=id
   ·subst hf;rw [xd,ua0] at h2;subst h2;simp [exB] at h3
   ·rw [yp _ _ hf] at h2;exact ⟨hf,h2,h3⟩
  have keyd:∀ oi b,(upd (upd M id .gone) d o) d=some oi->exB oi ((qck γ d v) d)=some b->exB o0 (γ id)=some b∨w.heap.size<=b:=by
   intro oi b h1 h2;rw [xd,ua0] at h1;subst h1;rw [qgt] at h2;exact hex b h2
  by_cases he:i=d
  ·subst he;obtain ⟨k1,k2,k3⟩:=key j oj b (Ne.symm hij) hj hbj;rcases keyd oi b hi hbi with k4|k4
   ·exact h.apart j id oj o0 b k1 k2 h0 k3 k4
   ·have:=(qgc (h.ob j oj k2) k3).1; omega
  ·obtain ⟨k1,k2,k3⟩:=key i oi b he hi hbi;by_cases hf:j=d
   ·subst hf;rcases keyd oj b hj hbj with k4|k4
    ·exact h.apart i id oi o0 b k1 k2 h0 k3 k4
    ·have:=(qgc (h.ob i oi k2) k3).1; omega
   ·obtain ⟨l1,l2,l3⟩:=key j oj b hf hj hbj;exact h.apart i j oi oj b hij k2 l2 k3 l3
theorem qpp {id d:Nat} {ety ety0:TypeId} {t t0:Ty} {l:List t.den} {l0:List t0.den} {xs:List Value} {v:Value} (hm:MemOK P B w F γ M) (hb:∀ b,F b->b<w.heap.size) (hB:B<=w.heap.size)
  (h0:M id=some (.arr ety0 t0 l0)) (hd:M d=none)
  (hg:w.grownBy w' (γ id).ownBlock) (hown:w'.ownsRow B ety t.size v l.length xs) (hnew:v.ownBlock=(γ id).ownBlock∨v.ownBlock=some w.heap.size∨v.ownBlock=none) (hrows:yq w' F t l xs) :
  Step B w F γ M w' F (qck γ d v) (upd (upd M id .gone) d (.arr ety t l))/\MemOK P B w' F (qck γ d v) (upd (upd M id .gone) d (.arr ety t l)):=by
 have hne:d≠id:=by rintro rfl; rw [hd] at h0; cases h0
 obtain ⟨xs0,q1,q2,_⟩:=hm.ob id _ h0;have hnF:∀ b,F b->some b≠(γ id).ownBlock:=fun b hb' he=>q2 b he.symm hb';have hs:Step B w F γ M w' F (qck γ d v) (upd (upd M id .gone) d (.arr ety t l)):=
  ⟨fun _ h=>h,fun b h=>hg.block b (hb b h) (hnF b h),
   fun i u hu=>ql4 (γ:=γ) (m:=upd M id .gone) (by rw [yp _ _ hne]; exact hd) i u (qey h0 (fun _=>rfl) i u hu),
   fun b h=>hg.block b (by omega) (fun he=>by have:=(q1.lt b he.symm).1; omega),hg.os,hg.tape,hg.output,hg.size,fun b h=>by have:=hb b h; have:=hg.size; omega,fun b h=>.inl h⟩
 refine ⟨hs,hm.moved h0 hd hs.hw (fun b h=>?_) (fun b h1 h2=>hg.block b h1 (fun he=>h2 (by simpa [exB] using he.symm))) ?_⟩
 ·simp only [exB] at h ⊢;rcases hnew with h'|h'|h'
  ·rw [h'] at h; exact .inl h
  ·rw [h'] at h; simp at h; exact .inr (by omega)
  ·rw [h'] at h; cases h
 ·refine ⟨xs,hown,fun g hg' hF=>?_,hrows,qgo hrows hown.1⟩;rcases hnew with h'|h'|h'
  ·rw [h'] at hg'; exact q2 g hg' hF
  ·rw [h'] at hg'; simp at hg'; have:=hb g hF; omega
  ·rw [h'] at hg'; cases hg'
end
end Go.Ab
