/-
  Parts of the proof, one behind the other.
-/
import Derived.Calls
import Derived.Below
import Derived.Laws.AppendOwn
import Derived.OwnWalk
import Derived.Maps.AppendAt
import Derived.Deep.Draws
import Derived.Deep.MidRow
import Derived.Laws.StructEq
import Derived.Laws.MakeOwn
set_option linter.all false
set_option maxRecDepth 100000
set_option maxHeartbeats 4000000
abbrev uaa:=@Array.getElem?_setIfInBounds_ne
abbrev uab:=@List.eq_nil_of_length_eq_zero
abbrev uac:=@Array.getD_eq_getD_getElem?
abbrev uad:=@Array.getElem?_append_right
abbrev uae:=@List.getElem?_append_right
abbrev uaf:=@Array.getElem?_eq_some_iff
abbrev uag:=@Int.fdiv_eq_ediv_of_nonneg
abbrev uah:=@List.getD_eq_getElem?_getD
abbrev uai:=@Array.getElem?_append_left
abbrev uaj:=@List.getElem?_append_left
abbrev uak:=@List.getElem?_eq_some_iff
abbrev ual:=@List.drop_eq_getElem_cons
abbrev uam:=@Array.getElem?_eq_getElem
abbrev uan:=@List.pairwise_iff_getElem
abbrev uao:=@List.getLast?_eq_getElem?
abbrev uap:=@List.mem_or_eq_of_mem_set
abbrev uaq:=@List.getElem?_eq_getElem
abbrev uar:=@Option.isSome_iff_exists
abbrev uas:=@Array.getElem?_replicate
abbrev uat:=@List.take_append_getElem
abbrev uau:=@List.getElem?_cons_zero
abbrev uav:=@decide_eq_false_iff_not
abbrev uaw:=@List.pairwise_lt_range'
abbrev uax:=@Nat.add_sub_cancel_left
abbrev uay:=@List.pairwise_singleton
abbrev uaz:=@List.length_eq_zero_iff
abbrev ua0:=@List.getElem?_set_self
abbrev ua1:=@Array.getElem?_eq_none
abbrev ua2:=@List.drop_eq_nil_of_le
abbrev ua3:=@List.take_of_length_le
abbrev ua4:=@List.getElem?_eq_none
abbrev ua5:=@Array.getElem?_toList
abbrev ua6:=@List.mem_append_right
abbrev ua7:=@List.length_singleton
abbrev ua8:=@List.mem_of_mem_erase
abbrev ua9:=@List.mem_iff_getElem?
abbrev uba:=@List.take_append_drop
abbrev ubb:=@Bool.cond_false_right
abbrev ubc:=@List.length_replicate
abbrev ubd:=@Go.World.cell?_of_block
abbrev ube:=@Nat.mul_le_mul_right
abbrev ubf:=@Array.toArray_toList
abbrev ubg:=@List.mem_of_getElem?
abbrev ubh:=@Array.mem_toList_iff
abbrev ubi:=@List.getElem?_set_ne
abbrev ubj:=@List.mem_cons_of_mem
abbrev ubk:=@List.mem_append_left
abbrev ubl:=@List.erase_cons_head
abbrev ubm:=@List.range_eq_range'
abbrev ubn:=@Array.replicate_succ
abbrev ubo:=@Array.replicate_zero
abbrev ubp:=@List.pairwise_append
abbrev ubq:=@List.mem_of_mem_take
abbrev ubr:=@List.mem_of_mem_drop
abbrev ubs:=@List.getElem?_of_mem
abbrev ubt:=@Go.Value.pointer.injEq
abbrev ubu:=@Array.length_toList
abbrev ubv:=@Go.World.grownBy_alloc
abbrev ubw:=@beq_eq_false_iff_ne
abbrev ubx:=@List.append_toArray
abbrev uby:=@Bool.cond_true_left
abbrev ubz:=@List.length_pos_iff
abbrev ub0:=@Nat.add_sub_cancel
abbrev ub1:=@List.getElem?_drop
abbrev ub2:=@List.getElem?_take
abbrev ub3:=@Bool.false_eq_true
abbrev ub4:=@Int.natCast_nonneg
abbrev ub5:=@Nat.eq_zero_or_pos
abbrev ub6:=@List.length_append
abbrev ub7:=@Go.grownCap_le_maxLen
abbrev ub8:=@Go.World.grownBy.refl
abbrev ub9:=@List.mem_filterMap
abbrev uca:=@List.pairwise_cons
abbrev ucb:=@Nat.lt_of_lt_of_le
abbrev ucc:=@List.mem_cons_self
abbrev ucd:=@Nat.lt_of_le_of_lt
abbrev uce:=@Go.calls_of_wp_defers
abbrev ucf:=@List.mem_singleton
abbrev ucg:=@Go.World.size_setCell
abbrev uch:=@of_decide_eq_false
abbrev uci:=@Array.ext_getElem?
abbrev ucj:=@List.filter_append
abbrev uck:=@Go.heap_setCell_other
abbrev ucl:=@Option.some.injEq
abbrev ucm:=@Go.Result.andThen_ok
abbrev ucn:=@Go.run_equalIn_bool'
abbrev uco:=@List.getElem?_map
abbrev ucp:=@Array.size_append
abbrev ucq:=@List.size_toArray
abbrev ucr:=@List.append_assoc
abbrev ucs:=@Go.World.ownsRow_nil
abbrev uct:=@Nat.lt_trichotomy
abbrev ucu:=@decide_eq_true_eq
abbrev ucv:=@Bool.not_eq_true'
abbrev ucw:=@List.mem_range'_1
abbrev ucx:=@of_decide_eq_true
abbrev ucy:=@List.push_toArray
abbrev ucz:=@Bool.eq_false_iff
abbrev uc0:=@Int.toNat_natCast
abbrev uc1:=@Go.heap_setCell_same
abbrev uc2:=@Go.setCell_eq_setRow
abbrev uc3:=@Nat.le_succ_of_le
abbrev uc4:=@List.cons_append
abbrev uc5:=@List.length_take
abbrev uc6:=@List.length_drop
abbrev uc7:=@Array.toList_inj
abbrev uc8:=@List.all_eq_true
abbrev uc9:=@List.length_cons
abbrev uda:=@Option.bind_some
abbrev udb:=@Go.RowKit.Below.heap_alloc
abbrev udc:=@Bool.and_eq_true
abbrev udd:=@Option.getD_some
abbrev ude:=@List.range'_succ
abbrev udf:=@Go.IntKind.wrap_i64
abbrev udg:=@Go.World.size_alloc
abbrev udh:=@decide_eq_decide
abbrev udi:=@List.getElem_mem
abbrev udj:=@Nat.succ_le_succ
abbrev udk:=@Int.ediv_nonneg
abbrev udl:=@List.length_nil
abbrev udm:=@List.nil_append
abbrev udn:=@List.all_append
abbrev udo:=@List.length_set
abbrev udp:=@Nat.min_eq_left
abbrev udq:=@List.cons.injEq
abbrev udr:=@List.append_nil
abbrev uds:=@List.mem_append
abbrev udt:=@Bool.or_eq_true
abbrev udu:=@Nat.zero_lt_one
abbrev udv:=@decide_eq_false
abbrev udw:=@List.map_append
abbrev udx:=@Bool.eq_iff_iff
abbrev udy:=@List.length_zip
abbrev udz:=@List.take_left'
abbrev ud0:=@List.drop_left'
abbrev ud1:=@List.range_succ
abbrev ud2:=@List.length_map
abbrev ud3:=@Option.some.inj
abbrev ud4:=@ne_of_beq_false
abbrev ud5:=@Go.run_underlying
abbrev ud6:=@Go.eqGuard_at_int
abbrev ud7:=@Go.heap_alloc_new
abbrev ud8:=@List.take_take
abbrev ud9:=@List.mem_range
abbrev uea:=@decide_eq_true
abbrev ueb:=@Int.mul_nonneg
abbrev uec:=@Bool.and_assoc
abbrev ued:=@Bool.and_false
abbrev uee:=@Nat.mul_le_mul
abbrev uef:=@List.drop_zero
abbrev ueg:=@Prod.mk.injEq
abbrev ueh:=@Nat.add_assoc
abbrev uei:=@List.mem_cons
abbrev uej:=@List.all_cons
abbrev uek:=@List.map_cons
abbrev uel:=@Bool.true_and
abbrev uem:=@Bool.and_true
abbrev uen:=@Nat.mul_assoc
abbrev ueo:=@Nat.le_trans
abbrev uep:=@Nat.lt_or_ge
abbrev ueq:=@Nat.add_comm
abbrev uer:=@Int.sub_zero
abbrev ues:=@Go.Sem.run_bind
abbrev uet:=@Int.le_of_lt
abbrev ueu:=@Go.Sem.run_pure
abbrev uev:=@Nat.mul_comm
abbrev uew:=@Nat.succ_mul
abbrev uex:=@Nat.zero_add
abbrev uey:=@Nat.add_zero
abbrev uez:=@Go.setRow_other
abbrev ue0:=@Int.mul_comm
abbrev ue1:=@Go.bodyPost_ret
abbrev ue2:=@Go.results_none
abbrev ue3:=@Int.le_trans
abbrev ue4:=@Int.add_zero
abbrev ue5:=@Nat.le_of_lt
abbrev ue6:=@List.mem_map
abbrev ue7:=@Go.Addr.add_lit
abbrev ue8:=@Go.bodyPost_end
abbrev ue9:=@Nat.le_refl
abbrev ufa:=@Int.le_refl
abbrev ufb:=@Nat.add_mul
abbrev ufc:=@Go.setRow_heap
abbrev ufd:=@Go.calls_of_wp
abbrev ufe:=@Go.leaves_cons
abbrev uff:=@Nat.zero_le
abbrev ufg:=@Nat.mod_lt
abbrev ufh:=@beq_iff_eq
abbrev ufi:=@Go.RowKit.Below.refl
abbrev ufj:=@Int.not_le
abbrev ufk:=@Int.not_lt
abbrev ufl:=@bne_iff_ne
abbrev ufm:=@Go.info_parts
abbrev ufn:=@Array.ext
abbrev ufo:=@Go.mem_ready
abbrev ufp:=@Go.wp_region
abbrev ufq:=@eq_of_beq
abbrev ufr:=@and_self
abbrev ufs:=@if_false
abbrev uft:=@congrArg
abbrev ufu:=@Prod.ext
abbrev ufv:=@if_pos
abbrev ufw:=@if_neg
abbrev I6:=Go.IntKind.i64
theorem uT:True:=⟨⟩
open Option renaming some->U,none->V
open Bool renaming true->Z,false->Y
open Decidable renaming decide->J
open Go Go.RowKit
variable {T α σ ρ β:Type} {P:Program} {ad:Addr} {arr cs cur:Array Value} {f:FuncId} {x a y day:Int} {k:IntKind} {l:List Int} {xs vs news:List Value} {off i n b c d j B m len:Nat} {F F' K:Nat->Prop} {R g R':Nat->Value->Prop} {o:Oper} {p:Prop} {e ety t ty el:TypeId} {v u vx:Value} {w w' W' W:World}
namespace Go.Ab
open Go Go.RowKit
inductive Ty where
 |int (k:IntKind)
 |bool
 |str
 |sl (e:Ty)
 |unit
 |pair (a b:Ty)
 |fm (es:List (Int×Nat))
 |ic (es:List (Int×Nat)) (t:Ty)
 |fc (f:Option Nat)
 deriving DecidableEq
@[reducible] def Ty.den:Ty->Type
 |.int _=>Int
 |.bool=>Bool
 |.str=>ByteArray
 |.sl e=>List e.den
 |.unit=>Unit
 |.pair a b=>a.den×b.den
 |.fm _=>Unit
 |.ic _ t=>Int×t.den
 |.fc _=>Unit
def Ty.size:Ty->Nat
 |.unit=>0
 |.pair a b=>a.size+b.size
 |_=>1
def Ty.wide:Ty->Bool
 |.unit | .pair _ _=>Z
 |_=>Y
def Ty.flat:Ty->Bool
 |.sl _=>Y
 |.fm _=>Y
 |.ic _ t=>t.flat
 |.fc _=>Y
 |.pair a b=>a.flat&&b.flat
 |_=>Z
def Ty.dflt:(t:Ty)->t.den
 |.int _=>(0:Int)
 |.bool=>Y
 |.str=>ByteArray.empty
 |.sl _=>[]
 |.unit=>()
 |.pair a b=>(a.dflt,b.dflt)
 |.fm _=>()
 |.ic _ t=>(0,t.dflt)
 |.fc _=>()
def cD(es:List (Int×Nat))(k:Int):Option Nat:=(es.find? (λx=>x.1==k)).map (·.2)
def inR(k:IntKind)(n:Int):Prop:=k.min<=n/\n<=k.max
def aA(w:World)(F:Nat->Prop):(t:Ty)->t.den->(Nat->Value->Prop)->Prop
 |.int k,n,g=>g 0 (.int k n)/\inR k n
 |.bool,b,g=>g 0 (.bool b)
 |.str,s,g=>g 0 (.string s)/\s.size<=maxLen
 |.sl e,l,g=>∃ A c,g 0 (.slice A l.length c)/\l.length<=c/\c<=maxLen /\
   ∀ i x,l[i]?= U x->∃ ad,A=U ad/\F ad.block/\aA w F e x (λj u=>w.cell? (ad.add (i*e.size+j))=U u)
 |.unit,_,_=>True
 |.pair a b,x,g=>aA w F a x.1 g/\aA w F b x.2 (λj u=>g (a.size+j) u)
 |.fm es,_,g=>∃ r arr d,g 0 (.map (U r))/\F r/\w.heap[r]?= U (.map arr d)/\arr.toList.map (λe=>(e.key,e.val))=es.map (λx=>(Value.int .i64 x.1,Value.func (.func x.2) #[] #[]))
 |.ic es t,x,g=>(∃ ty u,cD es x.1=U ty/\g 0 (.iface ty u)/\u.cells.size=t.size/\(t.wide=Z↔∃ cs,u=.agg cs)/\aA w F t x.2 (λj v=>u.cells[j]?= U v))\/(cD es x.1=V/\g 0 .nilIface)
 |.fc f,_,g=>∃ u,g 0 u/\u.oneCell'=Z/\∀ k,f=U k->u=.func (.func k) #[] #[]
def Wf:(t:Ty)->t.den->Prop
 |.int k,n=>inR k n
 |.bool,_=>True
 |.str,s=>s.size<=maxLen
 |.sl e,l=>l.length<=maxLen/\∀ (i:Nat) (x:e.den),l[i]?= U x->Wf e x
 |.unit,_=>True
 |.pair a b,x=>Wf a x.1/\Wf b x.2
 |.fm _,_=>True
 |.ic _ _,_=>True
 |.fc _,_=>True
def aA.wf:{t:Ty} -> {x:t.den} -> {g:Nat->Value->Prop}->aA w F t x g->Wf t x
 |.int _,_,_,h=>h.2
 |.bool,_,_,_=>trivial
 |.str,_,_,h=>h.2
 |.sl _,_,_,h=>by
  obtain⟨A,c,_,a,b,d⟩:=h;exact⟨ueo a b,λi x hi=>by
   obtain⟨ad,_,_,e⟩:=d i x hi;exact aA.wf e⟩
 |.unit,_,_,_=>trivial
 |.pair _ _,_,_,h=>⟨aA.wf h.1,aA.wf h.2⟩
 |.fm _,_,_,_=>trivial
 |.ic _ _,_,_,_=>trivial
 |.fc _,_,_,_=>trivial
def aA.mono(n:∀ b,F b->F' b)(o:∀ b,F b->w'.heap[b]?= w.heap[b]?):
  {t:Ty} -> {x:t.den} -> {g g':Nat->Value->Prop}->(∀ j u,j<t.size->g j u->g' j u)->aA w F t x g->aA w' F' t x g'
 |.int _,_,_,_,d,h=>⟨d _ _ (by simp[Ty.size]) h.1,h.2⟩
 |.bool,_,_,_,d,h=>d _ _ (by simp[Ty.size]) h
 |.str,_,_,_,d,h=>⟨d _ _ (by simp[Ty.size]) h.1,h.2⟩
 |.sl e,_,_,_,d,h=>by
  obtain⟨A,c,y,l,k,m⟩:=h;refine⟨A,c,d _ _ (by simp[Ty.size]) y,l,k,λi x hi=>?_⟩;obtain⟨ad,B,s,p⟩:=m i x hi;refine⟨ad,B,n _ s,aA.mono n o (λj u _ C=>?_) p⟩;rw[<- C];refine ubd ?_;have:(ad.add (i*e.size+j)).block=ad.block:=by unfold Addr.add;split<;>rfl
  rw[this];exact o _ s
 |.unit,_,_,_,_,_=>trivial
 |.pair a b,_,_,_,d,h=>
  ⟨aA.mono n o (λj u D q=>d j u (by simp only[Ty.size];omega) q) h.1,
   aA.mono n o (λj u D q=>d _ u (by simp only[Ty.size];omega) q) h.2⟩
 |.fm _,_,_,_,d,h=>by
  obtain⟨r,arr,v,l,k,m,p⟩:=h;exact⟨r,arr,v,d _ _ (by simp[Ty.size]) l,n r k,(o r k).trans m,p⟩
 |.ic es t,_,_,_,d,h=>by
  rcases h with ⟨ty,u,l,k,m,p,z⟩|⟨l,k⟩
  exact .inl ⟨ty,u,l,d _ _ (by simp[Ty.size]) k,m,p,aA.mono n o (λ_ _ _ h=>h) z⟩;exact .inr ⟨l,d _ _ (by simp[Ty.size]) k⟩
 |.fc f,_,_,_,d,h=>by
  obtain⟨u,l,k,m⟩:=h;exact⟨u,d _ _ (by simp[Ty.size]) l,k,m⟩
def bu(w:World)(F:Nat->Prop)(t:Ty)(x:t.den)(v:Value):Prop:=
 v.cells.size=t.size/\(t.wide=Z↔∃ cs,v=.agg cs)/\aA w F t x (λj u=>v.cells[j]?= U u)
def bu.mono(a:∀ b,F b->F' b)(c:∀ b,F b->w'.heap[b]?= w.heap[b]?){t:Ty}{x:t.den}(h:bu w F t x v):bu w' F' t x v:=⟨h.1,h.2.1,h.2.2.mono a c (λ_ _ _ h=>h)⟩
@[reducible] def aa:List Ty->Type
 |[]=>Unit
 |t::r=>t.den×aa r
def dM(w:World)(F:Nat->Prop):(ts:List Ty)->aa ts->List Value->Prop
 |[],_,vs=>vs=[]
 |t::r,x,vs=>∃ v a,vs=v::a/\bu w F t x.1 v/\dM w F r x.2 a
def dM.mono(c:∀ b,F b->F' b)(d:∀ b,F b->w'.heap[b]?= w.heap[b]?):{ts:List Ty} -> {x:aa ts} -> {vs:List Value}->dM w F ts x vs->dM w' F' ts x vs
 |[],_,_,h=>h
 |_::_,_,_,⟨v,a,e,f,g⟩=>⟨v,a,e,f.mono c d,dM.mono c d g⟩
def fi:(ts:List Ty)->aa ts->Prop
 |[],_=>True
 |t::r,x=>Wf t x.1/\fi r x.2
def dM.wf:{ts:List Ty} -> {x:aa ts} -> {vs:List Value}->dM w F ts x vs->fi ts x
 |[],_,_,_=>trivial
 |_::_,_,_,⟨_,_,_,a,b⟩=>⟨a.2.2.wf,dM.wf b⟩
def gT(w:World)(F:Nat->Prop):(ts:List Ty)->aa ts->Value->Prop
 |[t],x,v=>bu w F t x.1 v
 |ts,x,v=>∃ vs:Array Value,v=.tuple vs/\dM w F ts x vs.toList
def fJ(w:World)(F:Nat->Prop)(rs:List Ty)(y:aa rs)(e:Ending)(w':World):Prop:=
 ∃ v F',e=.returned v/\Below w.heap.size w w'/\(∀ b,F b->F' b)/\(∀ b,F' b->(F b\/w.heap.size<=b)/\b<w'.heap.size)/\gT w' F' rs y v
def jy(P:Program)(w:World)(F:Nat->Prop)(ps rs:List Ty)(g:aa ps->aa rs)(v:Value):Prop:=
 ∃ f a,v=.func (.func f) #[] a/\(∀ args d,(callFunc f args).run P d=.ok (.enter f args) d)/\∀ (c:World) (F1:Nat->Prop),(∀ b,F b->F1 b/\c.heap[b]?= w.heap[b]?)->(∀ b,F1 b->b<c.heap.size) ->
  ∀ xs vs,dM c F1 ps xs vs->Calls P f (vs.toArray++a) c (fJ c F1 rs (g xs))
def jy.mono(d:∀ b,F b->F' b)(n:∀ b,F b->w'.heap[b]?= w.heap[b]?){ps rs:List Ty}{g:aa ps->aa rs}(h:jy P w F ps rs g v):jy P w' F' ps rs g v:=by
 obtain⟨f,c,i,k,j⟩:=h;exact⟨f,c,i,k,λo F1 e l xs vs m=>j o F1 (λb a=>⟨(e b (d b a)).1,(e b (d b a)).2.trans (n b a)⟩) l xs vs m⟩
def lq(P:Program)(w:World)(F:Nat->Prop)(ps rs:List Ty)(g:aa ps->aa rs)(D:aa ps->Prop)(v:Value):Prop:=
 ∃ f a,v=.func (.func f) #[] a/\(∀ args d,(callFunc f args).run P d=.ok (.enter f args) d)/\∀ (c:World) (F1:Nat->Prop),(∀ b,F b->F1 b/\c.heap[b]?= w.heap[b]?)->(∀ b,F1 b->b<c.heap.size) ->
  ∀ xs vs,D xs->dM c F1 ps xs vs->Calls P f (vs.toArray++a) c (fJ c F1 rs (g xs))
def lq.mono(d:∀ b,F b->F' b)(o:∀ b,F b->w'.heap[b]?= w.heap[b]?){ps rs:List Ty}{g:aa ps->aa rs}{D:aa ps->Prop}(h:lq P w F ps rs g D v):lq P w' F' ps rs g D v:=by
 obtain⟨f,c,i,k,j⟩:=h;exact⟨f,c,i,k,λp F1 e l xs vs m n=>j p F1 (λb a=>⟨(e b (d b a)).1,(e b (d b a)).2.trans (o b a)⟩) l xs vs m n⟩
inductive AC where
 |dead
 |int (k:IntKind) (n:Int)
 |bool (b:Bool)
 |str (s:ByteArray)
 |nil
 |sl (t:Ty) (l:List t.den)
 |slx (t:Ty) (l:List t.den)
 |own (id:Nat)
 |ptr (id off:Nat)
 |sptr (cs:List AC)
 |fn (f:FuncId) (caps:List AC)
 |fv (ps rs:List Ty) (g:aa ps->aa rs)
 |pv (ps rs:List Ty) (g:aa ps->aa rs) (D:aa ps->Prop)
 |mp (es:List (Int×Nat))
 |fs (es:List (Int×Nat)) (n:Int)
 |ic (es:List (Int×Nat)) (t:Ty) (x:Int×t.den)
 |ifp (ty:TypeId) (id:Nat)
 |fb (f:FuncId) (id:Nat)
inductive AV where
 |dead
 |c (a:AC)
 |agg (cs:List AC)
 |tup (vs:List AV)
 |optr (id sz i off:Nat)
 |aptr (base:AC) (n:Nat) (i:Int)
 |maybe (g:Tmp) (want:Bool) (v:AV)
inductive Ob where
 |gone
 |box (ty:TypeId) (cs:List AC)
 |fbox (cs:List AC)
 |arr (ety:TypeId) (t:Ty) (l:List t.den)
 |frz (t:Ty) (l:List t.den)
 |hole (ety:TypeId) (t:Ty) (l:List t.den) (i:Nat)
def enc:(t:Ty)->t.den->List AC
 |.int k,n=>[.int k n]
 |.bool,b=>[.bool b]
 |.str,s=>[.str s]
 |.sl e,l=>[.sl e l]
 |.unit,_=>[]
 |.pair a b,x=>enc a x.1++enc b x.2
 |.fm es,_=>[.mp es]
 |.ic es t,x=>[.ic es t x]
 |.fc (U f),_=>[.fn f []]
 |.fc V,_=>[.dead]
def fl:{t:Ty}->(x:t.den)->(enc t x).length=t.size
 |.int _,_ | .bool,_ | .str,_ | .sl _,_ | .unit,_ | .fm _,_ | .ic _ _,_ | .fc (U _),_ | .fc V,_=>rfl
 |.pair a b,x=>by simp[enc,Ty.size,fl x.1,fl x.2]
def cA{t u:Ty}(h:t=u)(l:List t.den):List u.den:=h ▸ l
def oB(k:IntKind):List AC->Option (Int×List AC)
 |.int a n::r=>if k=a then U (n,r)else V
 |_=>V
def oA:List AC->Option (Bool×List AC)
 |.bool b::r=>U (b,r)
 |_=>V
def oD:List AC->Option (ByteArray×List AC)
 |.str s::r=>U (s,r)
 |_=>V
def oC(e:Ty):List AC->Option (List e.den×List AC)
 |.sl t l::r=>if h:t=e then U (cA h l,r)else V
 |.slx t l::r=>if h:t=e then U (cA h l,r)else V
 |.nil::r=>U ([],r)
 |_=>V
def qO(es:List (Int×Nat)):List AC->Option (Unit×List AC)
 |.mp a::r=>if a=es then U ((),r)else V
 |_=>V
def qc6{t u:Ty}(h:t=u)(x:Int×t.den):Int×u.den:=h ▸ x
def qN(es:List (Int×Nat))(t:Ty):List AC->Option ((Int×t.den)×List AC)
 |.ic a b x::r=>if h:b=t then if a=es then U (qc6 h x,r)else V else V
 |_=>V
def qM(f:Option Nat):List AC->Option (Unit×List AC)
 |.fn a []::r=>if f=U a then U ((),r)else V
 |.dead::r=>if f=V then U ((),r)else V
 |_=>V
def dec:(t:Ty)->List AC->Option (t.den×List AC)
 |.int k,cs=>oB k cs
 |.bool,cs=>oA cs
 |.str,cs=>oD cs
 |.sl e,cs=>oC e cs
 |.unit,cs=>U ((),cs)
 |.pair a b,cs=>match dec a cs with
  |some (x,d)=>match dec b d with
   |some (y,c)=>U ((x,y),c)
   |none=>V
  |none=>V
 |.fm es,cs=>qO es cs
 |.ic es t,cs=>qN es t cs
 |.fc f,cs=>qM f cs
inductive PT where
 |d (t:Ty)
 |ptr (t:Ty)
 |fn (ps rs:List Ty)
 |pf (ps rs:List Ty)
 |pfn (ps rs:List Ty)
 |pk (f:Nat)
 deriving DecidableEq
@[reducible] def PT.den:PT->Type
 |.d t=>t.den
 |.ptr t=>t.den
 |.fn ps rs=>aa ps->aa rs
 |.pf ps rs=>(aa ps->aa rs)×(aa ps->Prop)
 |.pfn ps rs=>aa ps->aa rs
 |.pk _=>Unit
@[reducible] def ag:List PT->Type
 |[]=>Unit
 |t::r=>t.den×ag r
def Fg(P:Program)(w:World)(F:Nat->Prop):(p:PT)->p.den->Value->Prop
 |.d t,x,v=>bu w F t x v
 |.ptr t,x,v=>∃ ad,v=.pointer (U ad)/\F ad.block/\aA w F t x (λj u=>w.cell? (ad.add j)=U u)
 |.fn ps rs,g,v=>jy P w F ps rs g v
 |.pf ps rs,g,v=>lq P w F ps rs g.1 g.2 v
 |.pfn ps rs,g,v=>∃ ad u,v=.pointer (U ad)/\F ad.block/\w.cell? (ad.add 0)=U u/\jy P w F ps rs g u
 |.pk f,_,v=>∃ ad,v=.pointer (U ad)/\F ad.block/\w.cell? (ad.add 0)=U (.func (.func f) #[] #[])
def cJ(P:Program)(w:World)(F:Nat->Prop):(ts:List PT)->ag ts->List Value->Prop
 |[],_,vs=>vs=[]
 |t::r,x,vs=>∃ v a,vs=v::a/\Fg P w F t x.1 v/\cJ P w F r x.2 a
def av:List Prop->Prop
 |[]=>True
 |[p]=>p
 |p::r=>p/\av r
def je{r:List Prop}:av (p::r)↔p/\av r:=by
 cases r with
 |nil=>exact⟨λh=>⟨h,uT⟩,λh=>h.1⟩
 |cons q r=>exact Iff.rfl
def jd{a b:List Prop}:av (a++b)↔av a/\av b:=by
 induction a with
 |nil=>exact⟨λh=>⟨uT,h⟩,λh=>h.2⟩
 |cons p a c=>rw[uc4,je,je,c,and_assoc]
structure Ct where
 ps:List PT
 rs:List Ty
 f:ag ps->aa rs
 ok:ag ps->List Prop
def af(P:Program)(a:FuncId)(c:Ct):Prop:=
 (∀ args w,(callFunc a args).run P w=.ok (.enter a args) w) /\
 ∀ (w:World) (F:Nat->Prop) xs vs,(∀ b,F b->b<w.heap.size)->cJ P w F c.ps xs vs->av (c.ok xs)->Calls P a vs.toArray w (fJ w F c.rs (c.f xs))
structure PV where
 ty:TypeId
 k:IntKind
 n:Int
def PV.val(p:PV):Value:=if p.ty<1000000 then .iface p.ty (.int p.k p.n)else .iface (p.ty-1000000) (.agg #[.int p.k p.n])
def WG{p:PV}(h:p.ty<1000000):p.val=.iface p.ty (.int p.k p.n):=ufv h
def WF{p:PV}{T:TypeId}(h:p.ty=T+1000000):p.val=.iface T (.agg #[.int p.k p.n]):=by
 unfold PV.val;have b:¬ p.ty<1000000:=by rw[h];exact Nat.not_lt.2 (Nat.le_add_left _ _)
 have a:p.ty-1000000=T:=by rw[h];exact ub0 T 1000000
 rw[ufw b,a]
structure Pc where
 ps:List PT
 rs:List Ty
 f:ag ps->aa rs
 bad:ag ps->Bool
 pv:ag ps->PV
 ok:ag ps->List Prop
def jz(P:Program)(c:FuncId)(a:Pc):Prop:=
 (∀ args w,(callFunc c args).run P w=.ok (.enter c args) w) /\
 ∀ (w:World) (F:Nat->Prop) xs vs,(∀ b,F b->b<w.heap.size)->cJ P w F a.ps xs vs->av (a.ok xs)->Calls P c vs.toArray w λe w'=>
  (a.bad xs=Y/\fJ w F a.rs (a.f xs) e w')\/(a.bad xs=Z/\e=.panicked [{ v:=(a.pv xs).val,recovered:=Y }]/\Below w.heap.size w w')
structure St where
 n:Nat
 sl:Nat->AV
 mem:Nat->Option Ob
 gs:Nat->AV
def ap(mem:Nat->Option Ob)(γ:Nat->Value)(id:Nat)(v:Value):Prop:=
 match mem id with
 |none=>False
 |some .gone=>True
 |some _=>v=γ id
def ie:Option (Int×Nat)->Value
 |some x=>.func (.func x.2) #[] #[]
 |none=>.nilFunc
section
variable (P:Program) (w:World) (F:Nat->Prop) (R:Nat->Value->Prop)
mutual
def bc:AC->Value->Prop
 |.dead,_=>True
 |.int k n,v=>v = .int k n/\inR k n
 |.bool b,v=>v = .bool b
 |.str s,v=>v = .string s/\s.size<=maxLen
 |.nil,v=>v = .slice none 0 0
 |.sl t l,v=>aA w F (.sl t) l (λ_ u=>u=v)
 |.slx t l,v=>∃ A,v = .slice A l.length l.length/\aA w F (.sl t) l (λ_ u=>u=v)
 |.own id,v=>R id v
 |.ptr id off,v=>∃ b,R id (.pointer (some ⟨b,0,none⟩))/\v = .pointer (some ⟨b,off,none⟩)
 |.sptr cs,v=>∃ ad,v = .pointer (some ad)/\F ad.block/\aN cs (λj u=>w.cell? (ad.add j)=some u)
 |.fn f caps,v=>∃ vs:Array Value,v = .func (.func f) #[] vs/\vs.size=caps.length/\aN caps (λj u=>vs[j]? = some u)
 |.fv ps rs g,v=>jy P w F ps rs g v
 |.pv ps rs g D,v=>lq P w F ps rs g D v
 |.mp es,v=>∃ r arr ck,v = .map (some r)/\F r/\w.heap[r]? = some (.map arr ck)/\arr.toList.map (λe=>(e.key,e.val))=es.map (λx=>(Value.int .i64 x.1,Value.func (.func x.2) #[] #[]))
 |.fs es n,v=>v=ie (es.find? (λx=>x.1==n))
 |.ic es t x,v=>aA w F (.ic es t) x (λ_ u=>u=v)
 |.ifp ty id,v=>∃ b,R id (.pointer (some ⟨b,0,none⟩))/\v = .iface ty (.pointer (some ⟨b,0,none⟩))
 |.fb f id,v=>∃ b,R id (.pointer (some ⟨b,0,none⟩))/\v = .func (.func f) #[.pointer (some ⟨b,0,none⟩)] #[]
def aN:List AC->(Nat->Value->Prop)->Prop
 |[],_=>True
 |c::r,g=>(∃ u,g 0 u/\u.oneCell'=true/\bc c u)/\aN r (λj u=>g (j+1) u)
end
mutual
def aE:AV->Value->Prop
 |.dead,_=>True
 |.c a,v=>v.oneCell'=true/\bc P w F R a v
 |.agg cs,v=>∃ arr:Array Value,v = .agg arr/\arr.size=cs.length/\aN P w F R cs (λj u=>arr[j]? = some u)
 |.tup vs,v=>∃ arr:Array Value,v = .tuple arr/\arr.size=vs.length/\ln vs (λj u=>arr[j]? = some u)
 |.optr id sz i off,v=>∃ A n c,R id (.slice (some A) n c)/\v = .pointer (some (A.add (i*sz+off)))
 |.aptr base n i,v=>∃ ad,bc P w F R base (.pointer (some ad))/\0<=i/\i<n/\v = .pointer (some (ad.add i.toNat))
 |.maybe _ _ _,_=>False
def ln:List AV->(Nat->Value->Prop)->Prop
 |[],_=>True
 |c::r,g=>(∃ u,g 0 u/\aE c u)/\ln r (λj u=>g (j+1) u)
end
end
section
variable {P:Program} {w w':World} {F F':Nat->Prop} {R R':Nat->Value->Prop}
mutual
def bc.mono (hF:∀ b,F b->F' b) (hw:∀ b,F b->w'.heap[b]? = w.heap[b]?) (hR:∀ id v,R id v->R' id v):(c:AC) -> {v:Value}->bc P w F R c v->bc P w' F' R' c v
 |.dead,_,_=>trivial
 |.int _ _,_,h=>h
 |.bool _,_,h=>h
 |.str _,_,h=>h
 |.nil,_,h=>h
 |.sl _ _,_,h=>by
  simp only[bc] at h |-;exact aA.mono (t:=.sl _) hF hw (λ_ _ _ h=>h) h
 |.slx _ _,_,⟨A,h1,h2⟩=>⟨A,h1,aA.mono (t:=.sl _) hF hw (λ_ _ _ h=>h) h2⟩
 |.own id,_,h=>hR id _ h
 |.ptr id off,_,⟨u,h1,h2⟩=>⟨u,hR _ _ h1,h2⟩
 |.sptr cs,_,⟨ad,h1,h2,h3⟩=>⟨ad,h1,hF _ h2,aN.mono hF hw hR cs (λj u hu=>by
   rw[<- hu];refine ubd ?_;have:(ad.add j).block=ad.block:=by unfold Addr.add; split<;>rfl
   rw[this];exact hw _ h2) h3⟩
 |.fn f caps,_,⟨vs,h1,h2,h3⟩=>⟨vs,h1,h2,aN.mono hF hw hR caps (λ_ _ h=>h) h3⟩
 |.fv _ _ _,_,h=>by
  simp only[bc] at h |-;exact jy.mono hF hw h
 |.pv _ _ _ _,_,h=>by
  simp only[bc] at h |-;exact lq.mono hF hw h
 |.mp _,_,h=>by
  obtain⟨r,arr,ck,h1,h2,h3,h4⟩:=h;exact⟨r,arr,ck,h1,hF r h2,(hw r h2).trans h3,h4⟩
 |.fs _ _,_,h=>h
 |.ic _ _ _,_,h=>by
  simp only[bc] at h |-;exact aA.mono (t:=.ic _ _) hF hw (λ_ _ _ h=>h) h
 |.ifp _ _,_,⟨b,h1,h2⟩=>⟨b,hR _ _ h1,h2⟩
 |.fb _ _,_,⟨b,h1,h2⟩=>⟨b,hR _ _ h1,h2⟩
def aN.mono (hF:∀ b,F b->F' b) (hw:∀ b,F b->w'.heap[b]? = w.heap[b]?) (hR:∀ id v,R id v->R' id v) :
  (cs:List AC) -> {g g':Nat->Value->Prop}->(∀ j u,g j u->g' j u)->aN P w F R cs g->aN P w' F' R' cs g'
 |[],_,_,_,_=>trivial
 |c::r,_,_,hg,⟨⟨u,h1,h2,h3⟩,h4⟩=>⟨⟨u,hg _ _ h1,h2,bc.mono hF hw hR c h3⟩,aN.mono hF hw hR r (λ_ _ h=>hg _ _ h) h4⟩
end
mutual
def aE.mono (hF:∀ b,F b->F' b) (hw:∀ b,F b->w'.heap[b]? = w.heap[b]?) (hR:∀ id v,R id v->R' id v):(c:AV) -> {v:Value}->aE P w F R c v->aE P w' F' R' c v
 |.dead,_,_=>trivial
 |.c a,_,h=>⟨h.1,bc.mono hF hw hR a h.2⟩
 |.agg cs,_,⟨arr,h1,h2,h3⟩=>⟨arr,h1,h2,aN.mono hF hw hR cs (λ_ _ h=>h) h3⟩
 |.tup vs,_,⟨arr,h1,h2,h3⟩=>⟨arr,h1,h2,ln.mono hF hw hR vs (λ_ _ h=>h) h3⟩
 |.optr _ _ _ _,_,⟨A,n,c,h1,h2⟩=>⟨A,n,c,hR _ _ h1,h2⟩
 |.aptr base _ _,_,⟨ad,h1,h2⟩=>⟨ad,bc.mono hF hw hR base h1,h2⟩
 |.maybe _ _ _,_,h=>h
def ln.mono (hF:∀ b,F b->F' b) (hw:∀ b,F b->w'.heap[b]? = w.heap[b]?) (hR:∀ id v,R id v->R' id v) :
  (cs:List AV) -> {g g':Nat->Value->Prop}->(∀ j u,g j u->g' j u)->ln P w F R cs g->ln P w' F' R' cs g'
 |[],_,_,_,_=>trivial
 |c::r,_,_,hg,⟨⟨u,h1,h3⟩,h4⟩=>⟨⟨u,hg _ _ h1,aE.mono hF hw hR c h3⟩,ln.mono hF hw hR r (λ_ _ h=>hg _ _ h) h4⟩
end
end
def aN.at_:{cs:List AC} -> {g:Nat->Value->Prop}->aN P w F R cs g ->
  ∀ {j:Nat} {c:AC},cs[j]?= U c->∃ u,g j u/\u.oneCell'=Z/\bc P w F R c u
 |[],_,_,_,_,h=>by simp at h
 |_::_,_,h,0,_,a=>by simp at a;subst a;exact h.1
 |_::_,_,h,j+1,_,a=>aN.at_ h.2 (by simpa using a)
def ki:(cs:List AC) -> {g:Nat->Value->Prop} ->
  (∀ (j:Nat) (c:AC),cs[j]?= U c->∃ u,g j u/\u.oneCell'=Z/\bc P w F R c u)->aN P w F R cs g
 |[],_,_=>trivial
 |c::r,_,h=>⟨h 0 c rfl,ki r (λj a b=>h (j+1) a (by simpa using b))⟩
def aN.append(a b:List AC)(i:aN P w F R a g)(k:aN P w F R b (λj u=>g (a.length+j) u)):aN P w F R (a++b) g:=by
 refine ki _ λj c d=>?_;rcases uep j a.length with h|h
 rw[uaj h]at d;exact i.at_ d;rw[uae h]at d;obtain⟨u,e,f⟩:=k.at_ d;rw[show a.length+(j-a.length)=j from by omega]at e;exact⟨u,e,f⟩
def aA.enc:(t:Ty)->(x:t.den) -> {g:Nat->Value->Prop}->aA w F t x g->aN P w F R (Ab.enc t x) g
 |.int k,n,g,h=>⟨⟨_,h.1,rfl,rfl,h.2⟩,uT⟩
 |.bool,b,g,h=>⟨⟨_,h,rfl,rfl⟩,uT⟩
 |.str,b,g,h=>⟨⟨_,h.1,rfl,rfl,h.2⟩,uT⟩
 |.sl e,l,g,h=>by
  obtain⟨A,c,o,d,f,i⟩:=h;exact⟨⟨_,o,rfl,⟨A,c,rfl,d,f,i⟩⟩,uT⟩
 |.unit,_,_,_=>trivial
 |.pair a b,x,g,h=>aN.append _ _ (aA.enc a x.1 h.1) (by rw[fl];exact aA.enc b x.2 h.2)
 |.fm es,_,g,h=>by
  obtain⟨r,arr,m,d,f,i,j⟩:=h;exact⟨⟨_,d,rfl,⟨r,arr,m,rfl,f,i,j⟩⟩,uT⟩
 |.ic es t,x,g,h=>by
  rcases h with ⟨ty,u,d,f,i,j,p⟩|⟨d,f⟩
  exact⟨⟨_,f,rfl,.inl ⟨ty,u,d,rfl,i,j,p⟩⟩,uT⟩;exact⟨⟨_,f,rfl,.inr ⟨d,rfl⟩⟩,uT⟩
 |.fc (U k),_,g,h=>by
  obtain⟨u,d,f,i⟩:=h;exact⟨⟨u,d,f,#[],i k rfl,rfl,uT⟩,uT⟩
 |.fc V,_,g,h=>by
  obtain⟨u,d,f,_⟩:=h;exact⟨⟨u,d,f,uT⟩,uT⟩
def aN.split(a b:List AC)(h:aN P w F R (a++b) g):aN P w F R a g/\aN P w F R b (λj u=>g (a.length+j) u):=
 ⟨ki _ λj c d=>h.at_ (by rw[uaj (uak.1 d).1];exact d),
  ki _ λj c d=>h.at_ (j:=a.length+j) (by rw[uae (Nat.le_add_right _ _),uax];exact d)⟩
def LH:(t:Ty)->(x:t.den) -> {g:Nat->Value->Prop}->aN P w F R (Ab.enc t x) g->aA w F t x g
 |.int k,n,g,⟨⟨u,d,_,i,j⟩,_⟩=>⟨i ▸ d,j⟩
 |.bool,b,g,⟨⟨u,d,_,i⟩,_⟩=>by
  obtain rfl:u=.bool b:=i;exact d
 |.str,b,g,⟨⟨u,d,_,i,j⟩,_⟩=>⟨i ▸ d,j⟩
 |.sl e,l,g,⟨⟨u,d,_,A,c,i,j⟩,_⟩=>⟨A,c,i ▸ d,j⟩
 |.unit,_,_,_=>trivial
 |.pair a b,x,g,h=>by
  obtain⟨d,m⟩:=aN.split _ _ h;rw[fl]at m;exact⟨LH a x.1 d,LH b x.2 m⟩
 |.fm es,_,g,⟨⟨u,d,_,r,arr,y,i,j⟩,_⟩=>⟨r,arr,y,i ▸ d,j⟩
 |.ic es t,x,g,⟨⟨u,d,_,i⟩,_⟩=>by
  rcases i with ⟨ty,v,o,p,s⟩|⟨o,p⟩
  exact .inl ⟨ty,v,o,p ▸ d,s⟩;exact .inr ⟨o,p ▸ d⟩
 |.fc (U k),_,g,⟨⟨u,d,m,vs,i,j,_⟩,_⟩=>by
  have z:=Array.size_eq_zero_iff.mp j;subst z;exact⟨u,d,m,λf q=>by cases q;exact i⟩
 |.fc V,_,g,⟨⟨u,d,m,_⟩,_⟩=>⟨u,d,m,λf q=>nomatch q⟩
section
variable {P:Program} {w:World} {F:Nat->Prop} {R:Nat->Value->Prop}
def qxd{cs:List AC}{r:List AC}(h:oB k cs=U (x,r))(e:aN P w F R cs g):
  (g 0 (.int k x)/\inR k x)/\aN P w F R r (λj u=>g (1+j) u):=by
 unfold oB at h;split at h;split at h;rename_i d;subst d;cases h;obtain⟨⟨u,a,_,rfl,b⟩,c⟩:=e;exact⟨⟨a,b⟩,by simpa[ueq]using c⟩;cases h;cases h
def qxc{cs:List AC}{x:Bool}{r:List AC}(h:oA cs=U (x,r))(c:aN P w F R cs g):
  g 0 (.bool x)/\aN P w F R r (λj u=>g (1+j) u):=by
 unfold oA at h;split at h;cases h;obtain⟨⟨u,a,_,rfl⟩,b⟩:=c;exact⟨a,by simpa[ueq]using b⟩;cases h
def qxf{cs:List AC}{x:ByteArray}{r:List AC}(h:oD cs=U (x,r))(d:aN P w F R cs g):
  (g 0 (.string x)/\x.size<=maxLen)/\aN P w F R r (λj u=>g (1+j) u):=by
 unfold oD at h;split at h;cases h;obtain⟨⟨u,a,_,rfl,b⟩,c⟩:=d;exact⟨⟨a,b⟩,by simpa[ueq]using c⟩;cases h
def qxe{e:Ty}{cs:List AC}{x:List e.den}{r:List AC}(h:oC e cs=U (x,r))(m:aN P w F R cs g):
  aA w F (.sl e) x g/\aN P w F R r (λj u=>g (1+j) u):=by
 unfold oC at h;split at h;split at h;rename_i t l o n;subst n;cases h;obtain⟨⟨u,a,_,b⟩,d⟩:=m;refine⟨?_,by simpa[ueq]using d⟩;obtain⟨A,c,f,k⟩:=b;subst f;exact⟨A,c,a,k⟩;cases h;split at h;rename_i t l o n;subst n;cases h;obtain⟨⟨u,a,_,b⟩,d⟩:=m;refine⟨?_,by simpa[ueq]using d⟩;obtain⟨_,_,A,c,f,k⟩:=b;subst f;exact⟨A,c,a,k⟩;cases h;cases h;obtain⟨⟨u,a,_,b⟩,d⟩:=m;subst b;exact⟨⟨V,0,a,ue9 _,by simp,λi x hi=>by simp at hi⟩,by simpa[ueq]using d⟩;cases h
def aA.dec:(t:Ty) -> {cs:List AC} -> {x:t.den} -> {r:List AC} -> {g:Nat->Value->Prop}->Ab.dec t cs=U (x,r)->aN P w F R cs g ->
  aA w F t x g/\aN P w F R r (λj u=>g (t.size+j) u)
 |.int _,_,_,_,_,h,c=>qxd h c
 |.bool,_,_,_,_,h,c=>qxc h c
 |.str,_,_,_,_,h,c=>qxf h c
 |.sl _,_,_,_,_,h,c=>qxe h c
 |.unit,_,_,_,_,h,c=>by
  obtain⟨_,rfl⟩:=h;exact⟨uT,by simpa[Ty.size]using c⟩
 |.pair a b,cs,x,r,g,h,c=>by
  simp only[Ab.dec]at h;split at h;rename_i K G d;split at h;rename_i L H o;cases h;obtain⟨l,e⟩:=aA.dec a d c;obtain⟨m,n⟩:=aA.dec b o e;exact⟨⟨l,m⟩,by simpa[Ty.size,ueh]using n⟩;cases h;cases h
 |.fm es,cs,x,r,g,h,c=>by
  simp only[Ab.dec]at h;unfold qO at h;split at h<;>try trivial
  split at h<;>try trivial
  rename_i q;subst q;obtain⟨_,rfl⟩:=h;obtain⟨⟨u,d,_,p⟩,i⟩:=c;obtain⟨E,arr,z,rfl,e,m,n⟩:=p;exact⟨⟨E,arr,z,d,e,m,n⟩,by simpa[Ty.size,ueq]using i⟩
 |.ic es t,cs,x,r,g,h,c=>by
  simp only[Ab.dec]at h;unfold qN at h;split at h<;>try trivial
  split at h<;>try trivial
  rename_i D;subst D;split at h<;>try trivial
  rename_i q;subst q;cases h;obtain⟨⟨u,d,_,p⟩,i⟩:=c;refine⟨?_,by simpa[Ty.size,ueq]using i⟩;rcases p with ⟨ty,v,l,e,m,n,A⟩|⟨l,e⟩
  exact .inl ⟨ty,v,l,by rw[e];exact d,m,n,A⟩;exact .inr ⟨l,by rw[e];exact d⟩
 |.fc f,cs,x,r,g,h,c=>by
  simp only[Ab.dec]at h;unfold qM at h;split at h<;>try trivial
  split at h<;>try trivial
  rename_i s;subst s;obtain⟨_,rfl⟩:=h;obtain⟨⟨u,d,o,p⟩,i⟩:=c;obtain⟨vs,rfl,B,_⟩:=p;have C:=Array.size_eq_zero_iff.mp B;subst C;exact⟨⟨_,d,o,λk y=>by cases y;rfl⟩,by simpa[Ty.size,ueq]using i⟩;split at h<;>try trivial
  rename_i s;subst s;obtain⟨_,rfl⟩:=h;obtain⟨⟨u,d,o,_⟩,i⟩:=c;exact⟨⟨u,d,o,λk y=>nomatch y⟩,by simpa[Ty.size,ueq]using i⟩
end
def cj:Nat:=1099511627776
def dL:Nat:=1208925819614629174706176
def ed(b off a:Nat):Nat:=b+cj*(1+off+1024*a)
def rY(e:Nat):Nat:=e%cj
def cB(e:Nat):Nat:=(e/cj-1)%1024
def jV(e:Nat):Nat:=(e/cj-1)/1024
def IU(w:World)(sz off:Nat)(v:Value)(i:Nat)(u:Value):Prop:=∃ A n c,v=.slice (U A) n c/\w.cell? (A.add (i*sz+off))=U u
def innB(w:World)(e sz n:Nat)(K:Nat->Prop)(v:Value)(b:Nat):Prop:=∃ i u,i<n/\¬ K i/\IU w sz (cB e) v i u/\u.ownBlock=U b
def bK(w:World):Ob->Value->Nat->Prop
 |.box _ _,v,b=>∃ a,v=.pointer (U a)/\a.block=b
 |.arr e t l,v,b=>v.ownBlock=U b\/(cj<=e/\innB w e t.size l.length (λ_=>False) v b)\/v=.map (U b)
 |.hole e t l i,v,b=>v.ownBlock=U b\/innB w e t.size l.length (· = i) v b
 |_,_,_=>False
section
variable (P:Program) (B:Nat) (w:World) (F:Nat->Prop) (R:Nat->Value->Prop)
def bU(t:Ty)(l:List t.den)(xs:List Value):Prop:=
 ∀ i x,l[i]?= U x->aA w F t x (λj u=>xs[i*t.size+j]?= U u)
structure RwOK (v:Value) (e:Nat) (t:Ty) (l:List t.den) (K:Nat->Prop) (xs:List Value):Prop where
 own:w.ownsRow B (rY e) t.size v l.length xs
 nf:∀ g,v.ownBlock=some g->¬ F g
 one:∀ u∈xs,u.oneCell'=true
 cells:∀ (i:Nat) x k c,l[i]?= some x->(enc t x)[k]?= some c->k≠cB e->∃ u,xs[i*t.size+k]?= some u/\bc P w F (λ_ _=>False) c u
 inn:∀ (i:Nat) x,l[i]?= some x->¬ K i->∃ t' li u ys,(enc t x)[cB e]?= some (.sl t' li)/\xs[i*t.size+cB e]?= some u/\w.ownsRow B (jV e) t'.size u li.length ys/\bU w F t' li ys/\(∀ y∈ys,y.oneCell'=true) /\
  ∀ b,u.ownBlock=some b->v.ownBlock≠some b/\¬ F b
 disj:∀ i j ui uj b,i<l.length->j<l.length->¬ K i->¬ K j->i≠j->xs[i*t.size+cB e]?= some ui->xs[j*t.size+cB e]?= some uj->ui.ownBlock=some b->uj.ownBlock≠some b
def wE(t:Ty)(l:List t.den)(v:Value):Prop:=
 ∃ b es a,v=.map (U b)/\w.heap[b]?= U (.map es a)/\¬ F b/\B<=b/\t.flat=Z/\es.size=l.length/\l.length<=maxLen /\
  ∀ (i:Nat) x,l[i]?= U x->∃ e,es[i]?= U e/\e.key.oneCell'=Z/\e.val.oneCell'=Z/\aA w (λ_=>False) t x (λj u=>[e.key,e.val][j]?= U u)
def gg(v:Value)(ety:Nat)(t:Ty)(l:List t.den):Prop:=
 ∃ xs,w.ownsRow B ety t.size v l.length xs/\(∀ g,v.ownBlock=U g->¬ F g)/\bU w F t l xs/\(∀ u∈xs,u.oneCell'=Z)
def fI(v:Value):Ob->Prop
 |.gone=>True
 |.box ty cs=>∃ b arr,v=.pointer (U ⟨b,0,V⟩)/\w.heap[b]?= U (.cells arr ty (0,0))/\¬ F b/\B<=b/\arr.size=cs.length/\aN P w F R cs (λj u=>arr[j]?= U u)
 |.fbox cs=>∃ b,v=.pointer (U ⟨b,0,V⟩)/\F b/\aN P w F R cs (λj u=>w.cell? ⟨b,j,V⟩=U u)
 |.arr ety t l=>(ety<cj/\gg B w F v ety t l)\/(cj<=ety/\ety<dL/\∃ xs,RwOK P B w F v ety t l (λ_=>False) xs)\/(dL<=ety/\wE B w F t l v)
 |.frz t l=>aA w F (.sl t) l (λ_ u=>u=v)
 |.hole ety t l i=>cj<=ety/\ety<dL/\∃ xs,RwOK P B w F v ety t l (· = i) xs
end
structure MemOK (P:Program) (B:Nat) (w:World) (F:Nat->Prop) (γ:Nat->Value) (m:Nat->Option Ob):Prop where
 ob:∀ id o,m id=some o->fI P B w F (ap m γ) (γ id) o
 apart:∀ i j oi oj b,i≠j->m i=some oi->m j=some oj->bK w oi (γ i) b->¬ bK w oj (γ j) b
structure Step (B:Nat) (w:World) (F:Nat->Prop) (γ:Nat->Value) (m:Nat->Option Ob) (w':World) (F':Nat->Prop) (γ':Nat->Value) (m':Nat->Option Ob):Prop where
 hF:∀ b,F b->F' b
 hw:∀ b,F b->w'.heap[b]?= w.heap[b]?
 hR:∀ id v,ap m γ id v->ap m' γ' id v
 old:∀ b,b<B->w'.heap[b]?= w.heap[b]?
 os:w'.os=w.os
 tape:w'.tape=w.tape
 output:w'.output=w.output
 size:w.heap.size<=w'.heap.size
 bd:∀ b,F' b->b<w'.heap.size
 new:∀ b,F' b->F b\/B<=b
section
variable {P:Program} {B:Nat} {w w' w'':World} {F F' F'':Nat->Prop} {γ γ' γ'':Nat->Value} {m m' m'':Nat->Option Ob}
def Step.refl(a:∀ b,F b->b<w.heap.size):Step B w F γ m w F γ m:=
 ⟨λ_ h=>h,λ_ _=>rfl,λ_ _ h=>h,λ_ _=>rfl,rfl,rfl,rfl,ue9 _,a,λ_ h=>.inl h⟩
def Step.trans(h:Step B w F γ m w' F' γ' m')(k:Step B w' F' γ' m' w'' F'' γ'' m''):Step B w F γ m w'' F'' γ'' m'':=
 ⟨λb a=>k.hF b (h.hF b a),λb a=>(k.hw b (h.hF b a)).trans (h.hw b a),λi v d=>k.hR i v (h.hR i v d),λb a=>(k.old b a).trans (h.old b a),
  k.os.trans h.os,k.tape.trans h.tape,k.output.trans h.output,ueo h.size k.size,k.bd,λb a=>(k.new b a).elim (λc=>h.new b c) .inr⟩
def Step.repA{a:AV}(h:Step B w F γ m w' F' γ' m')(b:aE P w F (ap m γ) a v):aE P w' F' (ap m' γ') a v:=aE.mono h.hF h.hw h.hR a b
def Step.repCL{cs:List AC}(h:Step B w F γ m w' F' γ' m')(a:aN P w F (ap m γ) cs g):aN P w' F' (ap m' γ') cs g:=
 aN.mono h.hF h.hw h.hR cs (λ_ _ h=>h) a
def bU.mono{t:Ty}{l:List t.den}(a:∀ b,F b->F' b)(c:∀ b,F b->w'.heap[b]?= w.heap[b]?)(h:bU w F t l xs):bU w' F' t l xs:=
 λi x hi=>(h i x hi).mono a c (λ_ _ _ h=>h)
def rk{sz:Nat}(h:w.ownsRow B e sz v n xs)(a:xs[i*sz+off]?= U u):IU w sz off v i u:=by
 have c:=λ{g}=>h.cells (g:=g);rcases h.2 with ⟨_,rfl⟩|⟨g,b,cur,rfl,_⟩
 have:=h.1;simp only[Nat.zero_mul,uaz]at this;subst this;simp at a;exact⟨_,_,_,rfl,c rfl _ u a⟩
def R6{sz:Nat}{b:Value}(h:w.ownsRow B e sz v n xs)(hi:xs[i*sz+off]?= U b)(g:IU w sz off v i u):u=b:=by
 obtain⟨A,k,c,rfl,d⟩:=g;obtain⟨j,m,l,f,a⟩:=rk h hi;cases f;rw[d]at a;exact(ud3 a)
def R5{e:Nat}{t:Ty}{l:List t.den}(d:RwOK P B w F v e t l K xs)(h:innB w e t.size l.length K v b):b<w.heap.size/\¬ F b/\B<=b:=by
 obtain⟨i,u,hi,j,k,a⟩:=h;obtain⟨n,m,o,p,_,f,c,_,_,g⟩:=d.inn i _ (uaq hi) j;obtain rfl:=R6 d.own f k;exact⟨(c.lt b a).2,(g b a).2,(c.lt b a).1⟩
def gZ{id:Nat}{o:Ob}(h:fI P B w F R (γ id) o)(d:bK w o (γ id) b):b<w.heap.size/\¬ F b/\B<=b:=by
 cases o with
 |gone=>exact d.elim
 |fbox cs=>exact d.elim
 |frz t l=>exact d.elim
 |box ty cs=>
  obtain⟨r,arr,e,g,j,m,_⟩:=h;obtain⟨a,q,rfl⟩:=d;rw[e]at q;cases q;exact⟨(uaf.1 g).1,j,m⟩
 |arr ety t l=>
  rcases h with ⟨p,xs,e,g,_⟩|⟨f,_,xs,e⟩|⟨f,r,es,s,e,g,j,m,_⟩
  rcases d with d|⟨f,_⟩|d
  exact⟨(e.lt b d).2,g b d,(e.lt b d).1⟩;exact absurd p (Nat.not_lt.2 f);rcases e.2 with ⟨k,_⟩|⟨_,_,_,k,_⟩<;>(rw[d]at k;cases k)
  rcases d with d|⟨_,d⟩|d
  exact⟨(e.own.lt b d).2,e.nf b d,(e.own.lt b d).1⟩;exact R5 e d;rcases e.own.2 with ⟨k,_⟩|⟨_,_,_,k,_⟩<;>(rw[d]at k;cases k)
  rw[e]at d;rcases d with d|⟨_,i,u,_,_,⟨A,n,c,d,_⟩,_⟩|d
  cases d;cases d;cases d;exact⟨(uaf.1 g).1,j,m⟩
 |hole ety t l i=>
  obtain⟨_,_,xs,e⟩:=h;rcases d with d|d
  exact⟨(e.own.lt b d).2,e.nf b d,(e.own.lt b d).1⟩;exact R5 e d
def gg.of{e:Nat}{t:Ty}{l:List t.den}(h:fI P B w F R v (.arr e t l))(a:e<cj):gg B w F v e t l:=by
 rcases h with ⟨_,h⟩|⟨k,_⟩|⟨k,_⟩
 exact h;exact absurd a (Nat.not_lt.2 k);exact absurd a (Nat.not_lt.2 (ueo (by decide) k))
def lE{e:Nat}{t:Ty}{l:List t.den}(a:e<cj)(c:∀ b,v ≠ .map (U b)):bK w (.arr e t l) v b↔v.ownBlock=U b:=
 ⟨λh=>by
  rcases h with h|⟨h,_⟩|h
  exact h;exact absurd a (Nat.not_lt.2 h);exact absurd h (c b),.inl⟩
def UD{e:Nat}{t:Ty}{l:List t.den}(h:fI P B w F R v (.arr e t l))(d:e<dL):∃ b xs,w.ownsRow B b t.size v l.length xs/\∀ g,v.ownBlock=U g->¬ F g:=by
 rcases h with ⟨_,xs,a,c,_⟩|⟨_,_,xs,a⟩|⟨k,_⟩
 exact⟨_,xs,a,c⟩;exact⟨_,xs,a.own,a.nf⟩;exact absurd d (Nat.not_lt.2 k)
def nq{sz:Nat}(h:w.ownsRow B e sz v n xs)(b:Nat):v ≠ .map (U b):=by
 rintro rfl;rcases h.2 with ⟨k,_⟩|⟨_,_,_,k,_⟩<;>cases k
def pm{sz:Nat}(h:w.ownsRow B e sz v n xs)(d:∀ b,v.ownBlock=U b->w'.heap[b]?= w.heap[b]?):w'.ownsRow B e sz v n xs:=by
 refine⟨h.1,?_⟩;rcases h.2 with i|⟨g,a,cur,rfl,c,f,rest⟩
 exact .inl i;exact .inr ⟨g,a,cur,rfl,c,(d g rfl).trans f,rest⟩
def R4{e sz:Nat}(d:∀ b,v.ownBlock=U b->w'.heap[b]?= w.heap[b]?):innB w' e sz n K v b->innB w e sz n K v b:=by
 rintro⟨i,u,hi,f,⟨A,k,c,rfl,g⟩,a⟩;refine⟨i,u,hi,f,⟨A,k,c,rfl,?_⟩,a⟩;rw[<- g];refine(ubd ?_).symm;have:(A.add (i*sz+cB e)).block=A.block:=by unfold Addr.add;split<;>rfl
 rw[this];exact d _ rfl
def tU{o:Ob}(d:∀ b,bK w o v b->w'.heap[b]?= w.heap[b]?):bK w' o v b->bK w o v b:=by
 intro c;cases o with
 |gone=>exact c
 |fbox cs=>exact c
 |frz t l=>exact c
 |box ty cs=>exact c
 |hole ety t l i=>exact c.imp id (R4 (λb a=>d b (.inl a)))
 |arr ety t l=>exact c.imp id (.imp (λh=>⟨h.1,R4 (λb a=>d b (.inl a)) h.2⟩) id)
def RwOK.innB{e:Nat}{t:Ty}{l:List t.den}(h:RwOK P B w F v e t l K xs)(hi:i<l.length)(c:¬ K i)(d:xs[i*t.size+cB e]?= U u)(a:u.ownBlock=U b):Ab.innB w e t.size l.length K v b:=
 ⟨i,u,hi,c,rk h.own d,a⟩
def RwOK.keep{e:Nat}{t:Ty}{l:List t.den}(h:RwOK P B w F v e t l K xs)(n:∀ b,F b->F' b)(o:∀ b,F b->w'.heap[b]?= w.heap[b]?)(j:∀ b,v.ownBlock=U b\/Ab.innB w e t.size l.length K v b->w'.heap[b]?= w.heap[b]? /\ ¬ F' b):RwOK P B w' F' v e t l K xs:=
 ⟨pm h.own (λb d=>(j b (.inl d)).1),λg D=>(j g (.inl D)).2,h.one,λi x k c hi C f=>by
   obtain⟨u,z,A⟩:=h.cells i x k c hi C f;exact⟨u,z,bc.mono n o (λ_ _ h=>h) c A⟩,
  λi x hi f=>by
   obtain⟨G,E,u,H,p,m,q,r,s,y⟩:=h.inn i x hi f;have d:=λb d=>j b (.inr (h.innB (uak.1 hi).1 f m d));exact⟨G,E,u,H,p,m,pm q (λb a=>(d b a).1),r.mono n o,s,λb a=>⟨(y b a).1,(d b a).2⟩⟩,
  h.disj⟩
def fI.keep{o:Ob}(h:fI P B w F R v o)(k:∀ b,F b->F' b)(n:∀ b,F b->w'.heap[b]?= w.heap[b]?)(C:∀ id v,R id v->R' id v)(p:∀ b,bK w o v b->w'.heap[b]?= w.heap[b]? /\ ¬ F' b):fI P B w' F' R' v o:=by
 cases o with
 |gone=>trivial
 |fbox cs=>
  obtain⟨b,a,f,q⟩:=h;exact⟨b,a,k b f,aN.mono k n C cs (λj u K=>by rw[<- K];exact ubd (n b f)) q⟩
 |frz t l=>
  simp only[fI]at h |-;exact aA.mono k n (λ_ _ _ h=>h) h
 |box ty cs=>
  obtain⟨b,arr,a,f,q,r,z,A⟩:=h;obtain⟨s,y⟩:=p b ⟨_,a,rfl⟩;exact⟨b,arr,a,s.trans f,y,r,z,aN.mono k n C cs (λ_ _ h=>h) A⟩
 |arr ety t l=>
  rcases h with ⟨d,xs,a,f,q,r⟩|⟨c,d,xs,a⟩|⟨c,b,es,D,a,f,q,r,z,A,E,G⟩
  exact .inl ⟨d,xs,pm a (λb m=>(p b (.inl m)).1),λg H=>(p g (.inl H)).2,q.mono k n,r⟩;exact .inr (.inl ⟨c,d,xs,a.keep k n (λb m=>p b (m.imp id (λh=>.inl ⟨c,h⟩)))⟩);obtain⟨s,y⟩:=p b (.inr (.inr a));exact .inr (.inr ⟨c,b,es,D,a,s.trans f,y,r,z,A,E,λi x L=>by
   obtain⟨e,M,N,O,Q⟩:=G i x L;exact⟨e,M,N,O,Q.mono (λ_ h=>h) (λ_ h=>h.elim) (λ_ _ _ h=>h)⟩⟩)
 |hole ety t l i=>
  obtain⟨c,d,xs,a⟩:=h;exact⟨c,d,xs,a.keep k n p⟩
def MemOK.keep(h:MemOK P B w F γ m)(p:∀ b,F b->F' b)(q:∀ b,F b->w'.heap[b]?= w.heap[b]?)(c:∀ id o b,m id=U o->bK w o (γ id) b->w'.heap[b]?= w.heap[b]? /\ ¬ F' b):MemOK P B w' F' γ m:=
 ⟨λid o k=>(h.ob id o k).keep p q (λ_ _ h=>h) (λb a=>c id o b k a),λi j l n b f hi g d e=>
  h.apart i j l n b f hi g (tU (λb a=>(c i l b hi a).1) d) (tU (λb a=>(c j n b g a).1) e)⟩
def Step.below(f:MemOK P B w F γ m)(l:B<=w.heap.size)(d:∀ b,F b->b<w.heap.size)(a:Below w.heap.size w w')(e:∀ b,F b->F' b)(c:∀ b,F' b->(F b\/w.heap.size<=b)/\b<w'.heap.size):
  Step B w F γ m w' F' γ m/\MemOK P B w' F' γ m:=by
 refine⟨⟨e,λb h=>a.block b (d b h),λ_ _ h=>h,λb h=>a.block b (by omega),a.os,a.tape,a.output,a.size,λb h=>(c b h).2,λb h=>(c b h).1.elim .inl (λh=>.inr (by omega))⟩,?_⟩;refine f.keep e (λb h=>a.block b (d b h)) λid o b k j=>?_;obtain⟨g,i,_⟩:=gZ (f.ob id o k) j;exact⟨a.block b g,λh=>(c b h).1.elim i (by omega)⟩
def upd(m:Nat->Option Ob)(id:Nat)(o:Ob):Nat->Option Ob:=λi=>if i=id then U o else m i
def ax(m:Nat->Option Ob):List (Nat×Ob)->Nat->Option Ob
 |[]=>m
 |(id,o)::r=>ax (upd m id o) r
def cU(γ:Nat->Value)(id:Nat)(v:Value):Nat->Value:=λi=>if i=id then v else γ i
def iX(m:Nat->Option Ob)(id:Nat)(o:Ob):upd m id o id=U o:=by simp[upd]
def fa(m:Nat->Option Ob){id:Nat}(o:Ob)(h:i≠id):upd m id o i=m i:=by simp[upd,h]
def fy(γ:Nat->Value)(id:Nat)(v:Value):cU γ id v id=v:=by simp[cU]
def eC(γ:Nat->Value){id:Nat}(v:Value)(h:i≠id):cU γ id v i=γ i:=by simp[cU,h]
def nx{id:Nat}{o o0:Ob}(a:m id=U o0)(b:o0=.gone->o=.gone):∀ i v,ap m γ i v->ap (upd m id o) γ i v:=by
 intro i v h;unfold ap at *;by_cases hi:i=id;subst hi;rw[iX];cases o<;>cases o0<;>simp_all
 rw[fa _ _ hi];exact h
def MemOK.change(h:MemOK P B w F γ m){id:Nat}{o o0:Ob}(p:m id=U o0)(D:o0=.gone->o=.gone)(C:∀ b,F b->F' b)(E:∀ b,F b->w'.heap[b]?= w.heap[b]?)(l:∀ b,bK w' o (γ id) b->bK w o0 (γ id) b)(n:∀ b,b<w.heap.size->¬ bK w o0 (γ id) b->w'.heap[b]?= w.heap[b]? /\ (F' b->F b))(u:fI P B w' F' (ap (upd m id o) γ) (γ id) o):MemOK P B w' F' γ (upd m id o):=by
 have v:∀ i a,i≠id->m i=U a->∀ b,bK w a (γ i) b->w'.heap[b]?= w.heap[b]? /\ ¬ F' b:=λi a c hi b q=>by
  obtain⟨x,y,_⟩:=gZ (h.ob i a hi) q;obtain⟨z,A⟩:=n b x (λs=>h.apart i id a o0 b c hi p q s);exact⟨z,λs=>y (A s)⟩
 have e:∀ i a,i≠id->m i=U a->∀ b,bK w' a (γ i) b->bK w a (γ i) b:=λi a c hi b=>tU (λb q=>(v i a c hi b q).1);refine⟨λi a hi=>?_,λi j a r b d hi f g k=>?_⟩;by_cases c:i=id;subst c;rw[iX,ucl]at hi;subst hi;exact u;rw[fa _ _ c]at hi;exact(h.ob i a hi).keep C E (nx p D) (v i a c hi);by_cases c:i=id;subst c;rw[iX,ucl]at hi;subst hi;rw[fa _ _ (Ne.symm d)]at f;exact h.apart i j o0 r b d p f (l b g) (e j r (Ne.symm d) f b k);rw[fa _ _ c]at hi;by_cases t:j=id;subst t;rw[iX,ucl]at f;subst f;exact h.apart i j a o0 b d hi p (e i a c hi b g) (l b k);rw[fa _ _ t]at f;exact h.apart i j a r b d hi f (e i a c hi b g) (e j r t f b k)
def yM{id:Nat}{o:Ob}(a:m id=V):∀ i u,ap m γ i u->ap (upd m id o) (cU γ id v) i u:=by
 intro i u h;unfold ap at *;by_cases hi:i=id;subst hi;simp[a]at h;rw[fa _ _ hi,eC _ _ hi];exact h
def MemOK.new(h:MemOK P B w F γ m){id:Nat}{o:Ob}(A:m id=V)(E:∀ b,F b->F' b)(H:∀ b,F b->w'.heap[b]?= w.heap[b]?)(l:∀ b,bK w' o v b->w.heap.size<=b)(n:∀ b,b<w.heap.size->(w'.heap[b]?= w.heap[b]? /\ (F' b->F b)))(s:fI P B w' F' (ap (upd m id o) (cU γ id v)) v o):MemOK P B w' F' (cU γ id v) (upd m id o):=by
 have t:∀ i a,m i=U a->∀ b,bK w a (γ i) b->w'.heap[b]?= w.heap[b]? /\ ¬ F' b:=λi a hi b q=>by
  obtain⟨u,x,_⟩:=gZ (h.ob i a hi) q;obtain⟨y,z⟩:=n b u;exact⟨y,λG=>x (z G)⟩
 have e:∀ i a,m i=U a->∀ b,bK w' a (γ i) b->bK w a (γ i) b:=λi a hi b=>tU (λb q=>(t i a hi b q).1);refine⟨λi a hi=>?_,λi j a p b k hi f d c=>?_⟩;by_cases g:i=id;subst g;rw[iX,ucl]at hi;subst hi;rw[fy];exact s;rw[fa _ _ g]at hi;rw[eC _ _ g];exact(h.ob i a hi).keep E H (yM A) (t i a hi);by_cases g:i=id;subst g;rw[iX,ucl]at hi;subst hi;rw[fa _ _ (Ne.symm k)]at f;rw[eC _ _ (Ne.symm k)]at c;rw[fy]at d;have C:=(gZ (h.ob j p f) (e j p f b c)).1;have D:=l b d;omega;rw[fa _ _ g]at hi;rw[eC _ _ g]at d;by_cases r:j=id;subst r;rw[iX,ucl]at f;subst f;rw[fy]at c;have C:=(gZ (h.ob i a hi) (e i a hi b d)).1;have D:=l b c;omega;rw[fa _ _ r]at f;rw[eC _ _ r]at c;exact h.apart i j a p b k hi f (e i a hi b d) (e j p f b c)
end
def wF:Value->AC
 |.int k n=>if k.min<=n/\n<=k.max then .int k n else .dead
 |.bool b=>.bool b
 |.string s=>if s.size<=maxLen then .str s else .dead
 |.slice V 0 0=>.nil
 |_=>.dead
def lu:Value->AV
 |.agg cs=>if cs.toList.all (·.oneCell')then .agg (cs.toList.map wF)else .dead
 |.tuple _=>.dead
 |v=>.c (wF v)
def gC(a:Nat->AV):Operand->AV
 |.tmp t=>a t
 |.const v=>lu v
 |.global _=>.dead
 |.func f=>.c (.fn f [])
def kg(P:Program):Nat->TypeId->Option Ty
 |0,_=>V
 |n+1,t=>
  match P.underlying t with
  |some .bool=>U .bool
  |some (.int k)=>U (.int k)
  |some .string=>U .str
  |some (.slice e)=>(kg P n e).map .sl
  |some (.struct c)=>c.toList.foldr (λf b=>match kg P n f.type,b with
   |some a,U r=>U (.pair a r)
   |_,_=>V) (U .unit)
  |some (.array k e)=>match kg P n e with
   |some a=>U (Nat.rec (motive:=λ_=>Ty) .unit (λ_ r=>.pair a r) k)
   |none=>V
  |_=>V
def cV(P:Program)(t:TypeId):Bool:=
 match P.underlying t with
 |some (.struct _)|some (.array _ _)=>Z
 |_=>Y
def lz:AV->Option (List AC)
 |.c a=>U [a]
 |.agg cs=>U cs
 |_=>V
def CL(wide:Bool)(cs:List AC):Option AV:=
 if wide then U (.agg cs)else match cs with
  |[a]=>U (.c a)
  |_=>V
def nw(cs:List AC)(off:Nat)(new:List AC):Option (List AC):=
 if off+new.length<=cs.length then U (cs.take off++new++cs.drop (off+new.length))else V
def ig(cs:List AC)(off n:Nat):Option (List AC):=
 if off+n<=cs.length then U ((cs.drop off).take n)else V
structure Eff where
 v:AV
 wr:List (Nat×Ob)
 need:List Prop
abbrev aT:=Nat->Option Ob
def me(m:aT):AC->Option (AC×List (Nat×Ob))
 |.own id=>match m id with
  |some (.arr e t l)=>if e<dL then U (.sl t l,[(id,.frz t l)])else V
  |some (.frz t l)=>U (.sl t l,[])
  |_=>V
 |a=>U (a,[])
def jr(m:aT):List AC->Option (List AC×List (Nat×Ob))
 |[]=>U ([],[])
 |a::r=>match me m a,jr m r with
  |some (x,u),U (y,v)=>U (x::y,u++v)
  |_,_=>V
def pD(m:aT):AV->Option (AV×List (Nat×Ob))
 |.c a=>match me m a with
  |some (x,u)=>U (.c x,u)
  |none=>V
 |.agg cs=>match jr m cs with
  |some (x,u)=>U (.agg x,u)
  |none=>V
 |_=>V
def dK(m:aT):List AV->Option (List AV×List (Nat×Ob))
 |[]=>U ([],[])
 |a::r=>match pD m a,dK m r with
  |some (x,u),U (y,v)=>U (x::y,u++v)
  |_,_=>V
def vO(m:aT):List AV->Option (List AC×List (Nat×Ob))
 |[]=>U ([],[])
 |.c (.ptr id 0)::r=>match m id with
  |some (.box _ cs)=>match jr m cs with
   |some (cs',u)=>match ax m u id with
    |some (.box _ _)=>match vO (ax m (u++[(id,.fbox cs')])) r with
     |some (y,v)=>U (.sptr cs'::y,(u++[(id,.fbox cs')])++v)
     |none=>V
    |_=>V
   |none=>V
  |some (.fbox cs)=>match vO m r with
   |some (y,v)=>U (.sptr cs::y,v)
   |none=>V
  |_=>V
 |.c a::r=>match me m a with
  |some (x,u)=>match vO (ax m u) r with
   |some (y,v)=>U (x::y,u++v)
   |none=>V
  |none=>V
 |_::_=>V
def lH:AC->List Nat
 |.own id=>[id]
 |.ptr id _=>[id]
 |.ifp _ id=>[id]
 |.fb _ id=>[id]
 |_=>[]
def uh:AV->List Nat
 |.c a=>lH a
 |.agg cs=>cs.flatMap lH
 |.optr id _ _ _=>[id]
 |.aptr b _ _=>lH b
 |.maybe _ _ v=>uh v
 |_=>[]
def qnf:Option Ob->List Nat
 |some (.box _ cs)=>cs.flatMap lH
 |_=>[]
def tR(P:Program):Nat->TypeId->List AC->List AC->Option Bool
 |0,_,_,_=>V
 |n+1,t,xs,d=>
  match P.underlying t with
  |some .bool=>match xs,d with
   |[.bool a],[.bool b]=>U (a==b)
   |_,_=>V
  |some (.int _)=>match xs,d with
   |[.int k a],[.int h b]=>if k=h then U (a==b)else V
   |_,_=>V
  |some (.struct g)=>if P.stoodInHeld t=Z then V else
   g.toList.foldr (λf c=>if f.name = "_" then c else
    if (P.underlying f.type).isSome=Z/\(P.info? f.type).isSome=Z then
     match ig xs f.offset (if cV P f.type then P.cellsOf f.type else 1),ig d f.offset (if cV P f.type then P.cellsOf f.type else 1)with
     |some x,U y=>match tR P n f.type x y,c with
      |some p,U q=>U (p&&q)
      |_,_=>V
     |_,_=>V
    else V) (U Z)
  |some (.array len e)=>
   if (P.underlying e).isSome=Z/\(P.info? e).isSome=Z then
    (List.range len).foldr (λi c=>
     match ig xs (i*P.cellsOf e) (if cV P e then P.cellsOf e else 1),ig d (i*P.cellsOf e) (if cV P e then P.cellsOf e else 1)with
     |some x,U y=>match tR P n e x y,c with
      |some p,U q=>U (p&&q)
      |_,_=>V
     |_,_=>V) (U Z)
   else V
  |_=>V
def Hd(c:BinOp)(a b:Int):Option Bool:=
 match c with
 |.eql=>U (a==b)
 |.neq=>U (a != b)
 |.lss=>U (J (a<b))
 |.leq=>U (J (a<=b))
 |.gtr=>U (J (a>b))
 |.geq=>U (J (a>=b))
 |_=>V
def NU(op:BinOp)(k:IntKind)(a b:Int):Option (AC×List Prop):=
 match op with
 |.add=>U (.int k (k.wrap (a+b)),[])
 |.sub=>U (.int k (k.wrap (a-b)),[])
 |.mul=>U (.int k (k.wrap (a*b)),[])
 |.quo=>U (.int k (k.wrap (a.tdiv b)),[b≠0])
 |.rem=>U (.int k (a.tmod b),[b≠0])
 |.and=>U (.int k (k.wrap (BitVec.ofInt k.bits a &&& BitVec.ofInt k.bits b).toNat),[])
 |.or=>U (.int k (k.wrap (BitVec.ofInt k.bits a ||| BitVec.ofInt k.bits b).toNat),[])
 |.xor=>U (.int k (k.wrap (BitVec.ofInt k.bits a ^^^ BitVec.ofInt k.bits b).toNat),[])
 |.andNot=>U (.int k (k.wrap (BitVec.ofInt k.bits a &&& ~~~BitVec.ofInt k.bits b).toNat),[])
 |.shl=>U (.int k (k.wrap (a*2 ^ (min b.toNat k.bits))),[¬ b<0])
 |.shr=>U (.int k (a.fdiv (2 ^ (min b.toNat k.bits))),[¬ b<0])
 |op=>match Hd op a b with
  |some x=>U (.bool x,[])
  |none=>V
def RS:BinOp->Bool
 |.shl | .shr=>Z
 |_=>Y
def F6(P:Program)(d:BinOp)(t:TypeId):AV->AV->Option (AC×List Prop)
 |.c (.int k a),.c (.int e b)=>if k=e\/RS d=Z then NU d k a b else V
 |.c (.bool a),.c (.bool b)=>match d with
  |.eql=>if P.underlying t matches U .bool then U (.bool (a==b),[])else V
  |.neq=>if P.underlying t matches U .bool then U (.bool (!(a==b)),[])else V
  |_=>V
 |.agg xs,.agg f=>if P.eqGuardType P.depth t=Y/\cV P t=Z then match tR P 20 t xs f with
   |some x=>match d with
    |.eql=>U (.bool x,[])
    |.neq=>U (.bool (!x),[])
    |_=>V
   |none=>V
  else V
 |_,_=>V
structure InsOK (P:Program) (f:FuncId) (e:TypeId) (T:Ty) (bytes:Nat):Prop where
 enters:∀ args w,(callFunc f args).run P w=.ok (.enter f args) w
 calls:∀ (w:World) (B n i:Nat) (s v:Value) (xs news:List Value),B<=w.heap.size->w.ownsRow B e T.size s n xs->w.ownsRow B e T.size v 1 news->(∀ g,v.ownBlock=some g->s.ownBlock≠some g)->i<=n ->
  (∀ u∈xs,u.oneCell'=true)->(∀ u∈news,u.oneCell'=true)->n+1<=maxLen->(n+1)*bytes<=140737488355328 ->
  Calls P f #[s,.int .i64 i,v] w λen w'=>∃ v',en=.returned v'/\w.grownBy w' s.ownBlock/\w'.ownsRow B e T.size v' (n+1) (xs.take (i*T.size)++news++xs.drop (i*T.size))/\(v'.ownBlock=s.ownBlock\/v'.ownBlock=some w.heap.size)
structure CloneOK (P:Program) (f:FuncId) (e:TypeId) (T:Ty) (bytes:Nat):Prop where
 enters:∀ args w,(callFunc f args).run P w=.ok (.enter f args) w
 calls:∀ (w:World) (n c:Nat) (A:Option Addr) (xs:List Value),n<=c->(A=none->n=0)->xs.length=n*T.size->(∀ ad,A=some ad->∀ (j:Nat) u,xs[j]?= some u->w.cell? (ad.add j)=some u)->(∀ u∈xs,u.oneCell'=true) ->
  n<=maxLen->n*bytes<=140737488355328 ->
  Calls P f #[.slice A n c] w λen w'=>∃ v',en=.returned v'/\w.grownBy w' none/\w'.ownsRow w.heap.size e T.size v' n xs
structure UpdOK (P:Program) (f:FuncId) (T:Ty) (ps:List Ty) (g:T.den->aa ps->T.den):Prop where
 enters:∀ args w,(callFunc f args).run P w=.ok (.enter f args) w
 calls:∀ (w:World) (F:Nat->Prop) (b:Nat) (ety:TypeId) (arr:Array Value) (x:T.den) (y:aa ps) (vs:List Value),w.heap[b]?= some (.cells arr ety (0,0))->arr.size=T.size ->
  (∀ u∈arr,u.oneCell'=true)->aA w F T x (λj u=>arr[j]?= some u)->dM w F ps y vs ->
  Calls P f (Value.pointer (some ⟨b,0,none⟩)::vs).toArray w λen w'=>∃ (u:Value) (ns:List Value),en=.returned u/\ns.length=T.size/\w'=w.setRow b ns.toArray/\aA w F T (g x y) (λj u=>ns[j]?= some u)
inductive Row where
 |clone (e:TypeId) (T:Ty) (bytes:Nat)
 |ins (e:TypeId) (T:Ty) (bytes:Nat)
 |upd (T:Ty) (ps:List Ty) (g:T.den->aa ps->T.den)
 |rw (off inner:Nat)
def zZ(P:Program)(f:FuncId):Row->Prop
 |.rw _ _=>True
 |.clone e T n=>CloneOK P f e T n
 |.ins e T n=>InsOK P f e T n
 |.upd T ps g=>UpdOK P f T ps g
structure Gm where
 c:FuncId->Option Ct
 r:FuncId->Option Row
instance:CoeFun Gm λ_=>FuncId->Option Ct:=⟨Gm.c⟩
instance:Coe (FuncId->Option Ct) Gm:=⟨λc=>⟨c,λ_=>none⟩⟩
def kN(P:Program)(Γ:Gm):Prop:=(∀ f a,Γ.c f=U a->af P f a)/\∀ f r,Γ.r f=U r->zZ P f r
def lB(t:Ty):AV->Option t.den
 |.c a=>if t.wide then V else match dec t [a]with
  |some (x,[])=>U x
  |_=>V
 |.agg cs=>if t.wide then match dec t cs with
  |some (x,[])=>U x
  |_=>V else V
 |_=>V
def xh{ps a rs b:List Ty}(h:ps=a)(k:rs=b)(g:aa ps->aa rs):aa a->aa b:=k ▸ h ▸ g
def OB{ps a:List Ty}(h:ps=a)(D:aa ps->Prop):aa a->Prop:=h ▸ D
def AY{rs a:List Ty}(k:rs=a)(x:aa rs):aa a:=k ▸ x
def GT{t u:Ty}(h:t=u)(x:t.den):u.den:=h ▸ x
def gY:(ps:List PT)->List AC->Option (ag ps)
 |[],[]=>U ()
 |.d t::r,a::s=>match lB t (.c a),gY r s with
  |some x,U y=>U (x,y)
  |_,_=>V
 |.ptr t::r,.sptr cs::s=>match dec t cs,gY r s with
  |some (x,_),U y=>U (x,y)
  |_,_=>V
 |.pk f::r,.sptr [.fn i []]::s=>if i=f then match gY r s with
  |some y=>U ((),y)
  |none=>V
  else V
 |.pfn ps rs::r,.sptr [.fv b e g]::s=>if h:b=ps then if k:e=rs then match gY r s with
   |some y=>U (xh h k g,y)
   |none=>V
  else V else V
 |_,_=>V
def jC:(ps:List Ty)->(b:List PT)->List AC->Option (aa ps->ag b)
 |[],b,a=>match gY b a with
  |some e=>U (λ_=>e)
  |none=>V
 |t::r,.d c::b,a=>if h:t=c then match jC r b a with
   |some m=>U (λx=>(GT h x.1,m x.2))
   |none=>V
  else V
 |_::_,_,_=>V
def Hw(Γ:Gm)(ps rs:List Ty):AC->Option ((aa ps->aa rs)×List Prop)
 |.fv c d g=>if h:c=ps then if k:d=rs then U (xh h k g,[])else V else V
 |.fn f a=>match Γ f with
  |some b=>if k:b.rs=rs then match jC ps b.ps a with
    |some m=>U (λx=>AY k (b.f (m x)),[∀ x,fi ps x->av (b.ok (m x))])
    |none=>V
   else V
  |none=>V
 |_=>V
def Hy(Γ:Gm)(ps rs:List Ty):AC->Option ((aa ps->aa rs)×(aa ps->Prop))
 |.pv c d g D=>if h:c=ps then if k:d=rs then U (xh h k g,OB h D)else V else V
 |.fn f a=>match Γ f with
  |some b=>if k:b.rs=rs then match jC ps b.ps a with
    |some m=>U (λx=>AY k (b.f (m x)),λx=>av (b.ok (m x)))
    |none=>V
   else V
  |none=>V
 |_=>V
def Pl(Γ:Gm):(p:PT)->AV->Option (p.den×List Prop)
 |.d t,a=>match lB t a with
  |some x=>U (x,[])
  |none=>V
 |.ptr t,.c (.sptr cs)=>match dec t cs with
  |some (x,_)=>U (x,[])
  |none=>V
 |.fn ps rs,.c a=>Hw Γ ps rs a
 |.pf ps rs,.c a=>match Hy Γ ps rs a with
  |some x=>U (x,[])
  |none=>V
 |_,_=>V
def jf(Γ:Gm):(ps:List PT)->List AV->Option (ag ps×List Prop)
 |[],[]=>U ((),[])
 |p::r,a::s=>match Pl Γ p a,jf Γ r s with
  |some (x,n),U (y,k)=>U ((x,y),n++k)
  |_,_=>V
 |_,_=>V
def dE(t:Ty)(x:t.den):AV:=if t.wide then .agg (enc t x)else match enc t x with
 |[a]=>.c a
 |_=>.dead
def Bm:(ts:List Ty)->aa ts->List AV
 |[],_=>[]
 |t::r,x=>dE t x.1::Bm r x.2
def jg:(ts:List Ty)->aa ts->AV
 |[t],x=>dE t x.1
 |ts,x=>.tup (Bm ts x)
def O7(Γ:Gm)(f:FuncId)(args:List AV):Option (AV×List Prop):=
 match Γ f with
 |some a=>match jf Γ a.ps args with
  |some (x,n)=>U (jg a.rs (a.f x),n++a.ok x)
  |none=>V
 |none=>V
def g9:(ps:List Ty)->List AV->Option (aa ps)
 |[],[]=>U ()
 |t::r,a::s=>match lB t a,g9 r s with
  |some x,U y=>U (x,y)
  |_,_=>V
 |_,_=>V
def oU(k:IntKind):List AC->Option (List Int)
 |[]=>U []
 |.int a n::r=>if k=a then (oU k r).map (n :: ·)else V
 |_=>V
def Sk:List AC->Option IntKind
 |.int k _::_=>U k
 |_=>V
def pI:List Int->Nat->Int->Int->List Int
 |[],_,_,_=>[]
 |n::r,j,i,v=>(bif i==(j:Int)then v else n)::pI r (j+1) i v
def Ev(c:Operand)(a:Bool):AV->AV
 |.maybe g w v=>match c with
  |.tmp t=>if g=t/\w=a then v else .maybe g w v
  |_=>.maybe g w v
 |v=>v
def yA(p:Bool):AV->AV->Option AV
 |.c (.bool x),.c (.bool y)=>U (.c (.bool (bif p then x else y)))
 |.c (.int k x),.c (.int a y)=>if k=a then U (.c (.int k (bif p then x else y)))else V
 |_,_=>V
def xA(a:Nat->Option (Nat×Nat))(cs:List AC):List (Nat×AV)->Option (List AC)
 |[]=>U cs
 |(i,v)::r=>match a i,lz v with
  |some (off,n),U new=>if new.length=n then match nw cs off new with
    |some cs'=>xA a cs' r
    |none=>V
   else V
  |_,_=>V
def Uc(P:Program)(t:TypeId):Option (Nat->Option (Nat×Nat)):=
 match P.underlying t with
 |some (.struct a)=>if a.toList.all (λf=>(P.info? f.type).isSome)then U λi=>(a[i]?).map λf=>(f.offset,P.cellsOf f.type)else V
 |some (.array _ e)=>if (P.info? e).isSome then U λi=>U (i*P.cellsOf e,P.cellsOf e)else V
 |_=>V
def FS(P:Program)(t:TypeId)(a:List (Nat×AV)):Option AV:=
 match (P.info? t).bind (·.zero),Uc P t with
 |some z,U b=>match lz (lu z)with
  |some cs=>match xA b cs a with
   |some cs'=>U (.agg cs')
   |none=>V
  |none=>V
 |_,_=>V
def n9(t:Ty)(k:Nat):List (Nat×AV)->Option (List t.den)
 |[]=>U []
 |(i,v)::r=>if i=k then match lB t v,n9 t (k+1) r with
   |some x,U l=>U (x::l)
   |_,_=>V
  else V
def ji:Int->List AC->List (Int×Nat)
 |_,[]=>[]
 |k,.fn f []::r=>(k,f)::ji (k+1) r
 |k,_::r=>ji (k+1) r
def xl(m:aT):AV->Option (List AC×List Prop)
 |.c (.ptr id off)=>match m id with
  |some (.box _ cs)=>U (cs.drop off,[])
  |some (.fbox cs)=>U (cs.drop off,[])
  |_=>V
 |.c (.sptr cs)=>U (cs,[])
 |.optr id sz i off=>match m id with
  |some (.arr e t l)=>if e<cj/\t.size=sz then U ((enc t (l.getD i t.dflt)).drop off,[i<l.length])else V
  |some (.frz t l)=>if t.size=sz then U ((enc t (l.getD i t.dflt)).drop off,[i<l.length])else V
  |_=>V
 |.aptr b n i=>match b with
  |.ptr id off=>match m id with
   |some (.box _ cs)=>pickI (cs.drop off) n i
   |some (.fbox cs)=>pickI (cs.drop off) n i
   |_=>V
  |.sptr cs=>pickI cs n i
  |_=>V
 |_=>V
where
 pickI (cs:List AC) (n:Nat) (i:Int):Option (List AC×List Prop):=
  match Sk cs,ig cs 0 n with
  |some k,U bf=>match oU k bf with
   |some a=>U ([.int k (a.getD i.toNat 0)],[])
   |none=>V
  |none,U bf=>if (ji 0 bf).isEmpty then V else U ([.fs (ji 0 bf) i],[((ji 0 bf).find? (λx=>x.1==i)).isSome=Z])
  |_,_=>V
def CE(P:Program)(t:TypeId)(x:AV)(m:aT):Option Eff:=
 match xl m x with
 |some (cs,n)=>if (P.info? t).isSome/\(P.underlying t).isSome then
   if cV P t then match ig cs 0 (P.cellsOf t)with
    |some l=>U ⟨.agg l,[],n⟩
    |none=>V
   else match cs with
    |a::_=>U ⟨.c a,[],n⟩
    |[]=>V
  else V
 |none=>V
def Lh(P:Program)(t:TypeId)(x v:AV)(m:aT):Option Eff:=
 match lz v with
 |none=>V
 |some new=>if (P.info? t).isSome/\new.length=P.cellsOf t then
   match x with
   |.c (.ptr id off)=>match m id with
    |some (.box e cs)=>match nw cs off new with
     |some cs'=>U ⟨.dead,[(id,.box e cs')],[]⟩
     |none=>V
    |_=>V
   |.optr id sz i off=>match m id,jr m new with
    |some (.arr e b l),U (a,u)=>if e<cj/\b.size=sz/\(new.flatMap lH).all (· != id)then
      match nw (enc b (l.getD i b.dflt)) off a with
      |some row=>match dec b row with
       |some (y,[])=>U ⟨.dead,u++[(id,.arr e b (l.set i y))],[i<l.length]⟩
       |_=>V
      |none=>V
     else V
    |_,_=>V
   |.aptr (.ptr id off) n i=>match m id,new with
    |some (.box e cs),[.int k y]=>match ig cs off n with
     |some bf=>match oU k bf with
      |some d=>match nw cs off ((pI d 0 i y).map (.int k))with
       |some cs'=>U ⟨.dead,[(id,.box e cs')],[]⟩
       |none=>V
      |none=>V
     |none=>V
    |_,_=>V
   |_=>V
  else V
def rp(m:aT):AC->Option ((t:Ty)×List t.den)
 |.sl t l=>U ⟨t,l⟩
 |.slx t l=>U ⟨t,l⟩
 |.own id=>match m id with
  |some (.arr e t l)=>if e<cj then U ⟨t,l⟩else V
  |some (.frz t l)=>U ⟨t,l⟩
  |_=>V
 |_=>V
def IR(P:Program)(t:TypeId)(x:AV)(i:Int)(m:aT):Option Eff:=
 match P.underlying t with
 |some (.slice e)=>if (P.info? e).isSome then match x with
   |.c (.own id)=>match m id with
    |some (.arr a tt l)=>if a<dL/\tt.size=P.cellsOf e then U ⟨.optr id tt.size i.toNat 0,[],[0<=i/\i<l.length]⟩else V
    |some (.hole _ tt l _)=>if tt.size=P.cellsOf e then U ⟨.optr id tt.size i.toNat 0,[],[0<=i/\i<l.length]⟩else V
    |some (.frz tt l)=>if tt.size=P.cellsOf e then U ⟨.c (.sptr (enc tt (l.getD i.toNat tt.dflt))),[],[0<=i/\i<l.length]⟩else V
    |_=>V
   |.c (.sl tt l)=>if tt.size=P.cellsOf e then U ⟨.c (.sptr (enc tt (l.getD i.toNat tt.dflt))),[],[0<=i/\i<l.length]⟩else V
   |.c (.slx tt l)=>if tt.size=P.cellsOf e then U ⟨.c (.sptr (enc tt (l.getD i.toNat tt.dflt))),[],[0<=i/\i<l.length]⟩else V
   |_=>V
  else V
 |some (.array n e)=>if (P.info? e).isSome then
   if P.cellsOf e=1 then match x with
    |.c (.ptr id off)=>U ⟨.aptr (.ptr id off) n i,[],[0<=i/\i<n]⟩
    |.c (.sptr cs)=>U ⟨.aptr (.sptr cs) n i,[],[0<=i/\i<n]⟩
    |_=>V
   else match i with
    |.ofNat k=>if k<n then match x with
      |.c (.ptr id off)=>U ⟨.c (.ptr id (off+k*P.cellsOf e)),[],[]⟩
      |.c (.sptr cs)=>U ⟨.c (.sptr (cs.drop (k*P.cellsOf e))),[],[]⟩
      |_=>V
     else V
    |_=>V
  else V
 |_=>V
def tW(P:Program)(s:TypeId)(f:Nat):Option Field:=
 match P.underlying s with
 |some (.struct a)=>a[f]?
 |_=>V
def Ie(P:Program)(s:TypeId)(x:AV)(f:Nat):Option AV:=
 match tW P s f with
 |some a=>if (P.info? a.type).isSome=Z/\P.cellsOf a.type≠0 then match x with
   |.c (.ptr id off)=>U (.c (.ptr id (off+a.offset)))
   |.c (.sptr cs)=>U (.c (.sptr (cs.drop a.offset)))
   |.optr id sz i off=>U (.optr id sz i (off+a.offset))
   |_=>V
  else V
 |none=>V
def KQ(t:Ty)(l:List t.den)(lo hi mx:Option Int):Option (AC×List Prop):=
 match mx with
 |none=>U (.sl t ((l.drop (lo.getD 0).toNat).take ((hi.getD l.length)-(lo.getD 0)).toNat),[0<=lo.getD 0/\lo.getD 0<=hi.getD l.length/\hi.getD l.length<=l.length])
 |some k=>match hi with
  |some h=>U (.slx t ((l.drop (lo.getD 0).toNat).take (h-(lo.getD 0)).toNat),[0<=lo.getD 0/\lo.getD 0<=h/\h<=l.length/\k=h])
  |none=>V
def Fv(P:Program)(d:Nat)(t:TypeId)(s x:AV)(m:aT):Option Eff:=
 match P.underlying t with
 |some (.slice e)=>match P.info? e,kg P 20 e,m d with
  |some i,U tt,V=>if e<cj/\i.size=tt.size/\0<tt.size/\(i.zero.any λz=>z.cells.size==tt.size)=Z then
   match (match x with
    |.c .nil=>U ([]:List tt.den)
    |.c a=>match rp m a with
     |some ⟨u,l⟩=>if h:u=tt then U (cA h l)else V
     |none=>V
    |_=>V)with
   |some new=>match s with
    |.c .nil=>U ⟨.c (.own d),[(d,.arr e tt new)],[new.length<=maxLen/\new.length*i.bytes<=140737488355328]⟩
    |.c (.own id)=>match m id with
     |some (.arr b u l)=>if h:u=tt then if b=e/\(uh x).all (· != id)then
       U ⟨.c (.own d),[(id,.gone),(d,.arr e tt (cA h l++new))],[(cA h l).length+new.length<=maxLen/\((cA h l).length+new.length)*i.bytes<=140737488355328]⟩else V else V
     |_=>V
    |.c (.slx u l)=>if h:u=tt then
       U ⟨.c (.own d),[(d,.arr e tt (cA h l++new))],[0<new.length/\(cA h l).length+new.length<=maxLen/\((cA h l).length+new.length)*i.bytes<=140737488355328]⟩else V
    |_=>V
   |none=>V
   else V
  |_,_,_=>V
 |_=>V
def r8(k:IntKind)(x:Int):List AV->Option Int
 |[]=>U x
 |.c (.int a y)::r=>if k=a then r8 k (if y<x then y else x) r else V
 |_=>V
def rz(k:IntKind)(x:Int):List AV->Option Int
 |[]=>U x
 |.c (.int a y)::r=>if k=a then rz k (if x<y then y else x) r else V
 |_=>V
def IS(P:Program)(t:TypeId)(x:AV)(i:Int):Option Eff:=
 match P.underlying t with
 |some .string=>match x with
  |.c (.str b)=>U ⟨.c (.int .u8 (b.data.getD i.toNat 0).toNat),[],[0<=i/\i<b.size]⟩
  |_=>V
 |some (.array n e)=>if (P.info? e).isSome=Z/\(P.underlying e).isSome=Z/\P.cellsOf e=1/\cV P e=Y then match x with
   |.agg cs=>match Sk cs with
    |some k=>match oU k cs with
     |some a=>if a.length=n then U ⟨.c (.int k (a.getD i.toNat 0)),[],[0<=i/\i<n]⟩else V
     |none=>V
    |none=>V
   |_=>V
  else V
 |_=>V
def se(P:Program)(t:TypeId)(x:AV)(m:aT):Option Eff:=
 match P.underlying t,x with
 |some (.array n e),.c (.ptr id off)=>match P.info? e,kg P 20 e,m id with
  |some i,U tt,U (.box _ cs)=>match jr m cs with
   |some (cs',[])=>match ig cs' off (n*tt.size)with
    |some bf=>match splitN tt n bf with
     |some l=>if i.size=tt.size/\0<tt.size/\n<=1000 then U ⟨.c (.sl tt l),[(id,.fbox cs')],[]⟩else V
     |none=>V
    |none=>V
   |_=>V
  |_,_,_=>V
 |_,_=>V
where
 splitN (t:Ty):Nat->List AC->Option (List t.den)
  |0,[]=>U []
  |n+1,cs=>match dec t (cs.take t.size)with
   |some (x,[])=>match splitN t n (cs.drop t.size)with
    |some l=>U (x::l)
    |none=>V
   |_=>V
  |_,_=>V
def mG(Γ:Gm)(n:Int)(args:List AV):List (Int×Nat)->Option ((rs:List Ty)×aa rs×List Prop)
 |[]=>V
 |(k,f)::r=>match Γ f with
  |some a=>match jf Γ a.ps args with
   |some (x,b)=>match r with
    |[]=>U ⟨a.rs,a.f x,(n=k)::(b++a.ok x)⟩
    |r=>match mG Γ n args r with
     |some ⟨rs,y,c⟩=>if h:rs=a.rs then U ⟨a.rs,bif n==k then a.f x else AY h y,[n=k->av (b++a.ok x),n≠k->av c]⟩else V
     |none=>V
   |none=>V
  |none=>V
def GS(Γ:Gm)(b:AV)(args:List AV):Option (AV×List Prop):=
 match b with
 |.c (.fn f a)=>O7 Γ f (args++a.map .c)
 |.c (.fv ps rs g)=>match g9 ps args with
  |some x=>U (jg rs (g x),[])
  |none=>V
 |.c (.pv ps rs g D)=>match g9 ps args with
  |some x=>U (jg rs (g x),[D x])
  |none=>V
 |.c (.fs es n)=>match mG Γ n args es with
  |some ⟨rs,y,d⟩=>U (jg rs y,d)
  |none=>V
 |_=>V
def ro(P:Program)(t:TypeId)(x:AV)(m:aT):Option Eff:=
 match P.underlying t with
 |some (.slice _)=>match x with
  |.c .nil=>U ⟨.c (.int .i64 0),[],[]⟩
  |.c a=>match rp m a with
   |some ⟨_,l⟩=>U ⟨.c (.int .i64 l.length),[],[]⟩
   |none=>match a with
    |.own id=>match m id with
     |some (.arr e _ l)=>if e<dL then U ⟨.c (.int .i64 l.length),[],[]⟩else V
     |_=>V
    |_=>V
  |_=>V
 |some .string=>match x with
  |.c (.str s)=>U ⟨.c (.int .i64 s.size),[],[]⟩
  |_=>V
 |_=>V
def O8(P:Program)(d:Nat)(b:Builtin)(ts:List TypeId)(vs:List AV)(m:aT):Option Eff:=
 match b,ts,vs with
 |.len,[t],[x]=>ro P t x m
 |.append,[t,a],[s,x]=>if t=a then Fv P d t s x m else V
 |.min,_,.c (.int k n)::r=>match r8 k n r with
  |some y=>U ⟨.c (.int k y),[],[]⟩
  |none=>V
 |.max,_,.c (.int k n)::r=>match rz k n r with
  |some y=>U ⟨.c (.int k y),[],[]⟩
  |none=>V
 |_,_,_=>V
def lL:List AV->Option (List AC×List (Nat×Ob))
 |[]=>U ([],[])
 |.c a::r=>match lL r with
  |some (y,_)=>U (a::y,[])
  |none=>V
 |_=>V
def Jy:AC->Option ((t:Ty)×List t.den)
 |.sl t l=>U ⟨t,l⟩
 |.slx t l=>U ⟨t,l⟩
 |_=>V
def uS:Bool->List AV->Option (Option Int×List AV)
 |false,r=>U (V,r)
 |true,.c (.int _ n)::r=>U (U n,r)
 |true,_=>V
def J4(P:Program)(d:Nat)(t:TypeId)(n c:Int)(m:aT):Option Eff:=
 match P.underlying t with
 |some (.slice e)=>match P.info? e,kg P 20 e,m d with
  |some i,U tt,V=>match i.zero with
   |some z=>match lz (lu z)with
    |some cs=>match dec tt cs with
     |some (x,[])=>if e<cj/\i.size=tt.size/\z.cells.size=tt.size/\0<tt.size then
       U ⟨.c (.own d),[(d,.arr e tt (List.replicate n.toNat x))],[0<=n/\n<=c/\c<=maxLen/\c*i.bytes<=140737488355328]⟩else V
     |_=>V
    |none=>V
   |none=>V
  |_,_,_=>V
 |_=>V
def Hn(P:Program)(d:Nat)(t:TypeId)(lo hi mx:Bool)(x:AV)(r:List AV)(m:aT):Option Eff:=
 match lo,hi,mx,x,r with
 |false,Z,Y,.c (.own id),[.c (.int _ h)]=>match P.underlying t,m id,m d with
  |some (.slice e),U (.arr a tt l),V=>if a<cj/\(P.info? e).isSome=Z/\P.cellsOf e=tt.size then
    U ⟨.c (.own d),[(id,.gone),(d,.arr a tt (l.take h.toNat))],[0<=h/\h<=l.length]⟩
   else V
  |_,_,_=>V
 |_,_,_,_,_=>V
def fX:AV->Bool
 |.maybe _ _ _=>Y
 |_=>Z
def ya(P:Program)(t:TypeId):Bool:=match P.underlying t with
 |some (.interface _)=>Z
 |_=>Y
def Tc(P:Program)(o:BinOp)(t:TypeId)(y:Operand)(x:AV):Option Bool:=
 match o,y,x with
 |.eql,.const .nilIface,.c (.ic es _ z)=>if ya P t=Z then U (cD es z.1).isNone else V
 |.neq,.const .nilIface,.c (.ic es _ z)=>if ya P t=Z then U (!(cD es z.1).isNone)else V
 |_,_,_=>V
def CH(P:Program)(a:String)(ty:TypeId):Option FuncId:=
 match P.info? ty,P.underlying ty with
 |some i,U (.struct _)=>match i.methods.find? (·.name==a)with
  |some b=>match b.func with
   |some (f,Y)=>if b.path.isEmpty=Z then U f else V
   |_=>V
  |none=>V
 |_,_=>V
def xY(P:Program)(a:String):List (Int×Nat)->Option (List (Int×Nat))
 |[]=>U []
 |(k,ty)::r=>match CH P a ty,xY P a r with
  |some f,U b=>U ((k,f)::b)
  |_,_=>V
def kL(i:Int)(l m:List α):List α:=l.take i.toNat++m++l.drop i.toNat
def UC(Γ:Gm):AV->Option Row
 |.c (.fn f [])=>Γ.r f
 |_=>V
def K5(r:Row)(d:Nat)(args:List AV)(m:aT):Option Eff:=
 match r,args,m d with
 |.clone e T f,[.c a],V=>match rp m a with
  |some ⟨h,l⟩=>if g:h=T then if e<cj then U ⟨.c (.own d),[(d,.arr e T (cA g l))],[l.length<=maxLen,l.length*f<=140737488355328]⟩else V else V
  |none=>V
 |.ins e T f,[.c (.own a),.c (.int .i64 i),.c (.own b)],V=>match m a,m b with
  |some (.arr j h l),U (.arr k o x)=>if g:h=T then if n:o=T then if e<cj/\j=e/\k=e/\a≠b then
    U ⟨.c (.own d),[(a,.gone),(d,.arr e T (kL i (cA g l) (cA n x)))],[0<=i/\i<=l.length,x.length=1,l.length+1<=maxLen/\(l.length+1)*f<=140737488355328]⟩else V else V else V
  |_,_=>V
 |_,_,_=>V
def zA(Γ:Gm)(n:Int)(cs:List AC)(args:List AV):List (Int×Nat)->Option ((T:Ty)×T.den×List Prop)
 |[]=>V
 |(k,f)::r=>match Γ.r f with
  |some (.upd T ps g)=>match dec T cs,g9 ps args with
   |some (x,[]),U y=>match r with
    |[]=>U ⟨T,g x y,[n=k]⟩
    |r=>match zA Γ n cs args r with
     |some ⟨a,z,b⟩=>if h:a=T then U ⟨T,bif n==k then g x y else GT h z,[n≠k->av b]⟩else V
     |none=>V
   |_,_=>V
  |_=>V
def Hg(P:Program)(Γ:Gm)(d:Nat)(D:Op)(vs:List AV)(m:aT):Option Eff:=
 match D,vs with
 |.move _,[x] | .assign _,[x]=>U ⟨x,[],[]⟩
 |.alloc e,[]=>match (P.info? e).bind (·.zero),m d with
  |some z,V=>match lz (lu z)with
   |some cs=>U ⟨.c (.ptr d 0),[(d,.box e cs)],[]⟩
   |none=>V
  |_,_=>V
 |.box e _,[x]=>match lz x,m d with
  |some cs,V=>U ⟨.c (.ptr d 0),[(d,.box e cs)],[]⟩
  |_,_=>V
 |.build t ps,vs=>match FS P t ((ps.toList.map (·.1)).zip vs)with
  |some v=>U ⟨v,[],[]⟩
  |none=>V
 |.buildSlice t n ps,vs=>match P.underlying t,m d with
  |some (.slice e),V=>match P.info? e,kg P 20 e,dK m vs with
   |some i,U tt,U (w,u)=>if e<cj/\i.size=tt.size/\0<tt.size/\n*i.size<=16777216/\ps.size=n/\(i.zero.any λz=>z.cells.size==tt.size)=Z then match n9 tt 0 ((ps.toList.map (·.1)).zip w)with
     |some l=>if l.length=n then U ⟨.c (.own d),u++[(d,.arr e tt l)],[]⟩else V
     |none=>V
    else V
   |_,_,_=>V
  |_,_=>V
 |.load t _,[x]=>CE P t x m
 |.store t _ _,[x,v]=>Lh P t x v m
 |.nilCheck _,[x]=>match x with
  |.c (.ptr id off)=>U ⟨.c (.ptr id off),[],[]⟩
  |.c (.sptr cs)=>U ⟨.c (.sptr cs),[],[]⟩
  |_=>V
 |.binOp o t _ H _,[x,y]=>match Tc P o t H x with
  |some v=>U ⟨.c (.bool v),[],[]⟩
  |none=>match F6 P o t x y with
   |some (a,n)=>U ⟨.c a,[],n⟩
   |none=>V
 |.unOp o _ _,[.c (.int k n)]=>match o with
  |.neg=>U ⟨.c (.int k (k.wrap (0-n))),[],[]⟩
  |_=>V
 |.unOp o _ _,[.c (.bool b)]=>match o with
  |.not=>U ⟨.c (.bool (!b)),[],[]⟩
  |_=>V
 |.convert s t _,[.c (.int _ n)]=>match P.underlying s,P.underlying t with
  |some _,U (.int k)=>U ⟨.c (.int k (k.wrap n)),[],[]⟩
  |_,_=>V
 |.makeSlice t _ _,[.c (.int _ n),.c (.int _ c)]=>J4 P d t n c m
 |.slice t _ lo hi mx,x::r=>match Hn P d t lo.isSome hi.isSome mx.isSome x r m with
  |some e=>U e
  |none=>match (if lo.isSome=Y/\hi.isSome=Y/\mx.isSome=Y then se P t x m else V)with
  |some e=>U e
  |none=>match P.underlying t,pD m x,uS lo.isSome r with
  |some (.slice e),U (G,u),U (l,E)=>match uS hi.isSome E with
   |some (h,F)=>match uS mx.isSome F with
    |some (k,[])=>match G with
     |.c a=>match Jy a with
      |some ⟨tt,y⟩=>if (P.info? e).isSome/\P.cellsOf e=tt.size then match KQ tt y l h k with
        |some (z,n)=>U ⟨.c z,u,n⟩
        |none=>V
       else V
      |none=>V
     |_=>V
    |_=>V
   |none=>V
  |_,_,_=>V
 |.fieldAddr s _ f,[x]=>match Ie P s x f with
  |some v=>U ⟨v,[],[]⟩
  |none=>V
 |.field s _ f,[.agg cs]=>match tW P s f with
  |some j=>if (P.info? j.type).isSome/\(P.underlying j.type).isSome then match ig cs j.offset (if cV P j.type then P.cellsOf j.type else 1)with
    |some l=>match CL (cV P j.type) l with
     |some v=>U ⟨v,[],[]⟩
     |none=>V
    |none=>V
   else V
  |none=>V
 |.indexAddr t _ _,[x,.c (.int _ i)]=>IR P t x i m
 |.index t _ _,[x,.c (.int _ i)]=>IS P t x i
 |.lookup t _ _ Z,[.c (.mp es),.c (.int .i64 n)]=>match P.underlying t with
  |some (.map k e)=>match P.underlying k,(P.info? e).bind (·.zero)with
   |some (.int .i64),U .nilFunc=>U ⟨.tup [.c (.fs es n),.c (.bool (es.find? (λx=>x.1==n)).isSome)],[],[]⟩
   |_,_=>V
  |_=>V
 |.extract _ i,[.tup vs]=>match vs[i]? with
  |some v=>U ⟨v,[],[]⟩
  |none=>V
 |.typeAssert _ _ ty Z,[.c (.ic es _ x)]=>match P.underlying ty with
  |some (.struct _)=>if ((P.info? ty).bind (·.zero)).isSome=Z then U ⟨.tup [.dead,.c (.bool (cD es x.1==U ty))],[],[]⟩else V
  |_=>V
 |.makeFunc (.func f) first _,vs=>if first.size=0 then match (if (Γ f).isSome then vO m vs else lL vs)with
   |some (p,u)=>U ⟨.c (.fn f p),u,[]⟩
   |none=>V
  else V
 |.call ⟨.builtin b,_,ts⟩,vs=>O8 P d b ts.toList vs m
 |.call ⟨.invoke _ q,_,_⟩,.c (.ic es t x)::args=>match dK m args,xY P q es with
  |some (g,u),U B=>match mG Γ x.1 (dE t x.2::g) B with
   |some ⟨rs,y,n⟩=>U ⟨jg rs y,u,n⟩
   |none=>V
  |_,_=>V
 |.call ⟨.value _,_,_⟩,.c (.fs es n) :: .c (.ptr id 0)::args=>match m id with
  |some (.box e cs)=>match zA Γ n cs args es with
   |some ⟨T,z,C⟩=>U ⟨.dead,[(id,.box e (enc T z))],C⟩
   |none=>V
  |_=>V
 |.call ⟨.value _,_,_⟩,A::args=>match UC Γ A with
  |some r=>K5 r d args m
  |none=>match dK m args with
   |some (g,u)=>match GS Γ A g with
    |some (v,n)=>U ⟨v,u,n⟩
    |none=>V
   |none=>V
 |_,_=>V
def UY(Γ:Gm)(e:TypeId):Option (Nat×Nat):=match Γ.r (1000000000000+e)with
 |some (.rw off a)=>U (off,a)
 |_=>V
def KG(e off a:Nat):Bool:=J (rY (ed e off a)=e/\cB (ed e off a)=off/\jV (ed e off a)=a/\cj<=ed e off a/\ed e off a<dL/\a<cj)
def IT(m:aT)(a:Nat)(t:Ty):AC->Option (List t.den×List (Nat×Ob))
 |.nil=>U ([],[])
 |.own k=>match m k with
  |some (.arr e b l)=>if h:b=t then if e=a then U (cA h l,[(k,.gone)])else V else V
  |_=>V
 |_=>V
def KM(t:Ty)(off:Nat):Option Ty:=match (enc t t.dflt)[off]? with
 |some (.sl a _)=>U a
 |_=>V
def FT(P:Program)(Γ:Gm)(d:Nat)(e:TypeId)(v:AV)(m:aT):Option Eff:=
 match UY Γ e,kg P 20 e,P.info? e,lz v,m d with
 |some (off,a),U tt,U i,U cs,V=>match KM tt off,cs[off]? with
  |some b,U c=>match IT m a b c with
   |some (l,u)=>match dec tt (cs.set off (.sl b l))with
    |some (x,[])=>if KG e off a=Z/\i.size=tt.size/\0<tt.size/\i.size<=16777216/\(i.zero.any λz=>z.cells.size==tt.size)=Z then
      U ⟨.c (.own d),u++[(d,.arr (ed e off a) tt [x])],[]⟩else V
    |_=>V
   |none=>V
  |_,_=>V
 |_,_,_,_,_=>V
def J6(P:Program)(Γ:Gm)(d:Nat)(t:TypeId)(n c:Int)(m:aT):Option Eff:=
 match P.underlying t with
 |some (.slice e)=>match UY Γ e,P.info? e,kg P 20 e,m d with
  |some (off,a),U i,U tt,V=>match i.zero with
   |some z=>match lz (lu z)with
    |some cs=>match dec tt cs,cs[off]? with
     |some (x,[]),U .nil=>if KG e off a=Z/\i.size=tt.size/\z.cells.size=tt.size/\0<tt.size then
       U ⟨.c (.own d),[(d,.arr (ed e off a) tt (List.replicate n.toNat x))],[0<=n/\n<=c/\c<=maxLen/\c*i.bytes<=140737488355328]⟩else V
     |_,_=>V
    |none=>V
   |none=>V
  |_,_,_,_=>V
 |_=>V
def Jz(P:Program)(d:Nat)(t:TypeId)(id sz i off:Nat)(m:aT):Option Eff:=
 match m id,m d with
 |some (.arr e tt l),V=>match (enc tt (l.getD i tt.dflt))[off]? with
  |some (.sl b a)=>if cj<=e/\e<dL/\off=cB e/\tt.size=sz/\jV e<cj/\cV P t=Y/\(P.info? t).isSome=Z/\(P.underlying t).isSome=Z then
    U ⟨.c (.own d),[(id,.hole e tt l i),(d,.arr (jV e) b a)],[i<l.length]⟩else V
  |_=>V
 |_,_=>V
def Li(P:Program)(t:TypeId)(id sz i off k:Nat)(m:aT):Option Eff:=
 match m id,m k with
 |some (.hole e tt l j),U (.arr a b c)=>match KM tt off with
  |some d=>if d=b/\a=jV e/\a<cj/\off=cB e/\tt.size=sz/\(P.info? t).isSome=Z/\P.cellsOf t=1/\id≠k then
    match dec tt ((enc tt (l.getD i tt.dflt)).set off (.sl b c))with
    |some (y,[])=>U ⟨.dead,[(k,.gone),(id,.arr e tt (l.set i y))],[i<l.length/\i=j]⟩
    |_=>V
   else V
  |none=>V
 |_,_=>V
def Fw(P:Program)(d:Nat)(t:TypeId)(s:AV)(k:Nat)(m:aT):Option Eff:=
 match P.underlying t with
 |some (.slice e)=>match P.info? e,m k,m d with
  |some i,U (.arr a tt b),V=>if cj<=a/\a<dL/\rY a=e/\i.size=tt.size/\0<tt.size/\(i.zero.any λz=>z.cells.size==tt.size)=Z then
   match s with
   |.c .nil=>U ⟨.c (.own d),[(k,.gone),(d,.arr a tt b)],[b.length<=maxLen/\b.length*i.bytes<=140737488355328]⟩
   |.c (.own id)=>match m id with
    |some (.arr f u l)=>if h:u=tt then if f=a/\id≠k then
      U ⟨.c (.own d),[(id,.gone),(k,.gone),(d,.arr a tt (cA h l++b))],[(cA h l).length+b.length<=maxLen/\((cA h l).length+b.length)*i.bytes<=140737488355328]⟩else V else V
    |_=>V
   |_=>V
   else V
  |_,_,_=>V
 |_=>V
def ip(l:List (Int×α))(n:Int)(z:α):α:=match l.find? (λx=>x.1==n)with
 |some x=>x.2
 |none=>z
def ec:List (Int×α)->Int->α->List (Int×α)
 |[],n,y=>[(n,y)]
 |x::r,n,y=>bif x.1==n then (n,y)::r else x::ec r n y
def yj(P:Program)(t:TypeId):Option (TypeId×Ty):=match P.underlying t with
 |some (.map k e)=>match P.underlying k,kg P 20 e with
  |some (.int .i64),U a=>if a.flat=Z/\a.wide=Y then U (e,a)else V
  |_,_=>V
 |_=>V
def J5(P:Program)(d:Nat)(t:TypeId)(m:aT):Option Eff:=match yj P t,m d with
 |some (_,a),V=>U ⟨.c (.own d),[(d,.arr dL (.pair (.int .i64) a) [])],[]⟩
 |_,_=>V
def J1(P:Program)(t:TypeId)(id:Nat)(n:Int)(m:aT):Option Eff:=match yj P t,m id with
 |some (e,c),U (.arr b (.pair (.int .i64) a) l)=>match (P.info? e).bind (·.zero)with
  |some z=>match lB a (lu z)with
   |some d=>if dL<=b/\a=c then U ⟨dE a (ip l n d),[],[]⟩else V
   |none=>V
  |none=>V
 |_,_=>V
def L7(P:Program)(t:TypeId)(id:Nat)(n:Int)(v:AV)(m:aT):Option Eff:=match yj P t,m id with
 |some (_,c),U (.arr b (.pair (.int .i64) a) l)=>match lB a v with
  |some y=>if dL<=b/\a=c then U ⟨.dead,[(id,.arr b (.pair (.int .i64) a) (ec l n y))],[l.length<maxLen]⟩else V
  |none=>V
 |_,_=>V
def IQ(P:Program)(t:TypeId)(v:AV):Option Eff:=match P.underlying t,v with
 |some (.pointer _),.c (.ptr id 0)=>U ⟨.c (.ifp t id),[],[]⟩
 |some _,v=>match kg P 20 t with
  |some tt=>match lB tt v with
   |some x=>U ⟨.c (.ic [(1,t)] tt (1,x)),[],[]⟩
   |none=>V
  |none=>V
 |none,_=>V
def Fx(P:Program)(ty:TypeId)(ok:Bool)(es:List (Int×Nat))(t:Ty)(x:Int×t.den):Option Eff:=
 match P.underlying ty,es with
 |some (.struct _),[(1,_)]=>U ⟨if ok then .tup [dE t x.2,.c (.bool Z)]else dE t x.2,[],[cD es x.1=U ty]⟩
 |some (.int _),[(1,_)]=>U ⟨if ok then .tup [dE t x.2,.c (.bool Z)]else dE t x.2,[],[cD es x.1=U ty]⟩
 |_,_=>V
def qoi(m:aT):AV->Bool
 |.c (.own id)=>match m id with
  |some (.arr e _ _)=>J (cj<=e)
  |_=>Y
 |_=>Y
def J0(Γ:Gm)(e:AV)(args:List AV)(m:aT):Option Eff:=if args.any (qoi m)then match e,dK m args with
 |.c (.fn f b),U (a,_)=>match Γ f with
  |some d=>if d.rs.all Ty.flat then match jf Γ d.ps (a++b.map .c)with
    |some (x,n)=>U ⟨jg d.rs (d.f x),[],n++d.ok x⟩
    |none=>V
   else V
  |none=>V
 |_,_=>V
 else V
def Hh(P:Program)(Γ:Gm)(d:Nat)(g:Op)(vs:List AV)(m:aT):Option Eff:=
 match g,vs with
 |.buildSlice t n ps,[v]=>match P.underlying t with
  |some (.slice e)=>if n=1/\ps.toList.map (·.1)=[0]then FT P Γ d e v m else V
  |_=>V
 |.makeSlice t _ _,[.c (.int _ n),.c (.int _ c)]=>J6 P Γ d t n c m
 |.load t _,[.optr id sz i off]=>Jz P d t id sz i off m
 |.store t _ _,[.optr id sz i off,.c (.own k)]=>Li P t id sz i off k m
 |.call ⟨.builtin .append,_,ts⟩,[s,.c (.own k)]=>match ts.toList with
  |[t,h]=>if t=h then Fw P d t s k m else V
  |_=>V
 |.makeMap t V,[]=>J5 P d t m
 |.lookup t _ _ Y,[.c (.own id),.c (.int .i64 n)]=>J1 P t id n m
 |.mapUpdate t _ _ _,[.c (.own id),.c (.int .i64 n),v]=>L7 P t id n v m
 |.makeInterface t _,[v]=>IQ P t v
 |.typeAssert _ _ ty ok,[.c (.ic es t x)]=>Fx P ty ok es t x
 |.makeFunc (.func f) first a,[.c (.ptr id 0)]=>if first.size=1/\a.size=0 then U ⟨.c (.fb f id),[],[]⟩else V
 |.call ⟨.value _,_,_⟩,b::args=>J0 Γ b args m
 |_,_=>V
def Bg(P:Program)(Γ:Gm)(d:Nat)(op:Op)(vs:List AV)(m:aT):Option Eff:=
 match op with
 |.pick c _ _=>match vs with
  |[.c (.bool p),a,b]=>match yA p (Ev c Z a) (Ev c Y b)with
   |some v=>U ⟨v,[],[]⟩
   |none=>V
  |_=>V
 |op=>if vs.all fX then match Hh P Γ d op vs m with
   |some e=>U e
   |none=>Hg P Γ d op vs m
  else V
def uw(a:Op)(vs:List AV)(m:aT):List Nat:=
 match a with
 |.makeFunc _ _ _=>vs.flatMap uh++(vs.flatMap uh).flatMap (λi=>qnf (m i))
 |.move _=>[]
 |_=>vs.flatMap uh
def jq(a:List Nat)(m:aT):aT:=λi=>if a.contains i then m i else V
def nh(d:Nat->AV):Nat->Tmp->Bool->Option (List (Tmp×Bool×Bool))
 |0,_,_=>V
 |n+1,g,a=>match d g with
  |.c (.bool b)=>U [(g,a,b)]
  |.maybe e w0 (.c (.bool b))=>match nh d n e w0 with
   |some l=>U ((g,a,b)::l)
   |none=>V
  |_=>V
def pZ(a:List (Tmp×Bool×Bool)):AV->AV
 |.maybe g w v=>if a.any (λx=>x.1==g&&x.2.1==w)then v else .maybe g w v
 |v=>v
def L4(a:List (Tmp×Bool×Bool))(b:List Prop):List Prop:=b.map λp=>a.foldr (λx q=>x.2.2=x.2.1->q) p
structure Ef where
 dst:Option Tmp
 v:AV
 wr:List (Nat×Ob)
 need:List Prop
 rd:List Tmp
 ks:List Nat
def wh(a:Op):List Tmp:=a.operands.toList.filterMap λ
 |.tmp t=>U t
 |_=>V
def o9(b:Nat)(o:Oper):Nat:=b+o.dst.getD 1000000
def dY(P:Program)(Γ:Gm)(b:Nat)(ops:List Oper)(o:Oper)(f:Nat->AV)(m:aT):Option Ef:=
 match o.guard with
 |none=>
  let vs:=o.op.operands.toList.map (gC f)
  let c:=o9 b o::uw o.op vs m
  match Bg P Γ (o9 b o) o.op vs (jq c m)with
  |some e=>U ⟨o.dst,e.v,e.wr,e.need,wh o.op,c⟩
  |none=>V
 |some (j,a)=>
  match (ops[j]?).bind (·.dst)with
  |some g=>match nh f 5 g a with
   |some d=>
    let vs:=o.op.operands.toList.map λx=>pZ d (gC f x)
    let c:=o9 b o::uw o.op vs m
    match Bg P Γ (o9 b o) o.op vs (jq c m)with
    |some e=>match e.wr with
     |[]=>U ⟨o.dst,.maybe g a e.v,[],L4 d e.need,d.map (·.1)++wh o.op,c⟩
     |_=>V
    |none=>V
   |none=>V
  |none=>V
def e8(a:Nat->AV)(d:Option Tmp)(v:AV):Nat->AV:=
 match d with
 |none=>a
 |some t=>λi=>if i=t then v else a i
def Ef.go(e:Ef)(s:St):St:=⟨s.n,e8 s.sl e.dst e.v,ax s.mem e.wr,s.gs⟩
def pE(P:Program)(Γ:Gm)(b:Nat)(ops:List Oper):List Oper->St->Option (List Ef×St)
 |[],s=>U ([],s)
 |o::r,s=>match dY P Γ b ops o s.sl s.mem with
  |some e=>match pE P Γ b ops r (e.go s)with
   |some (es,a)=>U (e::es,a)
   |none=>V
  |none=>V
def fW:List Nat->List Oper->List Nat
 |a,[]=>a
 |a,o::r=>fW (a++[o.after.toList.foldr (λe s=>if Region.binds .any e then 2 ^ e.on ||| a.getD e.on 0 ||| s else s) 0]) r
def pM(n:Nat):Nat->List Tmp->List Oper->Bool
 |_,_,[]=>Z
 |k,W,o::r=>
  (match o.dst with
   |some t=>J (t<n) && !W.contains t
   |none=>Z) &&
  (match o.guard with
   |some (j,_)=>J (j<k)&&o.after.toList.any λe=>e.on==j&&Region.binds .any e
   |none=>Z) &&
  (o.after.toList.all λe=>!Region.binds .any e || J (e.on<k)) &&
  pM n (k+1) (o.dst.toList++W) r
def zl3(e f:Ef):Bool:=
 (match e.dst with
  |some t=>!f.rd.contains t&&(f.dst != U t)
  |none=>Z) &&
 (match f.dst with
  |some t=>!e.rd.contains t
  |none=>Z) &&
 e.wr.all (λx=>!f.ks.contains x.1&&f.wr.all λy=>x.1 != y.1) &&
 f.wr.all λy=>!e.ks.contains y.1
def CX(k:Nat)(a:Nat)(f:Ef):Nat->List Ef->Bool
 |_,[]=>Z
 |i,e::r=>if i<k then (a.testBit i || zl3 e f)&&CX k a f (i+1) r else Z
def r9(ops:List Oper)(es:List Ef):Bool:=
 let b:=fW [] ops
 (List.range es.length).all λk=>match es[k]?,b[k]? with
  |some f,U a=>CX k a f 0 es
  |_,_=>Y
def iF(a:Nat->AV):Nat->AV:=λi=>match a i with
 |.maybe _ _ _=>.dead
 |v=>v
inductive XE where
 |normal
 |exit (id:Nat)
 |ret
 |panic (p:PV)
 |val (v:AV)
 |jump (l:Nat)
inductive Tr where
 |leaf (e:XE) (s:St)
 |br (b:Bool) (x y:Tr)
 |need (p:Prop) (x:Tr)
 |two (p:Prop) (x y:Tr)
def Tr.bind(f:St->Option Tr):Tr->Option Tr
 |.leaf .normal s=>f s
 |.leaf e s=>U (.leaf e s)
 |.br b x y=>match x.bind f,y.bind f with
  |some a,U c=>U (.br b a c)
  |_,_=>V
 |.need p x=>match x.bind f with
  |some a=>U (.need p a)
  |none=>V
 |.two p x y=>match x.bind f,y.bind f with
  |some a,U c=>U (.two p a c)
  |_,_=>V
def Tr.bindV(f:AV->St->Option Tr):Tr->Option Tr
 |.leaf (.val v) s=>f v s
 |.leaf (.panic p) s=>U (.leaf (.panic p) s)
 |.leaf _ _=>V
 |.br b x y=>match x.bindV f,y.bindV f with
  |some a,U c=>U (.br b a c)
  |_,_=>V
 |.need p x=>match x.bindV f with
  |some a=>U (.need p a)
  |none=>V
 |.two p x y=>match x.bindV f,y.bindV f with
  |some a,U c=>U (.two p a c)
  |_,_=>V
def Tr.block(id:Nat):Tr->Tr
 |.leaf (.exit i) s=>if i=id then .leaf .normal s else .leaf (.exit i) s
 |.leaf e s=>.leaf e s
 |.br b x y=>.br b (x.block id) (y.block id)
 |.need p x=>.need p (x.block id)
 |.two p x y=>.two p (x.block id) (y.block id)
def Tr.scope:Tr->Tr
 |.leaf (.jump _) s=>.need False (.leaf .ret s)
 |.leaf (.val _) s=>.need False (.leaf .ret s)
 |.leaf e s=>.leaf e s
 |.br b x y=>.br b x.scope y.scope
 |.need p x=>.need p x.scope
 |.two p x y=>.two p x.scope y.scope
def ce:Code->Nat
 |.loop _=>1
 |.seq a b=>ce a+ce b
 |.cond _ a b=>ce a+ce b
 |.block _ c=>ce c
 |.scope c=>ce c
 |_=>0
def needL(a:List Prop)(t:Tr):Tr:=a.foldr (λp t=>.need p t) t
def JH(es:List Ef)(t:Tr):Tr:=es.foldr (λe t=>needL e.need t) t
def fk(s:St):St:=⟨s.n,iF s.sl,s.mem,s.gs⟩
def Dx(P:Program)(Γ:Gm)(b:Nat)(ops:List Oper)(a:Bool)(s:St):Option Tr:=
 if pM s.n 0 [] ops then match pE P Γ b ops ops s with
  |some (es,c)=>if a=Y\/r9 ops es=Z then U (JH es (.leaf .normal (fk c)))else V
  |none=>V
 else V
structure Cx where
 Γ:Gm
 Pi:FuncId->Option Pc
 K:Nat->FuncId->List AV->St->Option Tr
def JC(P:Program)(a:String)(ty:TypeId):Option (FuncId×Bool):=
 match P.info? ty,P.underlying ty with
 |some i,U (.pointer el)=>match i.methods.find? (·.name==a)with
  |some b=>match b.func with
   |some (f,c)=>if b.path.isEmpty=Z/\(c=Z\/((P.info? el).isSome=Z/\(P.underlying el).isSome=Z/\cV P el=Y))then U (f,!c)else V
   |none=>V
  |none=>V
 |_,_=>V
def ze(P:Program)(C:Cx)(b:Nat)(o:Oper)(s:St):Option Tr:=
 match o.guard,o.op,o.op.operands.toList.map (gC s.sl)with
 |none,.call ⟨.value _,_,_⟩,.c (.fn f a)::args=>match C.Pi f with
  |some d=>match dK s.mem (args++a.map .c)with
   |some (xs,u)=>match jf C.Γ d.ps xs with
    |some (x,n)=>U (needL (n++d.ok x) (.br (d.bad x) (.leaf (.panic (d.pv x)) (fk ⟨s.n,s.sl,ax s.mem u,s.gs⟩)) (.leaf (.val (jg d.rs (d.f x))) (fk ⟨s.n,s.sl,ax s.mem u,s.gs⟩))))
    |none=>V
   |none=>V
  |none=>if args.all fX then C.K (o9 b o) f (args++a.map .c) (fk s)else V
 |none,.call ⟨.value _,_,_⟩,.c (.fb f id)::args=>if args.all fX then C.K (o9 b o) f (.c (.ptr id 0)::args) (fk s)else V
 |none,.call ⟨.invoke _ e,_,_⟩,.c (.ifp ty id)::args=>match JC P e ty with
  |some (f,Z)=>match s.mem id with
   |some (.box _ [.own r])=>if args.all fX then C.K (o9 b o) f (.c (.own r)::args) (fk s)else V
   |_=>V
  |some (f,Y)=>if args.all fX then C.K (o9 b o) f (.c (.ptr id 0)::args) (fk s)else V
  |none=>V
 |none,.binOp .eql t _ _ _,[.c (.sl _ l),.c .nil]=>if P.underlying t matches U (.slice _)then
   U (.two (l=[]) (.leaf (.val (.c (.bool Z))) (fk s)) (.leaf (.val (.c (.bool Y))) (fk s)))else V
 |_,_,_=>V
def uR(P:Program)(C:Cx)(b:Nat)(ops:List Oper):List Oper->St->Option Tr
 |[],s=>U (.leaf .normal (fk s))
 |o::r,s=>match dY P C.Γ b ops o s.sl s.mem with
  |some e=>match uR P C b ops r (e.go s)with
   |some t=>U (needL e.need t)
   |none=>V
  |none=>match ze P C b o s with
   |some t=>t.bindV λv a=>uR P C b ops r ⟨a.n,e8 a.sl o.dst v,a.mem,a.gs⟩
   |none=>V
def ux(kn:List (Tmp×Bool))(t:Tmp):Option Bool:=match kn with
 |[]=>V
 |(x,v)::r=>if x=t then U v else ux r t
def Ao(kn:List (Tmp×Bool)):Operand->Option Bool
 |.tmp t=>ux kn t
 |.const (.bool c)=>U c
 |_=>V
def IC(kn:List (Tmp×Bool)):Op->Option Operand
 |.move x=>U x
 |.pick c x y=>match Ao kn c with
  |some Z=>U x
  |some Y=>U y
  |none=>V
 |_=>V
def Cb(o:Oper):Oper:=⟨o.dst,o.op,o.type,o.pos,o.after,V⟩
def uQ(P:Program)(C:Cx)(b:Nat)(ops:List Oper)(kn:List (Tmp×Bool))(o:Oper)(s:St)(k:List (Tmp×Bool)->St->Option Tr):Option Tr:=
 match IC kn o.op,o.dst with
 |some x,U d=>match Ao kn x with
  |some c=>k ((d,c)::kn) ⟨s.n,e8 s.sl (U d) (.c (.bool c)),s.mem,s.gs⟩
  |none=>match gC s.sl x with
   |.maybe _ _ _=>V
   |v=>k kn ⟨s.n,e8 s.sl (U d) v,s.mem,s.gs⟩
 |_,_=>match dY P C.Γ b ops (Cb o) s.sl s.mem with
  |some e=>match k kn (e.go s)with
   |some t=>U (needL e.need t)
   |none=>V
  |none=>match ze P C b (Cb o) s with
   |some t=>t.bindV λv a=>k kn ⟨a.n,e8 a.sl o.dst v,a.mem,a.gs⟩
   |none=>V
def kS(P:Program)(C:Cx)(b:Nat)(ops:List Oper):List (Tmp×Bool)->List Oper->St->Option Tr
 |_,[],s=>U (.leaf .normal (fk s))
 |kn,o::r,s=>match o.guard with
  |none=>uQ P C b ops kn o s λkn s=>kS P C b ops kn r s
  |some (j,a)=>match (ops[j]?).bind (·.dst)with
   |none=>V
   |some g=>match ux kn g with
    |some v=>if v=a then uQ P C b ops kn o s λkn s=>kS P C b ops kn r s
     else kS P C b ops kn r ⟨s.n,e8 s.sl o.dst .dead,s.mem,s.gs⟩
    |none=>match s.sl g with
     |.c (.bool p)=>match uQ P C b ops ((g,a)::kn) o s λkn s=>kS P C b ops kn r s,kS P C b ops ((g,!a)::kn) r ⟨s.n,e8 s.sl o.dst .dead,s.mem,s.gs⟩with
      |some x,U y=>U (.br p (if a then x else y) (if a then y else x))
      |_,_=>V
     |_=>V
def Cc(m:aT)(id:Nat):aT:=match me m (.own id)with
 |some (_,u)=>ax m u
 |none=>m
def xW(s:St):St:=⟨s.n,s.sl,((List.range s.n).flatMap λt=>match s.sl t with
 |.c (.ptr id 0)=>match s.mem id with
  |some (.box _ cs)=>cs.flatMap lH
  |_=>[]
 |_=>[]).foldl Cc s.mem,s.gs⟩
def cr(P:Program)(C:Cx)(bs:Nat)(Λ:Nat->St->Option Tr):Code->Nat->St->Option Tr
 |.skip,_,s=>U (.leaf .normal s)
 |.ret,_,s=>U (.leaf .ret s)
 |.exit id,_,s=>U (.leaf (.exit id) s)
 |.region _ ops d,_,s=>match Dx P C.Γ bs ops.toList d s with
  |some t=>U t
  |none=>match (if d=Y/\pM s.n 0 [] ops.toList=Z then uR P C bs ops.toList ops.toList s else V)with
   |some t=>U t
   |none=>match (if d=Y/\pM s.n 0 [] ops.toList=Z then kS P C bs ops.toList [] ops.toList s else V)with
    |some t=>U t
    |none=>match Dx P C.Γ bs ops.toList d (xW s)with
     |some t=>U t
     |none=>U (.need False (.leaf .ret s))
 |.seq a b,k,s=>match cr P C bs Λ a k s with
  |some t=>t.bind (cr P C bs Λ b (k+ce a))
  |none=>V
 |.cond c a b,k,s=>match gC s.sl c with
  |.c (.bool p)=>match cr P C bs Λ a k s,cr P C bs Λ b (k+ce a) s with
   |some x,U y=>U (.br p x y)
   |_,_=>V
  |_=>V
 |.block id c,k,s=>match cr P C bs Λ c k s with
  |some t=>U (t.block id)
  |none=>V
 |.loop _,k,s=>match Λ k s with
  |some t=>U t
  |none=>U (.need False (.leaf .ret s))
 |.scope c,k,s=>match cr P C bs Λ c k s with
  |some t=>U t.scope
  |none=>V
 |.label _,_,s=>U (.leaf .normal s)
 |.goto l,_,s=>U (.leaf (.jump l) s)
 |_,_,s=>U (.need False (.leaf .ret s))
def sj(n:Nat)(args:List AV):St:=⟨n,λi=>args.getD i .dead,λ_=>V,λ_=>.dead⟩
def St.at(s:St)(t:Nat):AV:=if t<10000 then s.sl t else s.gs (t-10000)
def U1(P:Program)(s:St):ResultVar->Option (AV×List Prop)
 |.tmp t=>U (s.sl t,[])
 |.cell a t=>match s.sl a with
  |.c (.ptr id off)=>match CE P t (.c (.ptr id off)) s.mem with
   |some e=>U (e.v,e.need)
   |none=>V
  |_=>V
def gv(P:Program)(s:St):List ResultVar->Option (List AV×List Prop)
 |[]=>U ([],[])
 |r::rs=>match U1 P s r,gv P s rs with
  |some (v,n),U (vs,k)=>U (v::vs,n++k)
  |_,_=>V
def rX:List AV->AV
 |[v]=>v
 |vs=>.tup vs
def St.back(n:Nat)(s:St):St:=⟨n,λt=>if t<10000 then s.gs t else .dead,s.mem,λt=>s.gs (t+10000)⟩
def gn(P:Program)(a:List ResultVar)(n:Nat):Tr->Option Tr
 |.leaf .ret s=>match gv P s a with
  |some (vs,d)=>U (needL d (.leaf (.val (rX vs)) (s.back n)))
  |none=>V
 |.leaf .normal s=>match gv P s a with
  |some (vs,d)=>U (needL d (.leaf (.val (rX vs)) (s.back n)))
  |none=>V
 |.leaf (.panic p) s=>U (.leaf (.panic p) (s.back n))
 |.leaf _ _=>V
 |.br b x y=>match gn P a n x,gn P a n y with
  |some c,U e=>U (.br b c e)
  |_,_=>V
 |.need p x=>match gn P a n x with
  |some c=>U (.need p c)
  |none=>V
 |.two p x y=>match gn P a n x,gn P a n y with
  |some c,U e=>U (.two p c e)
  |_,_=>V
def fU(P:Program)(C:Cx)(a:FuncId->Option (Func×(Nat->St->Option Tr)))(d:Nat)(f:FuncId)(args:List AV)(s:St):Option Tr:=
 match a f with
 |some (fn,Λ)=>match fn.body with
  |some c=>if args.length<=fn.ntmps/\(fn.name == "runtime.NumGoroutine")=Y then
    match cr P C ((d+1)*10000) Λ c 0 ⟨fn.ntmps,λi=>args.getD i .dead,s.mem,s.at⟩with
    |some t=>gn P fn.results.toList s.n t
    |none=>V
   else V
  |none=>V
 |none=>V
section
variable (P:Program) (w:World) (F:Nat->Prop) (R:Nat->Value->Prop)
def bj:List AV->List Value->Prop
 |[],[]=>True
 |a::r,v::s=>aE P w F R a v/\bj r s
 |_,_=>False
end
def Uy:{a:List Value} -> {vs:List AV}->bj P w F R vs a->ln P w F R vs (λj u=>a[j]?= U u)
 |[],[],_=>trivial
 |u::a,v::vs,h=>⟨⟨u,rfl,h.1⟩,by simpa using Uy h.2⟩
 |[],_::_,h=>h.elim
 |_::_,[],h=>h.elim
def sV(P:Program)(B:Nat)(o:Oper)(a:Act)(w:World)(F:Nat->Prop)(γ:Nat->Value)(M:aT)(v:AV)(wr:List (Nat×Ob)):Prop:=
 ∀ (K:Act->World->Prop) (Q:Exit->Act->World->Prop),
  (∀ u w' F' γ',Step B w F γ M w' F' γ' (ax M wr)->MemOK P B w' F' γ' (ax M wr)->aE P w' F' (ap (ax M wr) γ') v u->K (a.put o.dst u) w')->o.wp P a w K Q
section
variable {P:Program} {B:Nat} {o:Oper} {a:Act} {w w':World} {F F':Nat->Prop} {γ γ':Nat->Value} {M m:aT} {R:Nat->Value->Prop}
def ir{v:AV}{wr:List (Nat×Ob)}(e:(execOp a.eval o).run P w=.ok (.value u) w')(f:Step B w F γ M w' F' γ' (ax M wr))(d:MemOK P B w' F' γ' (ax M wr))(c:aE P w' F' (ap (ax M wr) γ') v u):sV P B o a w F γ M v wr:=by
 intro K Q b;unfold Oper.wp;rw[e];exact b u w' F' γ' f d c
def dl{v:AV}(e:MemOK P B w F γ M)(d:∀ b,F b->b<w.heap.size)(f:(execOp a.eval o).run P w=.ok (.value u) w)(c:aE P w F (ap M γ) v u):sV P B o a w F γ M v []:=
 ir f (Step.refl d) e c
def aN.drop_{cs:List AC}(h:aN P w F R cs g)(n:Nat):aN P w F R (cs.drop n) (λj u=>g (n+j) u):=
 ki _ λj c a=>h.at_ (by rw[<- a,ub1])
def aN.take_{cs:List AC}(h:aN P w F R cs g)(n:Nat):aN P w F R (cs.take n) g:=
 ki _ λj c a=>h.at_ (by rw[ub2]at a;split at a<;>simp_all)
def aN.turn{cs:List AC}{g':Nat->Value->Prop}(h:aN P w F R cs g)(e:∀ j u,j<cs.length->g j u->g' j u):aN P w F R cs g':=
 ki _ λj c a=>by
  obtain⟨u,b,d⟩:=h.at_ a;exact⟨u,e j u (uak.1 a).1 b,d⟩
def aN.vals:(cs:List AC) -> {g:Nat->Value->Prop}->aN P w F R cs g->∃ b:List Value,b.length=cs.length/\(∀ j u,b[j]?= U u->g j u)/\aN P w F R cs (λj u=>b[j]?= U u)/\∀ u∈b,u.oneCell'=Z
 |[],_,_=>⟨[],rfl,λj u h=>by simp at h,uT,λu h=>by simp at h⟩
 |c::r,g,h=>by
  obtain⟨⟨u,l,d,m⟩,n⟩:=h;obtain⟨b,e,f,i,k⟩:=aN.vals r n;refine⟨u::b,by simp[e],λj v a=>?_,⟨⟨u,rfl,d,m⟩,by simpa using i⟩,λv a=>?_⟩;cases j with
  |zero=>simp at a;subst a;exact l
  |succ j=>exact f j v (by simpa using a)
  rcases uei.1 a with rfl|a
  exact d;exact k v a
def uc{cs l:List AC}(h:ig cs off n=U l)(a:aN P w F R cs g):l.length=n/\aN P w F R l (λj u=>g (off+j) u):=by
 unfold ig at h;split at h;cases h;exact⟨by simp;omega,(a.drop_ off).take_ n⟩;cases h
def lw{id:Nat}{cs:List AC}(k:MemOK P B w F γ M)(d:M id=U (.box e cs))(h:bc P w F (ap M γ) (.ptr id off) v):
  ∃ b arr,γ id=.pointer (U ⟨b,0,V⟩)/\v=.pointer (U ⟨b,off,V⟩)/\w.heap[b]?= U (.cells arr e (0,0))/\¬ F b/\B<=b/\arr.size=cs.length/\aN P w F (ap M γ) cs (λj u=>arr[j]?= U u):=by
 obtain⟨b,arr,c,g⟩:=k.ob id _ d;obtain⟨f,a,i⟩:=h;unfold ap at a;rw[d]at a;simp only[c,ubt,ucl,Addr.mk.injEq,and_true]at a;subst a;exact⟨f,arr,c,i,g⟩
def HH{id:Nat}{cs:List AC}(i:MemOK P B w F γ M)(c:M id=U (.fbox cs))(h:bc P w F (ap M γ) (.ptr id off) v):
  ∃ b,v=.pointer (U ⟨b,off,V⟩)/\F b/\aN P w F (ap M γ) cs (λj u=>w.cell? ⟨b,j,V⟩=U u):=by
 obtain⟨b,e,f⟩:=i.ob id _ c;obtain⟨d,a,g⟩:=h;unfold ap at a;rw[c]at a;simp only[e,ubt,ucl,Addr.mk.injEq,and_true]at a;subst a;exact⟨d,g,f⟩
def ez{id:Nat}{o:Ob}(a:M id=U o)(b:o ≠ .gone)(h:bc P w F (ap M γ) (.own id) v):v=γ id:=by
 simp only[bc]at h;unfold ap at h;cases o<;>simp_all
def m9(a:Addr)(i j:Nat):(a.add i).add j=a.add (i+j):=by
 unfold Addr.add;by_cases hi:i=0<;>by_cases b:j=0<;>simp[hi,ueh]
def i8(b off j:Nat):(⟨b,off,V⟩:Addr).add j=⟨b,off+j,V⟩:=by unfold Addr.add;split<;>simp_all
def tG{fr:Nat×Nat}(h:w.heap[b]?= U (.cells arr e fr))(j:Nat):w.cell? ⟨b,j,V⟩=arr[j]? := by simp[World.cell?,h]
def qx2{t:Ty}{l:List t.den}(h:bU w F t l xs)(hi:i<l.length):aN P w F R (enc t (l.getD i t.dflt)) (λj u=>xs[i*t.size+j]?= U u):=by
 have:=h i (l.getD i t.dflt) (by simp[uaq hi]);exact aA.enc t _ this
def Vk{t:Ty}{l:List t.den}(h:aA w F (.sl t) l (λ_ u=>u=v))(hi:i<l.length):
  ∃ ad c,v=.slice (U ad) l.length c/\F ad.block/\aN P w F R (enc t (l.getD i t.dflt)) (λj u=>w.cell? ((ad.add (i*t.size)).add j)=U u):=by
 obtain⟨A,c,a,g,k,b⟩:=h;have f:l[i]?= U (l.getD i t.dflt):=by simp[uaq hi]
 obtain⟨ad,rfl,e,d⟩:=b i _ f;exact⟨ad,c,a.symm,e,(aA.enc t _ d).turn λj u _ h=>by rw[m9];exact h⟩
def NI{id:Nat}{t:Ty}{l:List t.den}(q:MemOK P B w F γ M)(m:M id=U (.arr ety t l))(o:ety<cj)(hi:i<l.length):
  ∃ b c arr,γ id=.slice (U ⟨b,0,V⟩) l.length c/\w.heap[b]?= U (.cells arr ety (0,0))/\¬ F b/\B<=b/\(i+1)*t.size<=arr.size /\
   aN P w F (ap M γ) (enc t (l.getD i t.dflt)) (λj u=>arr[i*t.size+j]?= U u):=by
 obtain⟨xs,g,h,k,v⟩:=gg.of (q.ob id _ m) o;obtain⟨y,z|⟨b,d,cur,f,n,p,r,_,e,s⟩⟩:=g;omega;refine⟨b,d,cur,f,p,h b (by rw[f];rfl),n,?_,(qx2 k hi).turn λj u x a=>?_⟩;rw[e];exact ube _ (by omega);rw[<- s,ub2]at a;split at a;simpa using a;cases a
def Cu:{cs:List AC} -> {a:List Int}->oU k cs=U a->cs=a.map (.int k)
 |[],a,h=>by simp[oU]at h;subst h;rfl
 |c::r,a,h=>by
  unfold oU at h;split at h
  simp_all
  rename_i f n i d;cases d;split at h;rename_i e;subst e;cases b:oU k r with
  |none=>rw[b]at h;simp at h
  |some g=>
   rw[b]at h;simp at h;subst h;rw[Cu b];rfl
  cases h;cases h
def Qz{i:Int}{p:Int×Nat}:{cs:List AC} -> {k:Int}->(ji k cs).find? (λx=>x.1==i)=U p->k<=i/\cs[(i-k).toNat]?= U (.fn p.2 [])
 |[],_,h=>by simp[ji]at h
 |c::r,k,h=>by
  have a:(ji (k+1) r).find? (λx=>x.1==i)=U p->k<=i/\(c::r)[(i-k).toNat]?= U (.fn p.2 []):=λb=>by
   obtain⟨n,j⟩:=Qz b;refine⟨by omega,?_⟩;rw[show(i-k).toNat=(i-(k+1)).toNat+1 by omega];simpa using j
  by_cases g:∃ f,c=.fn f [];obtain⟨f,rfl⟩:=g;have b:((k,f)::ji (k+1) r).find? (λx=>x.1==i)=U p:=h;rw[List.find?_cons]at b;split at b;rename_i m;have e:k=i:=by simpa using m
  cases b;rw[e];exact⟨ufa _,by simp⟩;exact a b;have l:ji k (c::r)=ji (k+1) r:=by
   cases c with
   |fn f d=>cases d with
    |nil=>exact absurd ⟨f,rfl⟩ g
    |cons _ _=>rfl
   |_=>rfl
  rw[l]at h;exact a h
def Kf{cs cs':List AC}{i:Int}{r:List Prop}(h:xl.pickI cs n i=U (cs',r))(A:av r)(q:aN P w F R cs (λj u=>w.cell? (ad.add j)=U u))(B:0<=i)(C:i<n):
  aN P w F R cs' (λj u=>w.cell? ((ad.add i.toNat).add j)=U u):=by
 unfold xl.pickI at h;split at h;rename_i k bf z a;split at h;rename_i s g;obtain⟨rfl,_⟩:=h;obtain⟨m,f⟩:=uc a q;have y:=Cu g;subst y;have hi:i.toNat<s.length:=by simp at m;omega
 obtain⟨u,b,d,e⟩:=f.at_ (j:=i.toNat) (c:=.int k (s.getD i.toNat 0)) (by simp[uaq hi]);exact⟨⟨u,by show w.cell? ((ad.add i.toNat).add 0)=U u;rw[m9];simpa using b,d,e⟩,uT⟩;cases h;rename_i bf z a;split at h<;>try trivial
 cases h;obtain⟨p,o⟩:=uar.1 A;obtain⟨m,f⟩:=uc a q;obtain⟨D,l⟩:=Qz o;rw[uer]at l;obtain⟨u,b,d,vs,e,t,_⟩:=f.at_ l;have v:=Array.size_eq_zero_iff.mp t;subst v;refine⟨⟨u,by show w.cell? ((ad.add i.toNat).add 0)=U u;rw[m9];simpa using b,d,?_⟩,uT⟩;show u=ie ((ji 0 bf).find? (λx=>x.1==i));rw[o,e];rfl;cases h
def OC{x:AV}{cs:List AC}{n:List Prop}(r:MemOK P B w F γ M)(d:∀ i y,m i=U y->M i=U y)(h:xl m x=U (cs,n))(s:av n)(z:aE P w F (ap M γ) x v):
  ∃ ad,v=.pointer (U ad)/\aN P w F (ap M γ) cs (λj u=>w.cell? (ad.add j)=U u):=by
 unfold xl at h;split at h;rename_i id off;split at h;rename_i e cs' a;cases h;obtain⟨b,arr,_,f,G,_,_,_,p⟩:=lw r (d _ _ a) z.2;exact⟨_,f,(p.drop_ off).turn λj u _ o=>by rw[i8,tG G];exact o⟩;rename_i cs' a;cases h;obtain⟨b,f,_,p⟩:=HH r (d _ _ a) z.2;exact⟨_,f,(p.drop_ off).turn λj u _ o=>by rw[i8];exact o⟩;cases h;rename_i cs';cases h;obtain⟨_,ad,f,_,p⟩:=z;exact⟨ad,f,p⟩;rename_i id sz i off;obtain⟨A,T,S,g,N⟩:=z;split at h;rename_i e t l a;split at h;rename_i q;cases h;obtain⟨b,c,arr,C,L,_,_,_,R⟩:=NI r (d _ _ a) q.1 s;unfold ap at g;rw[d _ _ a]at g;simp only[C,ucl]at g;obtain⟨rfl,_,_⟩:=g;refine⟨_,N,(R.drop_ off).turn λj u _ o=>?_⟩;rw[m9,i8,tG L,<- o,<- q.2];congr 1;omega;cases h;rename_i t l a;split at h;rename_i q;cases h;have H:=r.ob id _ (d _ _ a);obtain⟨ad,c,C,L,Q⟩:=Vk H s;unfold ap at g;rw[d _ _ a]at g;simp only[C,ucl]at g;obtain⟨rfl,_,_⟩:=g;refine⟨_,N,(Q.drop_ off).turn λj u _ o=>?_⟩;rw[m9]at o |-;rw[<- o,<- q];congr 2;omega;cases h;cases h;rename_i K k i;obtain⟨ad,D,E,g,rfl⟩:=z;refine⟨_,rfl,?_⟩;split at h;rename_i id off;split at h;rename_i e cs' a;obtain⟨b,arr,_,f,G,_,_,_,p⟩:=lw r (d _ _ a) D;simp at f;subst f;exact Kf h s ((p.drop_ off).turn λj u _ o=>by rw[i8,tG G];exact o) E g;rename_i cs' a;obtain⟨b,f,_,p⟩:=HH r (d _ _ a) D;simp at f;subst f;exact Kf h s ((p.drop_ off).turn λj u _ o=>by rw[i8];exact o) E g;cases h;rename_i cs';obtain⟨O,f,_,p⟩:=D;simp at f;subst f;exact Kf h s p E g;cases h;cases h
def yT{d:TypeDesc}(h:P.underlying t=U d):(isAgg t).run P w=.ok (cV P t) w:=by
 unfold isAgg cV;rw[ues,ud5 h];cases d<;>simp[h]
def gw{i:TypeInfo}(h:P.info? t=U i):(sizeOf t).run P w=.ok (P.cellsOf t) w:=by
 simp[sizeOf,typeInfo,h,Program.cellsOf]
def S2{x:AV}{e:Eff}(D:MemOK P B w F γ M)(b:∀ i y,m i=U y->M i=U y)(h:CE P t x m=U e)(E:av e.need)(G:aE P w F (ap M γ) x v):
  e.wr=[]/\∃ u,(Instr.loadAt t v).run P w=.ok u w/\aE P w F (ap M γ) e.v u:=by
 unfold CE at h;split at h;rename_i cs n c;split at h;rename_i hi;obtain⟨i,o⟩:=uar.1 hi.1;obtain⟨d,C⟩:=uar.1 hi.2;split at h;rename_i q;split at h;rename_i l O;cases h;obtain⟨ad,rfl,N⟩:=OC D b c E G;obtain⟨f,k⟩:=uc O N;obtain⟨z,A,K,L,_⟩:=k.vals;refine⟨rfl,.agg z.toArray,?_,z.toArray,rfl,by simpa using A,by simpa using L⟩;have p:=run_loadCells_list (P:=P) w ad z (λj u Q=>by have:=K j u Q;simpa using this);simp[Instr.loadAt,Instr.sureAddr,loadVar,yT C,q,gw o,<- f,<- A,p];cases h;rename_i q;split at h;rename_i a r;cases h;obtain⟨ad,rfl,⟨u,f,k,H⟩,_⟩:=OC D b c E G;refine⟨rfl,u,?_,k,H⟩;have g:w.cell? ad=U u:=by simpa[Addr.add]using f
 have s:cV P t=false:=by simpa using q
 simp[Instr.loadAt,Instr.sureAddr,loadVar,yT C,s,Sem.run,g];cases h;cases h;cases h
end
def gd(k:IntKind)(n:Int):inR k (k.wrap n):=by
 unfold inR IntKind.wrap IntKind.min IntKind.max;cases k<;>simp[IntKind.signed,IntKind.bits]<;>first|omega|(split<;>omega)
def zF(k:IntKind):k.min<=0/\0<=k.max:=by cases k<;>simp[IntKind.min,IntKind.max,IntKind.signed,IntKind.bits]
def zby(k:IntKind){b:Int}(d:inR k a):inR k (a.tmod b):=by
 have f:=zF k;have e:(a.tmod b).natAbs<=a.natAbs:=by rw[Int.natAbs_tmod];exact Nat.mod_le _ _
 unfold inR at *;rcases Int.le_total 0 a with h|h
 have c:=Int.tmod_nonneg b h;omega;have c:0<=(-a).tmod b:=Int.tmod_nonneg b (by omega);rw[Int.neg_tmod]at c;omega
def qhd(k:IntKind)(n:Nat)(g:inR k a):inR k (a.fdiv (2 ^ n)):=by
 have i:=zF k;have d:(0:Int)<2 ^ n:=Int.pow_pos (by omega);rw[uag _ (by omega)];unfold inR at *;rcases Int.le_total 0 a with h|h
 have e:=udk h (uet d);have f:=Int.ediv_le_self (2 ^ n) h;omega;have e:=Int.ediv_nonpos_of_nonpos_of_neg h (by omega);have f:a<=a/2 ^ n:=by
  refine Int.le_ediv_of_mul_le d ?_;have:=Int.mul_le_mul_of_nonpos_left (b:=2 ^ n) (c:=1) h (by omega);omega
 omega
section
variable {P:Program} {B:Nat} {o:Oper} {a:Act} {w w':World} {F F':Nat->Prop} {γ γ':Nat->Value} {M m:aT} {R:Nat->Value->Prop}
def vP{i:TypeInfo}{d:TypeDesc}(b:P.underlying t=U d)(hi:P.info? t=U i)(a:off+(if cV P t then P.cellsOf t else 1)<=cs.size):
  (part t cs off).run P w=.ok (if cV P t then .agg (cs.extract off (off+P.cellsOf t))else cs.getD off undef) w:=by
 unfold part;rw[ues,yT b];cases c:cV P t;simp only[c]at a;have:off<cs.size:=by simp at a;omega
 simp[this];simp[gw hi]
def y9{xs l:List AC}(e:n=if cV P t then P.cellsOf t else 1)(o:cs.size=xs.length)(f:aN P w F R xs (λj u=>cs[j]?= U u))(h:ig xs off n=U l):
  off+n<=cs.size/\∃ a:List Value,a.length=l.length/\aN P w F R l (λj u=>a[j]?= U u)/\(if cV P t then .agg (cs.extract off (off+P.cellsOf t))else cs.getD off undef)=(if cV P t then .agg a.toArray else a.headD undef)/\l.length=n:=by
 have d:off+n<=xs.length:=by
  unfold ig at h;split at h;assumption;cases h
 obtain⟨b,c⟩:=uc h f;refine⟨by omega,(cs.toList.drop off).take n,by rw[uc5,uc6,b,ubu];omega,c.turn λj u m g=>?_,?_,b⟩;have:j<n:=by omega
 rw[ub2,ufv this,ub1];simpa using g;subst e;split;congr 1;rw[<- uc7];simp[List.extract];rename_i i;have k:off+1<=xs.length:=by simpa[i]using d
 have:off<cs.size:=by omega
 simp[Array.getD,this];rw[ual (by simpa using this)];simp
def tQ(d:Nat)(e:TypeId)(n:Nat)(xs c:Array Value):List Nat->Sem Bool
 |[]=>pure Z
 |i::r=>do
  let a <- part e xs (i*n)
  let b <- part e c (i*n)
  let q <- Op.equalIn d e a b
  if (!q)=Z then pure Y else tQ d e n xs c r
def qx7(d:Nat)(t e:TypeId)(len:Nat){o:TypeInfo}(xs c:Array Value)(h:P.underlying t=U (.array len e))(hi:P.info? e=U o):
  (Op.equalIn (d+1) t (.agg xs) (.agg c)).run P w=(tQ d e (P.cellsOf e) xs c (List.range len)).run P w:=by
 simp only[Op.equalIn,ues,ud5 h,ucm,gw hi];rw[Std.Legacy.Range.forIn_eq_forIn_range'];have:List.range' 0 len 1=List.range len:=ubm.symm;simp;rw[this];generalize List.range len=l
 induction l generalizing w with
 |nil=>simp[tQ]
 |cons i l j=>
  simp only[List.forIn_cons,tQ,ues];generalize (part e xs (i*P.cellsOf e)).run P w=k;cases k with
  |ok a f=>
   simp only[ucm];generalize (part e c (i*P.cellsOf e)).run P f=m;cases m with
   |ok b g=>
    simp only[ucm];generalize (Op.equalIn d e a b).run P g=n;cases n with
    |ok r p=>
     cases r;simp;simp only[ucm,Bool.not_true,ufs,ueu];exact j
    |halt x p=>simp
   |halt x g=>simp
  |halt x f=>simp
def KE:(n:Nat) -> {t:TypeId} -> {xs K:List AC} -> {r:Bool}->tR P n t xs K=U r->(d:Nat)->n<=d->(c vs:List Value)->c.length=xs.length->vs.length=K.length ->
  aN P w F R xs (λj u=>c[j]?= U u)->aN P w F R K (λj u=>vs[j]?= U u) ->
  (Op.equalIn d t (if cV P t then .agg c.toArray else c.headD undef) (if cV P t then .agg vs.toArray else vs.headD undef)).run P w=.ok r w
 |0,t,xs,K,r,h,d,hd,c,vs,hu,hv,G,H=>by simp[tR]at h
 |n+1,t,xs,K,r,h,d,hd,c,vs,hu,hv,G,H=>by
  obtain⟨d,rfl⟩:∃ d',d=d'+1:=⟨d-1,by omega⟩;unfold tR at h;split at h;rename_i m;split at h;rename_i a b;cases h;obtain⟨⟨u,e1,_,rfl⟩,_⟩:=G;obtain⟨⟨v,f1,_,rfl⟩,_⟩:=H;have B:cV P t=false:=by simp[cV,m]
  have e2:c.headD undef=.bool a:=by cases c<;>simp_all
  have f2:vs.headD undef=.bool b:=by cases vs<;>simp_all
  simp only[B,e2,f2];exact ucn w d t a b m;cases h;rename_i k0 m;split at h;rename_i k a k' b;split at h;rename_i hk;cases h;obtain⟨⟨u,e1,_,rfl,_⟩,_⟩:=G;obtain⟨⟨v,f1,_,rfl,_⟩,_⟩:=H;have B:cV P t=false:=by simp[cV,m]
  have e2:c.headD undef=.int k a:=by cases c<;>simp_all
  have f2:vs.headD undef=.int k b:=by cases vs<;>simp_all
  simp only[B,e2,f2];exact run_equalIn_int w d t k k0 a b m;cases h;cases h;rename_i fs m;split at h;cases h;rename_i hst;have B:cV P t=true:=by simp[cV,m]
  simp only[B,if_true];have E:P.fieldsOf t=fs:=by simp[Program.fieldsOf,m]
  rw[run_equalIn_struct w d t c.toArray vs.toArray (by rw[E];exact m) (by simpa using hst),E];generalize fs.toList=l at h
  induction l generalizing r with
  |nil=>
   simp at h;subst h;simp[Op.eqFields]
  |cons f l L=>
   simp at h;split at h;rename_i hf;simp only[Op.eqFields,hf];simpa using L _ h;rename_i hf;split at h;rename_i hi;obtain⟨di,o⟩:=uar.1 hi.1;obtain⟨ti,g⟩:=uar.1 hi.2;split at h;rename_i x y z A;split at h;rename_i p q hp hq;cases h;obtain⟨b1,C,M,N,O,b5⟩:=y9 (cs:=c.toArray) rfl (by simpa using hu) (by simpa using G) z;obtain⟨Q,D,S,T,W,c5⟩:=y9 (cs:=vs.toArray) rfl (by simpa using hv) (by simpa using H) A;have s:=KE n hp d (by omega) C D M S N T;simp only[Op.eqFields,ufv hf,ues,vP o g b1,vP o g Q,ucm,O,W,s];cases p;simp;simpa using L _ hq;cases h;cases h;cases h
  rename_i len e m;split at h;rename_i hi;obtain⟨di,o⟩:=uar.1 hi.1;obtain⟨ti,g⟩:=uar.1 hi.2;have B:cV P t=true:=by simp[cV,m]
  simp only[B,if_true];rw[qx7 d t e len c.toArray vs.toArray m g];generalize List.range len=l at h
  induction l generalizing r with
  |nil=>
   simp at h;subst h;simp[tQ]
  |cons i l L=>
   simp at h;split at h;rename_i x y z A;split at h;rename_i p q hp hq;cases h;obtain⟨b1,C,M,N,O,b5⟩:=y9 (cs:=c.toArray) rfl (by simpa using hu) (by simpa using G) z;obtain⟨Q,D,S,T,W,c5⟩:=y9 (cs:=vs.toArray) rfl (by simpa using hv) (by simpa using H) A;have s:=KE n hp d (by omega) C D M S N T;simp only[tQ,ues,vP o g b1,vP o g Q,ucm,O,W,s];cases p;simp;simpa using L _ hq;cases h;cases h
  cases h;cases h
def qdx{a:BinOp}{r:Bool}(h:Hd a x y=U r)(t:TypeId)(X b:Operand):
  (do eqGuard a t X b (.int k x) (.int k y);binOp a t (.int k x) (.int k y):Sem Value).run P w=.ok (.bool r) w:=by
 unfold Hd at h;split at h<;>simp at h<;>subst h<;>simp[ud6,binOp,Op.intCmp]
def qbm{j:BinOp}{x y:AV}{z:Value}{c:AC}{n:List Prop}(h:F6 P j t x y=U (c,n))(e:av n)(q:aE P w F R x vx)(s:aE P w F R y z)(X N:Operand):
  ∃ u,(do eqGuard j t X N vx z;binOp j t vx z:Sem Value).run P w=.ok u w/\u.oneCell'=Z/\bc P w F R c u:=by
 unfold F6 at h;split at h;rename_i k a G b;obtain⟨_,rfl,A⟩:=q;obtain⟨_,rfl,L⟩:=s;split at h;rename_i i;have key:∀ f,f=j->(f ≠ .shl/\f ≠ .shr)->k=G:=by
  rintro f rfl ⟨H,K⟩;rcases i with i|i
  exact i;cases f<;>simp_all[RS]
 unfold NU at h;split at h;obtain rfl:=key _ rfl (by simp);cases h;exact⟨_,by simp[ud6,binOp,Op.intArith],rfl,rfl,gd _ _⟩;obtain rfl:=key _ rfl (by simp);cases h;exact⟨_,by simp[ud6,binOp,Op.intArith],rfl,rfl,gd _ _⟩;obtain rfl:=key _ rfl (by simp);cases h;exact⟨_,by simp[ud6,binOp,Op.intArith],rfl,rfl,gd _ _⟩;obtain rfl:=key _ rfl (by simp);cases h;exact⟨_,by have e:=e;simp only[av]at e;simp[ud6,binOp,Op.intDiv,e],rfl,rfl,gd _ _⟩;obtain rfl:=key _ rfl (by simp);cases h;exact⟨_,by have e:=e;simp only[av]at e;simp[ud6,binOp,Op.intDiv,e],rfl,rfl,zby _ A⟩;obtain rfl:=key _ rfl (by simp);cases h;exact⟨_,by simp[ud6,binOp,Op.intBits],rfl,rfl,gd _ _⟩;obtain rfl:=key _ rfl (by simp);cases h;exact⟨_,by simp[ud6,binOp,Op.intBits],rfl,rfl,gd _ _⟩;obtain rfl:=key _ rfl (by simp);cases h;exact⟨_,by simp[ud6,binOp,Op.intBits],rfl,rfl,gd _ _⟩;obtain rfl:=key _ rfl (by simp);cases h;exact⟨_,by simp[ud6,binOp,Op.intBits],rfl,rfl,gd _ _⟩;cases h;exact⟨_,by have e:=e;simp only[av]at e;simp[ud6,binOp,Op.shift,e],rfl,rfl,gd _ _⟩;cases h;exact⟨_,by have e:=e;simp only[av]at e;simp[ud6,binOp,Op.shift,e],rfl,rfl,qhd _ _ A⟩;obtain rfl:=key _ rfl ⟨by assumption,by assumption⟩;split at h;rename_i r o;cases h;exact⟨_,qdx o t X N,rfl,rfl⟩;cases h;cases h;rename_i a b;obtain⟨_,rfl⟩:=q;obtain⟨_,rfl⟩:=s;split at h;split at h;rename_i p;simp only at h;obtain⟨rfl,rfl⟩:=h;have g:P.underlying t=U .bool:=by revert p;cases P.underlying t with
  |none=>simp
  |some d=>cases d<;>simp
 exact⟨_,by simp[eqGuard_at_bool,binOp,Op.equal,Op.maxDepth,ucn w 9999 t a b g],rfl,rfl⟩;cases h;split at h;rename_i p;simp only at h;obtain⟨rfl,rfl⟩:=h;have g:P.underlying t=U .bool:=by revert p;cases P.underlying t with
  |none=>simp
  |some d=>cases d<;>simp
 exact⟨_,by simp[eqGuard_at_bool,binOp,Op.equal,Op.maxDepth,ucn w 9999 t a b g],rfl,rfl⟩;cases h;cases h;rename_i xs M;obtain⟨v,rfl,B,C⟩:=q;obtain⟨vs,rfl,D,E⟩:=s;split at h;rename_i l;split at h;rename_i r o;have m:=KE 20 o 10000 (by omega) v.toList vs.toList (by simpa using B) (by simpa using D) (by simpa using C) (by simpa using E);simp only[l.2,if_true]at m;split at h;cases h;exact⟨_,by simp[run_eqGuard_agg w _ t X N v vs l.1,run_eql_struct,m],rfl,rfl⟩;cases h;exact⟨_,by simp[run_eqGuard_agg w _ t X N v vs l.1,run_neq_struct,m],rfl,rfl⟩;cases h;cases h;cases h;cases h
end
section
variable {P:Program} {B:Nat} {o:Oper} {a:Act} {w w':World} {F F':Nat->Prop} {γ γ':Nat->Value} {M m:aT} {R:Nat->Value->Prop}
def N7(v:Value):bc P w F R (wF v) v:=by
 unfold wF;split;split;rename_i h;exact⟨rfl,h⟩;trivial;rfl;split;rename_i h;exact⟨rfl,h⟩;trivial;rfl;trivial
def qab(vs:List Value)(h:∀ v∈vs,v.oneCell'=Z):aN P w F R (vs.map wF) (λj u=>vs[j]?= U u):=
 ki _ λj c a=>by
  rw[uco]at a;cases b:vs[j]? with
  |none=>rw[b]at a;simp at a
  |some v=>
   rw[b]at a;simp at a;subst a;exact⟨v,rfl,h v (ubg b),N7 v⟩
def tf(v:Value):aE P w F R (lu v) v:=by
 unfold lu;split;rename_i cs;split;rename_i h;refine⟨cs,rfl,by simp,?_⟩;have:=qab (P:=P) (w:=w) (F:=F) (R:=R) cs.toList (λv c=>uc8.1 h v c);simpa using this;trivial;trivial;rename_i a b;refine⟨?_,N7 v⟩;cases v<;>first|rfl|(exact absurd rfl (a _))|(exact absurd rfl (b _))
def o6{x:AV}{cs:List AC}(h:lz x=U cs)(a:aE P w F R x v):v.cells.size=cs.length/\aN P w F R cs (λj u=>v.cells[j]?= U u)/\(∀ u∈v.cells,u.oneCell'=Z):=by
 unfold lz at h;split at h;cases h;have k:v.cells = #[v]:=by
  have:=a.1;cases v<;>first|rfl|simp[Value.oneCell']at this
 rw[k];exact⟨rfl,⟨⟨v,rfl,a.1,a.2⟩,uT⟩,by simpa using a.1⟩;cases h;obtain⟨arr,rfl,g,d⟩:=a;refine⟨g,d,λu i=>?_⟩;obtain⟨c,l,e,m,f⟩:=d.vals;have:c=arr.toList:=by
  apply List.ext_getElem?;intro j;rcases uep j c.length with b|b
  have:=e j c[j] (uaq b);rw[uaq b,<- this];simp;rw[ua4 b,ua4 (by simp;omega)]
 subst this;exact f u (ubh.2 i);cases h
def Ij(vs:List Value)(off:Nat):∀ (k:Nat) (cs:Array Value),
  ((vs.zipIdx k).foldl (λcs (x:Value×Nat)=>cs.setIfInBounds (off+x.2) x.1) cs).size=cs.size /\
  ∀ j,((vs.zipIdx k).foldl (λcs (x:Value×Nat)=>cs.setIfInBounds (off+x.2) x.1) cs)[j]?= if off+k<=j/\j<off+k+vs.length/\j<cs.size then vs[j-(off+k)]? else cs[j]? := by
 induction vs with
 |nil=>
  intro k cs;refine⟨rfl,λj=>?_⟩;simp only[List.zipIdx_nil,List.foldl_nil,udl];rw[ufw (by omega)]
 |cons v vs f=>
  intro k cs;obtain⟨c,d⟩:=f (k+1) (cs.setIfInBounds (off+k) v);simp;refine⟨by rw[c];simp,λj=>?_⟩;rw[d];simp;by_cases a:off+(k+1)<=j/\j<off+(k+1)+vs.length/\j<cs.size;rw[ufv a,ufv (by omega)];rw[show j-(off+k)=(j-(off+(k+1)))+1 from by omega,List.getElem?_cons_succ];rw[ufw a];by_cases e:j=off+k;subst e;by_cases b:off+k<cs.size;rw[ufv (by omega)];simp[b];rw[ufw (by omega)];simp[b];rw[uaa (by omega),ufw (by omega)]
def Dt{cs cs' new:List AC}{g':Nat->Value->Prop}(h:nw cs off new=U cs')(i:aN P w F R cs g)(l:aN P w F R new (λj u=>g' (off+j) u))(k:∀ j u,(j<off\/off+new.length<=j)->g j u->g' j u):cs'.length=cs.length/\aN P w F R cs' g':=by
 unfold nw at h;split at h;rename_i m;cases h;refine⟨by simp;omega,ki _ λj c a=>?_⟩;rcases uep j off with e|e
 rw[uaj (by simp;omega),uaj (by simp;omega),ub2,ufv e]at a;obtain⟨u,b,d⟩:=i.at_ a;exact⟨u,k j u (.inl e) b,d⟩;rcases uep j (off+new.length)with f|f
 rw[uaj (by simp;omega),uae (by simp;omega)]at a;simp at a;rw[show j-min off cs.length=j-off from by omega]at a;obtain⟨u,b,d⟩:=l.at_ a;rw[show off+(j-off)=j from by omega]at b;exact⟨u,b,d⟩;rw[uae (by simp;omega),ub1]at a;rw[show off+new.length+(j-(cs.take off++new).length)=j from by simp;omega]at a;obtain⟨u,b,d⟩:=i.at_ a;exact⟨u,k j u (.inr f) b,d⟩;cases h
def Qs{s:Nat->Option (Nat×Nat)}:{b:List (Nat×AV)} -> {ps:List (Nat×Value)} -> {cs cs':List AC} -> {arr:Array Value}->xA s cs b=U cs'->ps.length=b.length ->
  (∀ (k i:Nat) (x:AV) (v:Nat×Value),b[k]?= U (i,x)->ps[k]?= U v->v.1=i/\aE P w F R x v.2)->arr.size=cs.length->aN P w F R cs (λj u=>arr[j]?= U u) ->
  ∃ a,Instr.fill s arr ps=U a/\a.size=cs'.length/\aN P w F R cs' (λj u=>a[j]?= U u)
 |[],[],cs,cs',arr,h,_,_,l,f=>by
  simp only[xA,ucl]at h;subst h;exact⟨arr,rfl,l,f⟩
 |(i,x)::r,(G,v)::ps,cs,cs',arr,h,d,p,l,f=>by
  obtain⟨rfl,q⟩:=p 0 i x (G,v) rfl rfl;simp only at q;simp only[xA]at h;split at h;rename_i off n new g e;split at h;rename_i O;split at h;rename_i t c;obtain⟨M,y,_⟩:=o6 e q;have N:off+new.length<=cs.length:=by
   unfold nw at c;split at c;assumption;cases c
  obtain⟨z,o⟩:=Ij v.cells.toList off 0 arr;have Q:v.cells.zipIdx.foldl (λcs (x:Value×Nat)=>cs.setIfInBounds (off+x.2) x.1) arr=(v.cells.toList.zipIdx 0).foldl (λcs (x:Value×Nat)=>cs.setIfInBounds (off+x.2) x.1) arr:=by
   rw[<- Array.foldl_toList,Array.toList_zipIdx]
  obtain⟨A,B⟩:=Dt (g':=λj u=>((v.cells.toList.zipIdx 0).foldl (λcs (x:Value×Nat)=>cs.setIfInBounds (off+x.2) x.1) arr)[j]?= U u) c f
   (y.turn λj u E m=>by
    simp only[o];rw[ufv (by simp;omega)];simpa using m)
   (λj u E m=>by
    simp only[o];rw[ufw (by simp;omega)];exact m)
  obtain⟨a,H,K,L⟩:=Qs h (by simpa using d) (λk i x v C D=>p (k+1) i x v (by simpa using C) (by simpa using D)) (by rw[z,l,A]) B;refine⟨a,?_,K,L⟩;simp only[Instr.fill,g];rw[ufw (by simp;omega)];rw[<- H];congr 1;cases h;cases h;cases h
 |[],_::_,_,_,_,_,d,_,_,_=>by simp at d
 |_::_,[],_,_,_,_,d,_,_,_=>by simp at d
def qx9(a:List Field)(h:∀ f∈a,(P.info? f.type).isSome=Z):
  (a.mapM (m:=Sem) λf=>(do pure (f.offset,<- sizeOf f.type):Sem (Nat×Nat))).run P w=.ok (a.map λf=>(f.offset,P.cellsOf f.type)) w:=by
 induction a with
 |nil=>simp
 |cons f a d=>
  obtain⟨i,hi⟩:=uar.1 (h f (by simp));rw[List.mapM_cons];have b:=d (λg c=>h g (by simp[c]));rw[ues,ues,gw hi];simp only[ucm,ueu];rw[ues,b];simp
def qbq{b:List (Nat×AV)}{ps:Array (Nat×Value)}{x:AV}(h:FS P t b=U x)(G:ps.size=b.length)(K:∀ (k i:Nat) (x:AV) (v:Nat×Value),b[k]?= U (i,x)->ps[k]?= U v->v.1=i/\aE P w F R x v.2):
  ∃ u,(Instr.build t ps).run P w=.ok u w/\aE P w F R x u:=by
 unfold FS at h;split at h;rename_i z O r a;split at h;rename_i cs n;split at h;rename_i cs' d;cases h;cases hi:P.info? t with
 |none=>simp[hi]at r
 |some Q=>
  simp only[hi,uda]at r;have s:=tf (P:=P) (w:=w) (F:=F) (R:=R) z;obtain⟨A,B,_⟩:=o6 n s;have m:(zeroValue t).run P w=.ok z w:=by simp[zeroValue,typeInfo,hi,r]
  obtain⟨c,y,L,M⟩:=Qs (ps:=ps.toList) d (by simpa using G) (λk i x v C D=>K k i x v C (by simpa using D)) A B;refine⟨.agg c,?_,c,rfl,L,M⟩;unfold Uc at a;split at a;rename_i j g;split at a;rename_i l;cases a;have H:=qx9 (w:=w) j.toList (λf E=>uc8.1 l f E);have q:(j.mapM λ(f:Field)=>(do pure (f.offset,<- sizeOf f.type):Sem (Nat×Nat))).run P w=.ok (j.map λ(f:Field)=>(f.offset,P.cellsOf f.type)) w:=by
   rw[Array.mapM_eq_mapM_toList];rw[Sem.run_map,H];simp only[ucm];congr 1;rw[<- uc7];simp
  have:(λ(i:Nat)=>(j.map λ(f:Field)=>(f.offset,P.cellsOf f.type))[i]?)=(λi=>(j[i]?).map λf=>(f.offset,P.cellsOf f.type)):=by
   simp
  simp only[Instr.build,ues,m,ucm,ud5 g];rw[q];simp only[ucm,this,y];rfl;cases a;rename_i len e g;split at a;rename_i p;obtain⟨N,o⟩:=uar.1 p;cases a;simp[Instr.build,m,ud5 g,gw o,y];cases a;cases a
 cases h;cases h;cases h
end
section
variable {P:Program} {B:Nat} {o:Oper} {a:Act} {w w':World} {F F':Nat->Prop} {γ γ':Nat->Value} {M m:aT} {R:Nat->Value->Prop}
def Qp{s:TypeId}{f:Nat}{a:Field}(h:tW P s f=U a):∃ b,P.underlying s=U (.struct b)/\b[f]?= U a:=by
 unfold tW at h;split at h;exact⟨_,by assumption,h⟩;cases h
def qx8{a:Field}{i:TypeInfo}(hi:P.info? a.type=U i)(b:P.cellsOf a.type≠0):(fieldPlace ad a).run P w=.ok (ad.add a.offset) w:=by
 simp[fieldPlace,gw hi,b]
def KF{s:TypeId}{f:Nat}{a:Field}(h:tW P s f=U a)(hi:(P.info? a.type).isSome=Z)(e:P.cellsOf a.type≠0):
  (Instr.fieldAt s (.pointer (U ad)) f).run P w=.ok (.pointer (U (ad.add a.offset))) w:=by
 obtain⟨g,c,d⟩:=Qp h;obtain⟨i,b⟩:=uar.1 hi;simp[Instr.fieldAt,ud5 c,d,Instr.sureAddr,qx8 b e]
def qp(ad:Addr)(n:Nat):(ad.add n).block=ad.block:=by unfold Addr.add;split<;>rfl
def qkn{s:TypeId}{f:Nat}{x y:AV}(h:Ie P s x f=U y)(g:aE P w F R x v):
  ∃ u,(Instr.fieldAt s v f).run P w=.ok u w/\aE P w F R y u:=by
 unfold Ie at h;split at h;rename_i o e;split at h;rename_i a;split at h<;>try trivial
 rename_i id off;cases h;obtain⟨_,b,d,rfl⟩:=g;exact⟨_,KF e a.1 a.2,rfl,b,d,by rw[i8]⟩;rename_i cs;cases h;obtain⟨_,ad,rfl,k,l⟩:=g;exact⟨_,KF e a.1 a.2,rfl,_,rfl,by rw[qp];exact k,(l.drop_ _).turn λj u _ m=>by rw[m9];exact m⟩;rename_i id sz i off;cases h;obtain⟨A,n,c,d,rfl⟩:=g;exact⟨_,KF e a.1 a.2,A,n,c,d,by rw[m9,ueh]⟩;cases h;cases h
def quf{wide:Bool}{cs:List AC}{x:AV}{a:List Value}(h:CL wide cs=U x)(f:a.length=cs.length)(b:aN P w F R cs (λj u=>a[j]?= U u)):
  aE P w F R x (if wide then .agg a.toArray else a.headD undef):=by
 unfold CL at h;cases wide;simp only[ub3,ufs]at h |-;split at h;rename_i c;cases h;obtain⟨⟨u,g,d,e⟩,_⟩:=b;have:a.headD undef=u:=by cases a<;>simp_all
 rw[this];exact⟨d,e⟩;cases h;simp at h |-;subst h;exact⟨a.toArray,rfl,by simpa using f,by simpa using b⟩
def qko{s:TypeId}{f:Nat}{a:Field}{cs l:List AC}{x:AV}(o:tW P s f=U a)(hi:(P.info? a.type).isSome=Z/\(P.underlying a.type).isSome=Z)(p:ig cs a.offset (if cV P a.type then P.cellsOf a.type else 1)=U l)(r:CL (cV P a.type) l=U x)(q:aE P w F R (.agg cs) v):
  ∃ u,(Instr.field s v f).run P w=.ok u w/\aE P w F R x u:=by
 obtain⟨t,m,n⟩:=Qp o;obtain⟨i,b⟩:=uar.1 hi.1;obtain⟨d,c⟩:=uar.1 hi.2;obtain⟨arr,rfl,j,k⟩:=q;obtain⟨b1,y,e,g,h,_⟩:=y9 rfl j k p;refine⟨_,?_,quf r e g⟩;simp only[Instr.field,ues,ud5 m,ucm,n,asAgg,ueu,vP c b b1,h]
def R3{d:TypeInfo}{i:Int}(b:P.underlying t=U (.slice e))(a:P.info? e=U d)(h:0<=i/\i<n):
  (Instr.indexAt t (.slice (U ad) n c) (.int k i)).run P w=.ok (.pointer (U (ad.add (i.toNat*P.cellsOf e)))) w:=by
 simp[Instr.indexAt,ud5 b,asIntOf,h,gw a]
def Co{c:TypeInfo}{i:Int}(b:P.underlying t=U (.array n e))(a:P.info? e=U c)(h:0<=i/\i<n):
  (Instr.indexAt t (.pointer (U ad)) (.int k i)).run P w=.ok (.pointer (U (ad.add (i.toNat*P.cellsOf e)))) w:=by
 simp[Instr.indexAt,ud5 b,asIntOf,Instr.sureAddr,h,gw a]
def KU{tt:Ty}{l:List tt.den}{v:Value}{t e:TypeId}{n:TypeInfo}{k:IntKind}{i:Int}(f:aA w F (.sl tt) l (λ_ u=>u=v))(h:P.underlying t=U (.slice e))(d:P.info? e=U n)(g:tt.size=P.cellsOf e)(hi:0<=i/\i<l.length):∃ u,(Instr.indexAt t v (.int k i)).run P w=.ok u w/\aE P w F R (.c (.sptr (enc tt (l.getD i.toNat tt.dflt)))) u:=by
 obtain⟨ad,c,rfl,a,b⟩:=Vk (i:=i.toNat) f (by omega);exact⟨_,R3 h d hi,rfl,_,rfl,by rw[qp];exact a,b.turn λj u _ m=>by rw[<- g];exact m⟩
def TM{id sz:Nat}{f:TypeId}{o:Ob}{r:TypeInfo}{i:Int}(h:w.ownsRow B f sz (γ id) n xs)(g:M id=U o)(l:o ≠ .gone)(m:sz=P.cellsOf e)(p:P.underlying t=U (.slice e))(j:P.info? e=U r)(hi:0<=i/\i<n)(d:aE P w F (ap M γ) (.c (.own id)) v):
  ([]:List (Nat×Ob))=[]/\∃ u,(Instr.indexAt t v (.int k i)).run P w=.ok u w/\aE P w F (ap M γ) (.optr id sz i.toNat 0) u:=by
 have q:=ez g l d.2;subst q;obtain⟨_,⟨_,rfl⟩|⟨b,c,cur,a,_⟩⟩:=h;omega;refine⟨rfl,_,by rw[a];exact R3 p j hi,⟨b,0,V⟩,n,c,?_,by rw[<- m];rfl⟩;have:=d.2;simp only[bc]at this;rw[a]at this;exact this
def qnq{x:AV}{i:Int}{e:Eff}(D:MemOK P B w F γ M)(c:∀ i y,m i=U y->M i=U y)(h:IR P t x i m=U e)(d:av e.need)(p:aE P w F (ap M γ) x v):
  e.wr=[]/\∃ u,(Instr.indexAt t v (.int k i)).run P w=.ok u w/\aE P w F (ap M γ) e.v u:=by
 unfold IR at h;split at h;rename_i el o;split at h;rename_i q;obtain⟨O,f⟩:=uar.1 q;split at h<;>try trivial
 rename_i id;split at h<;>try trivial
 rename_i ety tt l a;split at h<;>try trivial
 rename_i g;cases h;obtain⟨Q,xs,r,_⟩:=UD (D.ob id _ (c _ _ a)) g.1;exact TM r (c _ _ a) (by simp) g.2 o f d p;rename_i ety tt l j a;split at h<;>try trivial
 rename_i g;cases h;obtain⟨_,_,xs,r⟩:=D.ob id _ (c _ _ a);exact TM r.own (c _ _ a) (by simp) g o f d p;rename_i tt l a;split at h<;>try trivial
 rename_i g;cases h;have N:=ez (c _ _ a) (by simp) p.2;subst N;exact⟨rfl,KU (D.ob id _ (c _ _ a)) o f g d⟩;rename_i tt l;split at h<;>try trivial
 rename_i g;cases h;exact⟨rfl,KU (by simpa only[bc]using p.2) o f g d⟩;rename_i tt l;split at h<;>try trivial
 rename_i g;cases h;obtain⟨_,A,_,H⟩:=p;exact⟨rfl,KU H o f g d⟩;cases h;rename_i n el o;split at h;rename_i q;obtain⟨O,f⟩:=uar.1 q;split at h;rename_i r;split at h<;>try trivial
 rename_i id off;cases h;obtain⟨_,b,s,rfl⟩:=p;exact⟨rfl,_,Co o f d,⟨b,off,V⟩,⟨b,s,rfl⟩,d.1,d.2,by rw[r,Nat.mul_one]⟩;rename_i cs;cases h;obtain⟨_,ad,rfl,z,C⟩:=p;exact⟨rfl,_,Co o f d,ad,⟨ad,rfl,z,C⟩,d.1,d.2,by rw[r,Nat.mul_one]⟩;split at h<;>try trivial
 rename_i G;split at h<;>try trivial
 rename_i K;have E:(0:Int)<=Int.ofNat G/\Int.ofNat G<(n:Int):=⟨ub4 _,Int.ofNat_lt.2 K⟩;split at h<;>try trivial
 rename_i id off;cases h;obtain⟨_,b,s,rfl⟩:=p;exact⟨rfl,_,Co o f E,rfl,b,s,by rw[i8];rfl⟩;rename_i cs;cases h;obtain⟨_,ad,rfl,z,C⟩:=p;exact⟨rfl,_,Co o f E,rfl,_,rfl,by rw[qp];exact z,(C.drop_ _).turn λj u _ L=>by rw[m9];exact L⟩;cases h;cases h
def KR{tt:Ty}{l:List tt.den}(b:aA w F (.sl tt) l (λ_ u=>u=v)):∃ A c,v=.slice A l.length c/\l.length<=maxLen:=by
 obtain⟨A,c,a,d,e,_⟩:=b;exact⟨A,c,a.symm,by omega⟩
def TN{id:Nat}{t:Ty}{l:List t.den}(i:MemOK P B w F γ M)(f:M id=U (.arr ety t l))(h:ety<dL):∃ A c,γ id=.slice A l.length c/\l.length<=maxLen:=by
 obtain⟨_,xs,⟨j,e⟩,_⟩:=UD (i.ob id _ f) h;rcases e with ⟨a,b⟩|⟨g,d,cur,a,_,_,b,k,_⟩
 exact⟨V,0,by rw[a,b],by omega⟩;exact⟨_,_,a,by omega⟩
def qqj{c:AC}{tt:Ty}{l:List tt.den}(g:MemOK P B w F γ M)(b:∀ i y,m i=U y->M i=U y)(h:rp m c=U ⟨tt,l⟩)(d:bc P w F (ap M γ) c v):
  ∃ A e,v=.slice A l.length e/\l.length<=maxLen:=by
 unfold rp at h;split at h<;>try trivial
 cases h;exact KR d;cases h;obtain⟨A,_,j⟩:=d;exact KR j;rename_i id;split at h<;>try trivial
 rename_i ety o n a;split at h<;>try trivial
 rename_i k;cases h;have f:=ez (b _ _ a) (by simp) d;subst f;exact TN g (b _ _ a) (Nat.lt_trans k (by decide));rename_i o n a;cases h;have f:=ez (b _ _ a) (by simp) d;subst f;exact KR (g.ob id _ (b _ _ a))
def qqi{x:AV}{e:Eff}(o:MemOK P B w F γ M)(b:∀ i y,m i=U y->M i=U y)(h:ro P t x m=U e)(j:aE P w F (ap M γ) x v)(ty:TypeId):
  e.wr=[]/\∃ u,(Builtin.len_ #[t] ty #[v]).run P w=.ok u w/\aE P w F (ap M γ) e.v u:=by
 have a:∀ n:Nat,n<=maxLen->inR .i64 (n:Int):=λn s=>by
  simp only[maxLen]at s;unfold inR;simp[IntKind.min,IntKind.max,IntKind.bits];omega
 unfold ro at h;split at h;rename_i el g;split at h<;>try trivial
 cases h;obtain⟨_,rfl⟩:=j;exact⟨rfl,_,by simp[Builtin.len_,ud5 g,goInt],rfl,rfl,a 0 (by simp)⟩;rename_i c _;split at h<;>try trivial
 rename_i tt l r;cases h;obtain⟨A,k,rfl,f⟩:=qqj o b r j.2;exact⟨rfl,_,by simp[Builtin.len_,ud5 g,goInt],rfl,rfl,a _ f⟩;split at h<;>try trivial
 split at h<;>try trivial
 rename_i id _ ety tt l d;split at h<;>try trivial
 rename_i q;cases h;have z:=ez (b _ _ d) (by simp) j.2;subst z;obtain⟨A,k,p,f⟩:=TN o (b _ _ d) q;exact⟨rfl,_,by simp[Builtin.len_,ud5 g,goInt,p],rfl,rfl,a _ f⟩;rename_i g;split at h<;>try trivial
 cases h;obtain⟨_,rfl,f⟩:=j;exact⟨rfl,_,by simp[Builtin.len_,ud5 g,goInt],rfl,rfl,a _ f⟩;cases h
def qnp{x:AV}{i:Int}{e:Eff}(h:IS P t x i=U e)(y:av e.need)(z:aE P w F R x v):
  e.wr=[]/\∃ u,(Instr.index t v (.int k i)).run P w=.ok u w/\aE P w F R e.v u:=by
 unfold IS at h;split at h;rename_i m;split at h<;>try trivial
 rename_i b;cases h;obtain⟨f,s⟩:=y;obtain⟨_,M⟩:=z;refine⟨rfl,?_⟩;have hi:i.toNat<b.size:=by omega
 have D:b[i.toNat]?= U (b[i.toNat]):=by simp
 have g:b.data.getD i.toNat 0=b[i.toNat]:=by
  exact dif_pos hi
 refine⟨.int .u8 b[i.toNat].toNat,?_,?_⟩;rw[M.1];simp[Instr.index,ud5 m,asIntOf,f,D];refine⟨rfl,?_⟩;simp only[bc,g];have H:=b[i.toNat].toNat_lt;have q:IntKind.u8.min=0:=by decide
 have r:IntKind.u8.max=255:=by decide
 simp;constructor<;>omega
 rename_i n el m;split at h<;>try trivial
 rename_i E;obtain⟨A,B,C,p⟩:=E;obtain⟨T,a⟩:=uar.1 A;obtain⟨d,g⟩:=uar.1 B;split at h<;>try trivial
 split at h<;>try trivial
 rename_i N _;split at h<;>try trivial
 rename_i o l;split at h<;>try trivial
 cases h;obtain⟨f,s⟩:=y;obtain⟨arr,rfl,q,r⟩:=z;have G:=Cu l;subst G;have hi:i.toNat<o.length:=by omega
 obtain⟨u,S,O,Q⟩:=r.at_ (j:=i.toNat) (c:=.int N (o.getD i.toNat 0)) (by simp[uaq hi]);refine⟨rfl,u,?_,O,Q⟩;have L:arr.size=o.length:=by simpa using q
 have K:=vP (w:=w) (cs:=arr) (off:=i.toNat) g a (by rw[p];simp;omega);simp only[Instr.index,ues,ud5 m,ucm,asIntOf,ueu,f,true_and,s,if_true,gw a,C,Nat.mul_one,K,p,ufs]
 simp_all
 cases h
end
section
variable {P:Program} {B:Nat} {o:Oper} {a:Act} {w w':World} {F F':Nat->Prop} {γ γ':Nat->Value} {M m:aT} {R:Nat->Value->Prop}
def ku:(t:Ty) -> {cs:List AC} -> {x:t.den} -> {r:List AC}->dec t cs=U (x,r)->cs.length=t.size+r.length
 |.int k,cs,x,r,h=>by
  simp only[dec]at h;unfold oB at h;split at h;split at h;simp at h;obtain⟨_,rfl⟩:=h;simp[Ty.size,ueq];cases h;cases h
 |.bool,cs,x,r,h=>by
  simp only[dec]at h;unfold oA at h;split at h;simp at h;obtain⟨_,rfl⟩:=h;simp[Ty.size,ueq];cases h
 |.str,cs,x,r,h=>by
  simp only[dec]at h;unfold oD at h;split at h;simp at h;obtain⟨_,rfl⟩:=h;simp[Ty.size,ueq];cases h
 |.sl e,cs,x,r,h=>by
  simp only[dec]at h;unfold oC at h;split at h;split at h;simp at h;obtain⟨_,rfl⟩:=h;simp[Ty.size,ueq];cases h;split at h;simp at h;obtain⟨_,rfl⟩:=h;simp[Ty.size,ueq];cases h;simp at h;obtain⟨_,rfl⟩:=h;simp[Ty.size,ueq];cases h
 |.unit,cs,x,r,h=>by
  obtain⟨_,rfl⟩:=h;simp[Ty.size]
 |.pair a b,cs,x,r,h=>by
  simp only[dec]at h;split at h;rename_i m j c;split at h;rename_i n l d;obtain⟨_,rfl⟩:=h;have g:=ku a c;have i:=ku b d;simp only[Ty.size];omega;cases h;cases h
 |.fm es,cs,x,r,h=>by
  simp only[dec]at h;unfold qO at h;split at h<;>try trivial
  split at h<;>try trivial
  obtain⟨_,rfl⟩:=h;simp[Ty.size,ueq]
 |.ic es t,cs,x,r,h=>by
  simp only[dec]at h;unfold qN at h;split at h<;>try trivial
  split at h<;>try trivial
  split at h<;>try trivial
  obtain⟨_,rfl⟩:=h;simp[Ty.size,ueq]
 |.fc f,cs,x,r,h=>by
  simp only[dec]at h;unfold qM at h;split at h<;>try trivial
  all_goals
   split at h<;>try trivial
   obtain⟨_,rfl⟩:=h;simp[Ty.size,ueq]
def aA.cell:(t:Ty) -> {x:t.den} -> {g:Nat->Value->Prop}->aA w F t x g->∀ j,j<t.size->∃ u,g j u/\u.oneCell'=Z
 |.int _,_,_,h,j,d=>by
  have:j=0:=by simp[Ty.size]at d;omega
  subst this;exact⟨_,h.1,rfl⟩
 |.bool,_,_,h,j,d=>by
  have:j=0:=by simp[Ty.size]at d;omega
  subst this;exact⟨_,h,rfl⟩
 |.str,_,_,h,j,d=>by
  have:j=0:=by simp[Ty.size]at d;omega
  subst this;exact⟨_,h.1,rfl⟩
 |.sl e,_,_,h,j,d=>by
  have:j=0:=by simp[Ty.size]at d;omega
  subst this;obtain⟨A,c,i,_⟩:=h;exact⟨_,i,rfl⟩
 |.unit,_,_,_,j,d=>by simp[Ty.size]at d
 |.pair a b,x,g,h,j,d=>by
  rcases uep j a.size with i|i
  exact aA.cell a h.1 j i;obtain⟨u,l,m⟩:=aA.cell b h.2 (j-a.size) (by simp only[Ty.size]at d;omega);rw[show a.size+(j-a.size)=j from by omega]at l;exact⟨u,l,m⟩
 |.fm es,_,_,h,j,d=>by
  have:j=0:=by simp[Ty.size]at d;omega
  subst this;obtain⟨r,arr,n,i,_⟩:=h;exact⟨_,i,rfl⟩
 |.ic es t,_,_,h,j,d=>by
  have:j=0:=by simp[Ty.size]at d;omega
  subst this;rcases h with ⟨ty,u,_,k,_⟩|⟨_,k⟩
  exact⟨_,k,rfl⟩;exact⟨_,k,rfl⟩
 |.fc f,_,_,h,j,d=>by
  have:j=0:=by simp[Ty.size]at d;omega
  subst this;obtain⟨u,i,k,_⟩:=h;exact⟨u,i,k⟩
def yQ{t:Ty}{l:List t.den}(h:bU w F t l xs)(f:xs.length=l.length*t.size):∀ u∈xs,u.oneCell'=true:=by
 intro u g;obtain⟨k,e,rfl⟩:=List.getElem_of_mem g;have a:0<t.size:=by
  rcases ub5 t.size with b|b
  rw[b]at f;omega;exact b
 have hi:k/t.size<l.length:=(Nat.div_lt_iff_lt_mul a).2 (by omega);have:=h (k/t.size) l[k/t.size] (uaq hi);obtain⟨v,c,d⟩:=aA.cell t this (k%t.size) (ufg _ a);rw[uev,Nat.div_add_mod,uaq e]at c;cases c;exact d
def fT{t:Ty}{x:t.den}(h:bu w F t x v):aE P w F R (dE t x) v:=by
 obtain⟨j,d,k⟩:=h;have b:=aA.enc (P:=P) (R:=R) t x k;unfold dE;cases e:t.wide
 ·simp;have m:v.cells = #[v]:=by
   cases v<;>first|rfl|(exact absurd (d.2 ⟨_,rfl⟩) (by simp[e]))
  have:∃ c,enc t x=[c]:=by cases t<;>first|(simp_all[Ty.wide,enc];done)|(rename_i f;cases f<;>simp_all[Ty.wide,enc])
  obtain⟨c,l⟩:=this;rw[l]at b |-;obtain⟨⟨u,a,g,i⟩,_⟩:=b;rw[m]at a;simp at a;subst a;exact⟨g,i⟩
 simp;obtain⟨arr,rfl⟩:=d.1 e;exact⟨arr,rfl,by rw[fl];exact j,b⟩
def P6:{ts:List Ty} -> {x:aa ts} -> {vs:List Value}->dM w F ts x vs->bj P w F R (Bm ts x) vs
 |[],_,_,h=>by cases h;trivial
 |_::_,_,_,⟨v,d,a,b,c⟩=>by subst a;exact⟨fT b,P6 c⟩
def bj.length:{xs:List AV} -> {vs:List Value}->bj P w F R xs vs->vs.length=xs.length
 |[],[],_=>rfl
 |_::_,_::_,h=>by simp[bj.length h.2]
 |[],_::_,h=>h.elim
 |_::_,[],h=>h.elim
def P5{ts:List Ty}{x:aa ts}(h:∃ vs:Array Value,v=.tuple vs/\dM w F ts x vs.toList):aE P w F R (.tup (Bm ts x)) v:=by
 obtain⟨vs,rfl,b⟩:=h;have a:=P6 (P:=P) (R:=R) b;exact⟨vs,rfl,by have:=a.length;simpa using this,by simpa using Uy a⟩
def tN:{ts:List Ty} -> {x:aa ts} -> {v:Value}->gT w F ts x v->aE P w F R (jg ts x) v
 |[],_,_,h=>P5 h
 |[_],_,_,h=>fT h
 |t::a::r,_,_,h=>P5 h
def zE(a:∀ b,F b->F' b)(d:∀ b,F b->w'.heap[b]?= w.heap[b]?)(c:∀ id v,R id v->R' id v):{xs:List AV} -> {vs:List Value}->bj P w F R xs vs->bj P w' F' R' xs vs
 |[],[],_=>trivial
 |_::_,_::_,h=>⟨aE.mono a d c _ h.1,zE a d c h.2⟩
 |[],_::_,h=>h.elim
 |_::_,[],h=>h.elim
def qP{t:Ty}{x:AV}{d:t.den}(h:lB t x=U d)(a:aE P w F R x v):bu w F t d v:=by
 unfold lB at h;split at h;rename_i c;split at h;cases h;rename_i f;split at h<;>try trivial
 rename_i y b;cases h;have i:v.cells = #[v]:=by
  have:=a.1;cases v<;>first|rfl|simp[Value.oneCell']at this
 obtain⟨e,_⟩:=aA.dec (g:=λj u=>v.cells[j]?= U u) t b ⟨⟨v,by simp[i],a.1,a.2⟩,uT⟩;refine⟨?_,⟨λk=>absurd k f,λ⟨cs,m⟩=>?_⟩,e⟩;rw[i];cases t<;>simp_all[Ty.size,Ty.wide]
 have:=a.1;rw[m]at this;simp[Value.oneCell']at this;rename_i cs;split at h;rename_i f;split at h<;>try trivial
 rename_i y b;cases h;obtain⟨arr,rfl,n,l⟩:=a;have o:cs.length=t.size:=by simpa using ku t b
 obtain⟨e,_⟩:=aA.dec t b l;exact⟨by show arr.size=_;omega,⟨λ_=>⟨arr,rfl⟩,λ_=>f⟩,e⟩;cases h;cases h
def lC:{ts:List Ty} -> {xs:List AV} -> {x:aa ts} -> {vs:List Value}->g9 ts xs=U x->bj P w F R xs vs->dM w F ts x vs
 |[],[],_,[],_,_=>rfl
 |t::r,a::s,x,v::vs,h,b=>by
  simp only[g9]at h;split at h;rename_i y z c d;cases h;exact⟨v,vs,rfl,qP c b.1,lC d b.2⟩;cases h
 |[],[],_,_::_,_,b=>b.elim
 |_::_,_::_,_,[],_,b=>b.elim
 |[],_::_,_,_,h,_=>by simp[g9]at h
 |_::_,[],_,_,h,_=>by simp[g9]at h
def gc(M:aT)(u v:List (Nat×Ob)):ax M (u++v)=ax (ax M u) v:=by
 induction u generalizing M with
 |nil=>rfl
 |cons x u a=>exact a _
def cX(m M:aT):Prop:=∀ i y,m i=U y->M i=U y \/ ∃ e t l,y=.arr e t l/\M i=U (.frz t l)
def cX.of(h:∀ i y,m i=U y->M i=U y):cX m M:=λi y a=>.inl (h i y a)
def zco{id:Nat}{o:Ob}(h:M id=U o):upd M id o=M:=by
 funext i;unfold upd;split;rename_i hi;subst hi;exact h.symm;rfl
def K6{t:Ty}{l:List t.den}(c:w.ownsRow B e t.size v l.length xs)(a:bU w F t l xs)(p:∀ b,v.ownBlock=U b->F b):aA w F (.sl t) l (λ_ u=>u=v):=by
 obtain⟨E,y|⟨g,d,cur,n,q,s,k,f,r,z⟩⟩:=c;obtain⟨o,m⟩:=y;refine⟨V,0,?_,by omega,by simp,λi x hi=>?_⟩;rw[o,m];rw[uab m]at hi;simp at hi;refine⟨U ⟨g,0,V⟩,d,n.symm,k,f,λi x hi=>⟨_,rfl,p g (by rw[n];rfl),?_⟩⟩;refine(a i x hi).mono (λb h=>h) (λ_ _=>rfl) λj u D A=>?_;rw[i8,tG s,<- A,<- z,ub2];have:i<l.length:=(uak.1 hi).1;have C:i*t.size+t.size<=l.length*t.size:=by
  rw[<- uew];exact ube _ this
 rw[ufv (by omega)];simp
def RwOK.rep{e:Nat}{t:Ty}{l:List t.den}(h:RwOK P B w F v e t l (λ_=>False) xs)(r:cj<=e){x:t.den}(hi:l[i]?= U x):
  aA w (λb=>F b\/bK w (.arr e t l) v b) t x (λj u=>xs[i*t.size+j]?= U u):=by
 refine LH (P:=P) (R:=λ_ _=>False) t x (ki _ λk c g=>?_);by_cases m:k=cB e;subst m;obtain⟨A,z,u,C,d,a,n,o,s,y⟩:=h.inn i x hi (λh=>h);rw[g]at d;cases d;refine⟨u,a,h.one u (ubg a),?_⟩;simp only[bc];exact K6 n (o.mono (λ_ h=>.inl h) (λ_ _=>rfl)) λb q=>.inr (.inr (.inl ⟨r,i,u,(uak.1 hi).1,λh=>h,rk h.own a,q⟩));obtain⟨u,f,p⟩:=h.cells i x k c hi g m;exact⟨u,f,h.one u (ubg f),bc.mono (λ_ h=>.inl h) (λ_ _=>rfl) (λ_ _ h=>h) c p⟩
def ql1{id:Nat}{t:Ty}{l:List t.den}(o:MemOK P B w F γ M)(d:∀ b,F b->b<w.heap.size)(g:M id=U (.arr e t l))(p:e<dL):
  ∃ F',Step B w F γ M w F' γ (upd M id (.frz t l))/\MemOK P B w F' γ (upd M id (.frz t l)):=by
 have a:=o.ob id _ g;refine⟨λb=>F b\/bK w (.arr e t l) (γ id) b,?_,?_⟩;refine⟨λb h=>.inl h,λ_ _=>rfl,nx g (by simp),λ_ _=>rfl,rfl,rfl,rfl,ue9 _,λb h=>?_,λb h=>?_⟩;rcases h with h|h
 exact d b h;exact(gZ a h).1;rcases h with h|h
 exact .inl h;exact .inr (gZ a h).2.2;refine o.change g (by simp) (λb h=>.inl h) (λ_ _=>rfl) (λb h=>h.elim) (λb _ m=>⟨rfl,λh=>h.resolve_right m⟩) ?_;simp only[fI];rcases a with ⟨_,xs,f,_,c,_⟩|⟨j,_,xs,n⟩|⟨k,_⟩
 exact K6 f (c.mono (λb h=>.inl h) (λ_ _=>rfl)) λb d=>.inr (.inl d);exact K6 n.own (λi x hi=>n.rep j hi) λb d=>.inr (.inl d);exact absurd p (Nat.not_lt.2 k)
def D5{c x:AC}{u:List (Nat×Ob)}(g:MemOK P B w F γ M)(n:∀ b,F b->b<w.heap.size)(j:cX m M)(h:me m c=U (x,u))(o:bc P w F (ap M γ) c v):
  ∃ F',Step B w F γ M w F' γ (ax M u)/\MemOK P B w F' γ (ax M u)/\cX m (ax M u)/\bc P w F' (ap (ax M u) γ) x v:=by
 unfold me at h;split at h;rename_i id;split at h<;>try trivial
 rename_i e t l f;split at h<;>try trivial
 rename_i q;cases h;rcases j id _ f with d|⟨z,C,A,p,d⟩
 obtain⟨F',s1,s⟩:=ql1 g n d q;have k:=ez d (by simp) o;subst k;refine⟨F',s1,s,λi y r=>?_,?_⟩;by_cases hi:i=id;subst hi;rw[f]at r;cases r;exact .inr ⟨e,t,l,rfl,iX _ _ _⟩;simp only[ax];rw[fa _ _ hi];exact j i y r;simp only[bc];exact s.ob id _ (iX _ _ _);cases p;have k:=ez d (by simp) o;subst k;have a:ax M [(id,Ob.frz t l)]=M:=zco d;refine⟨F,by rw[a];exact Step.refl n,by rw[a];exact g,by rw[a];exact j,?_⟩;exact g.ob id _ d;rename_i t l f;cases h;rcases j id _ f with d|⟨z,C,A,p,d⟩
 have k:=ez d (by simp) o;subst k;refine⟨F,Step.refl n,g,j,?_⟩;exact g.ob id _ d;cases p;cases h;exact⟨F,Step.refl n,g,j,o⟩
def yR:{cs xs:List AC} -> {u:List (Nat×Ob)} -> {M:aT} -> {F:Nat->Prop} -> {g:Nat->Value->Prop}->MemOK P B w F γ M->(∀ b,F b->b<w.heap.size)->cX m M->jr m cs=U (xs,u)->aN P w F (ap M γ) cs g ->
  ∃ F',Step B w F γ M w F' γ (ax M u)/\MemOK P B w F' γ (ax M u)/\cX m (ax M u)/\xs.length=cs.length/\aN P w F' (ap (ax M u) γ) xs g
 |[],xs,u,M,F,g,e,d,f,h,i=>by
  obtain⟨rfl,rfl⟩:=h;exact⟨F,Step.refl d,e,f,rfl,uT⟩
 |c::r,xs,u,M,F,g,e,d,f,h,i=>by
  simp only[jr]at h;split at h;rename_i x E y G o p;cases h;obtain⟨⟨v,j,k,l⟩,n⟩:=i;obtain⟨F1,s1,s,C,z⟩:=D5 e d f o l;obtain⟨F2,a,t,D,q,A⟩:=yR s s1.bd C p (s1.repCL n);rw[gc];exact⟨F2,s1.trans a,t,D,by simp[q],⟨⟨v,j,k,bc.mono a.hF a.hw a.hR _ z⟩,A⟩⟩;cases h
def UJ{x y:AV}{u:List (Nat×Ob)}(i:MemOK P B w F γ M)(g:∀ b,F b->b<w.heap.size)(j:cX m M)(h:pD m x=U (y,u))(c:aE P w F (ap M γ) x v):
  ∃ F',Step B w F γ M w F' γ (ax M u)/\MemOK P B w F' γ (ax M u)/\cX m (ax M u)/\aE P w F' (ap (ax M u) γ) y v:=by
 unfold pD at h;split at h;split at h<;>try trivial
 rename_i a;cases h;obtain⟨F1,s1,d,f,e⟩:=D5 i g j a c.2;exact⟨F1,s1,d,f,c.1,e⟩;split at h<;>try trivial
 rename_i a;cases h;obtain⟨arr,k,l,n⟩:=c;obtain⟨F1,s1,d,f,o,e⟩:=yR i g j a n;exact⟨F1,s1,d,f,arr,k,by rw[l,o],e⟩;cases h
def iy:{cs xs:List AV} -> {u:List (Nat×Ob)} -> {M:aT} -> {F:Nat->Prop} -> {vs:List Value}->MemOK P B w F γ M->(∀ b,F b->b<w.heap.size)->cX m M->dK m cs=U (xs,u)->bj P w F (ap M γ) cs vs ->
  ∃ F',Step B w F γ M w F' γ (ax M u)/\MemOK P B w F' γ (ax M u)/\cX m (ax M u)/\bj P w F' (ap (ax M u) γ) xs vs
 |[],xs,u,M,F,vs,e,d,f,h,a=>by
  obtain⟨rfl,rfl⟩:=h;exact⟨F,Step.refl d,e,f,a⟩
 |c::r,xs,u,M,F,[],e,d,f,h,a=>a.elim
 |c::r,xs,u,M,F,v::vs,e,d,f,h,a=>by
  simp only[dK]at h;split at h;rename_i x t y z j k;cases h;obtain⟨F1,s1,l,q,o⟩:=UJ e d f j a.1;have g:=zE s1.hF s1.hw s1.hR a.2;obtain⟨F2,i,n,s,p⟩:=iy l s1.bd q k g;rw[gc];exact⟨F2,s1.trans i,n,s,i.repA o,p⟩;cases h
def aA.flat:{t:Ty}->t.flat=Z -> {x:t.den} -> {g:Nat->Value->Prop}->aA w F t x g->aA w' F' t x g
 |.int _,_,_,_,h=>h
 |.bool,_,_,_,h=>h
 |.str,_,_,_,h=>h
 |.unit,_,_,_,h=>h
 |.sl _,c,_,_,_=>by simp[Ty.flat]at c
 |.fm _,c,_,_,_=>by simp[Ty.flat]at c
 |.ic _ t,c,_,_,h=>by
  simp only[Ty.flat]at c;rcases h with ⟨ty,u,d,e,f,i,j⟩|h
  exact .inl ⟨ty,u,d,e,f,i,j.flat c⟩;exact .inr h
 |.fc _,c,_,_,_=>by simp[Ty.flat]at c
 |.pair a b,c,_,_,h=>by
  simp only[Ty.flat,udc]at c;exact⟨aA.flat c.1 h.1,aA.flat c.2 h.2⟩
def bu.flat{t:Ty}(a:t.flat=Z){x:t.den}(h:bu w F t x v):bu w' F' t x v:=⟨h.1,h.2.1,h.2.2.flat a⟩
def dM.flat:{ts:List Ty}->ts.all Ty.flat=Z -> {x:aa ts} -> {vs:List Value}->dM w F ts x vs->dM w' F' ts x vs
 |[],_,_,_,h=>h
 |t::r,a,_,_,⟨v,b,c,d,e⟩=>by
  simp only[uej,udc]at a;exact⟨v,b,c,d.flat a.1,dM.flat a.2 e⟩
def gT.flat:{ts:List Ty}->ts.all Ty.flat=Z -> {x:aa ts} -> {v:Value}->gT w F ts x v->gT w' F' ts x v
 |[],a,_,_,⟨vs,b,c⟩=>⟨vs,b,dM.flat a c⟩
 |[t],a,_,_,h=>by
  simp only[uej,udc]at a;exact bu.flat a.1 h
 |t::d::r,a,_,_,⟨vs,b,c⟩=>⟨vs,b,dM.flat a c⟩
def bU.flat{t:Ty}(a:t.flat=Z){l:List t.den}(h:bU w F t l xs):bU w' F' t l xs:=λi x hi=>(h i x hi).flat a
end
section
variable {P:Program} {B:Nat} {o:Oper} {a:Act} {w w':World} {F F':Nat->Prop} {γ γ':Nat->Value} {M m:aT} {R:Nat->Value->Prop}
def zaq{e:Ob}{x:Obj}(a:∀ b,F b->b<w.heap.size)(f:B<=w.heap.size)(c:M d=V):Step B w F γ M (w.alloc x) F (cU γ d v) (upd M d e):=
 ⟨λ_ h=>h,λb h=>udb _ _ _ (a b h),yM c,λb h=>udb _ _ _ (by omega),rfl,rfl,rfl,by simp,λb h=>by have:=a b h;simp;omega,λb h=>.inl h⟩
def SZ{cs:List AC}(l:MemOK P B w F γ M)(f:∀ b,F b->b<w.heap.size)(e:B<=w.heap.size)(g:M d=V)(k:arr.size=cs.length)(m:aN P w F (ap M γ) cs (λj u=>arr[j]?= U u)):
  Step B w F γ M (w.alloc (.cells arr ty)) F (cU γ d (.pointer (U ⟨w.heap.size,0,V⟩))) (upd M d (.box ty cs)) /\
  MemOK P B (w.alloc (.cells arr ty)) F (cU γ d (.pointer (U ⟨w.heap.size,0,V⟩))) (upd M d (.box ty cs)):=by
 have c:Step B w F γ M (w.alloc (.cells arr ty)) F (cU γ d (.pointer (U ⟨w.heap.size,0,V⟩))) (upd M d (.box ty cs)):=zaq f e g;refine⟨c,l.new g c.hF c.hw (λb h=>?_) (λb h=>⟨udb _ _ _ h,λh=>h⟩) ?_⟩;obtain⟨a,i,rfl⟩:=h;cases i;exact ue9 _;exact⟨w.heap.size,arr,rfl,ud7 w _,λh=>by have:=f _ h;omega,e,k,c.repCL m⟩
def Ul{cs:List AC}:aE P w F (ap (upd M d (.box ty cs)) (cU γ d (.pointer (U ⟨b,0,V⟩)))) (.c (.ptr d 0)) (.pointer (U ⟨b,0,V⟩)):=by
 refine⟨rfl,b,?_,rfl⟩;unfold ap;rw[iX];exact(fy _ _ _).symm
def uN{t:Ty}{l:List t.den}(q:MemOK P B w F γ M)(j:∀ b,F b->b<w.heap.size)(r:B<=w.heap.size)(n:M d=V)(i:w.grownBy w' V)(c:w'.ownsRow B ety t.size v l.length xs)(f:∀ g,v.ownBlock=U g->w.heap.size<=g)(e:bU w' F t l xs)(o:ety<cj):
  Step B w F γ M w' F (cU γ d v) (upd M d (.arr ety t l))/\MemOK P B w' F (cU γ d v) (upd M d (.arr ety t l)):=by
 have a:=λb h=>i.block b h (by simp);have m:Step B w F γ M w' F (cU γ d v) (upd M d (.arr ety t l)):=
  ⟨λ_ h=>h,λb h=>a b (j b h),yM n,λb h=>a b (by omega),i.os,i.tape,i.output,i.size,λb h=>by have:=j b h;have:=i.size;omega,λb h=>.inl h⟩
 refine⟨m,q.new n m.hF m.hw (λb h=>f b ((lE o (nq c)).1 h)) (λb h=>⟨a b h,λh=>h⟩) ?_⟩;refine .inl ⟨o,xs,c,λg k p=>?_,e,yQ e c.1⟩;have:=j g p;have:=f g k;omega
def lP{t:Ty}{l:List t.den}(a:v.oneCell'=Z):aE P w F (ap (upd M d (.arr ety t l)) (cU γ d v)) (.c (.own d)) v:=by
 refine⟨a,?_⟩;simp only[bc];unfold ap;rw[iX];exact(fy _ _ _).symm
def MemOK.re(h:MemOK P B w F γ M)(S:Nat->Prop){n:aT}(x:∀ i,¬ S i->n i=M i)(p:∀ i,¬ S i->γ' i=γ i)(O:∀ b,F b->w'.heap[b]?= w.heap[b]?)(L:∀ i v,ap M γ i v->ap n γ' i v)(u:∀ b,b<w.heap.size->(∀ i o,S i->M i=U o->¬ bK w o (γ i) b)->w'.heap[b]?= w.heap[b]?)(E:∀ i o,S i->n i=U o->fI P B w' F (ap n γ') (γ' i) o)(A:∀ i o b,S i->n i=U o->bK w' o (γ' i) b->(∃ j o0,S j/\M j=U o0/\bK w o0 (γ j) b)\/w.heap.size<=b)(z:∀ i j a l b,S i->S j->i≠j->n i=U a->n j=U l->bK w' a (γ' i) b->¬ bK w' l (γ' j) b):MemOK P B w' F γ' n:=by
 have G:∀ i a,¬ S i->M i=U a->∀ b,bK w a (γ i) b->w'.heap[b]?= w.heap[b]? /\ ¬ F b:=λi a g hi b y=>by
  obtain⟨H,K,_⟩:=gZ (h.ob i a hi) y;exact⟨u b H (λj o m C N=>h.apart i j a o b (λe=>g (e ▸ m)) hi C y N),K⟩
 have r:∀ i a,¬ S i->M i=U a->∀ b,bK w' a (γ i) b->bK w a (γ i) b:=λi a g hi b=>tU (λb y=>(G i a g hi b y).1);have key:∀ i j a l b,S i->¬ S j->n i=U a->M j=U l->bK w' a (γ' i) b->¬ bK w' l (γ j) b:=λi j a l b hi m D s f d=>by
  have q:=r j l m s b d;rcases A i a b hi D f with ⟨k,o0,Q,R,T⟩|k
  exact h.apart k j o0 l b (λe=>m (e ▸ Q)) R s T q;have:=(gZ (h.ob j l s) q).1;omega
 refine⟨λi o hi=>?_,λi j a l b t hi m f d=>?_⟩;by_cases g:S i;exact E i o g hi;rw[x i g]at hi;rw[p i g];exact(h.ob i o hi).keep (λ_ h=>h) O L (G i o g hi);by_cases g:S i;by_cases c:S j;exact z i j a l b g c t hi m f d;rw[x j c]at m;rw[p j c]at d;exact key i j a l b g c hi m f d;rw[x i g]at hi;rw[p i g]at f;by_cases c:S j;exact key j i l a b c g m hi d f;rw[x j c]at m;rw[p j c]at d;exact h.apart i j a l b t hi m (r i a g hi b f) (r j l c m b d)
def MemOK.moved(h:MemOK P B w F γ M){id:Nat}{o0 o:Ob}(c:M id=U o0)(t:M d=V)(C:∀ b,F b->w'.heap[b]?= w.heap[b]?)(r:∀ b,bK w' o v b->bK w o0 (γ id) b\/w.heap.size<=b)(m:∀ b,b<w.heap.size->¬ bK w o0 (γ id) b->w'.heap[b]?= w.heap[b]?)(s:fI P B w' F (ap (upd (upd M id .gone) d o) (cU γ d v)) v o):MemOK P B w' F (cU γ d v) (upd (upd M id .gone) d o):=by
 have l:d≠id:=by rintro rfl;rw[t]at c;cases c
 have n:∀ a,upd (upd M id .gone) d o id=U a->a=.gone:=λa hi=>by
  rw[fa _ _ l.symm,iX]at hi;exact(ud3 hi).symm
 have g:∀ a,upd (upd M id .gone) d o d=U a->a=o:=λa hi=>by
  rw[iX]at hi;exact(ud3 hi).symm
 refine h.re (λi=>i=id\/i=d) (λi hi=>?_) (λi hi=>eC _ _ (λe=>hi (.inr e))) C (λi u A=>yM (by rw[fa _ _ l];exact t) i u (nx c (λ_=>rfl) i u A))
  (λb f z=>m b f (z id o0 (.inl rfl) c)) ?_ ?_ ?_
 rw[fa _ _ (λe=>hi (.inr e)),fa _ _ (λe=>hi (.inl e))];rintro i a (rfl|rfl) hi;obtain rfl:=n a hi;trivial;obtain rfl:=g a hi;rw[fy];exact s;rintro i a b (rfl|rfl) hi f;obtain rfl:=n a hi;exact f.elim;obtain rfl:=g a hi;rw[fy]at f;exact(r b f).imp (λx=>⟨id,o0,.inl rfl,c,x⟩) (λh=>h);rintro i j a D b (rfl|rfl) (rfl|rfl) k hi y p q;exact k rfl;obtain rfl:=n a hi;exact p;obtain rfl:=n D y;exact q;exact k rfl
def CJ{id:Nat}{j:TypeId}{t E:Ty}{l:List t.den}{L:List E.den}(A:MemOK P B w F γ M)(p:∀ b,F b->b<w.heap.size)(Q:B<=w.heap.size)(o:M id=U (.arr j E L))(r:M d=V)(m:w.grownBy w' (γ id).ownBlock)(e:w'.ownsRow B ety t.size v l.length xs)(n:v.ownBlock=(γ id).ownBlock\/v.ownBlock=U w.heap.size\/v.ownBlock=V)(f:bU w' F t l xs)(s:j<cj)(k:ety<cj):
  Step B w F γ M w' F (cU γ d v) (upd (upd M id .gone) d (.arr ety t l))/\MemOK P B w' F (cU γ d v) (upd (upd M id .gone) d (.arr ety t l)):=by
 have y:d≠id:=by rintro rfl;rw[r]at o;cases o
 obtain⟨O,N,D,_⟩:=gg.of (A.ob id _ o) s;have x:∀ b,F b->U b≠(γ id).ownBlock:=λb q k=>D b k.symm q;have C:Step B w F γ M w' F (cU γ d v) (upd (upd M id .gone) d (.arr ety t l)):=
  ⟨λ_ h=>h,λb h=>m.block b (p b h) (x b h),
   λi u K=>yM (by rw[fa _ _ y];exact r) i u (nx o (λ_=>rfl) i u K),
   λb h=>m.block b (by omega) (λk=>by have:=(N.lt b k.symm).1;omega),m.os,m.tape,m.output,m.size,λb h=>by have:=p b h;have:=m.size;omega,λb h=>.inl h⟩
 refine⟨C,A.moved o r C.hw (λb h=>?_) (λb G H=>m.block b G (λk=>H (.inl k.symm))) ?_⟩;replace h:=(lE k (nq e)).1 h;refine(λh=>h.imp (.inl:(γ id).ownBlock=U b->_) (λh=>h):_\/_->_) ?_;rcases n with c|c|c
 rw[c]at h;exact .inl h;rw[c]at h;simp at h;exact .inr (by omega);rw[c]at h;cases h;refine .inl ⟨k,xs,e,λg a z=>?_,f,yQ f e.1⟩;rcases n with c|c|c
 rw[c]at a;exact D g a z;rw[c]at a;simp at a;have:=p g z;omega;rw[c]at a;cases a
end
end Go.Ab
