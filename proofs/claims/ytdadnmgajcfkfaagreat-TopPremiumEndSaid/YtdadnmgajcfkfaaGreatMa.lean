/-
  Parts of the proof, one behind the other.
-/
import Derived.Calls
import Derived.Below
import Derived.Laws.AppendOwn
import Derived.OwnWalk
import Derived.Maps.AppendAt
import Derived.Deep.Draws
import Derived.Deep.MidRow
import Derived.Laws.StructEq
import Derived.Laws.MakeOwn
set_option linter.all false
set_option maxRecDepth 100000
set_option maxHeartbeats 4000000
noncomputable section
abbrev uaa:=@Array.getElem?_setIfInBounds_ne
abbrev uab:=@List.eq_nil_of_length_eq_zero
abbrev uac:=@Array.getD_eq_getD_getElem?
abbrev uad:=@Array.getElem?_append_right
abbrev uae:=@List.getElem?_append_right
abbrev uaf:=@Array.getElem?_eq_some_iff
abbrev uag:=@Int.fdiv_eq_ediv_of_nonneg
abbrev uah:=@List.getD_eq_getElem?_getD
abbrev uai:=@Array.getElem?_append_left
abbrev uaj:=@List.getElem?_append_left
abbrev uak:=@List.getElem?_eq_some_iff
abbrev ual:=@List.drop_eq_getElem_cons
abbrev uam:=@Array.getElem?_eq_getElem
abbrev uan:=@List.pairwise_iff_getElem
abbrev uao:=@List.getLast?_eq_getElem?
abbrev uap:=@List.mem_or_eq_of_mem_set
abbrev uaq:=@List.getElem?_eq_getElem
abbrev uar:=@Option.isSome_iff_exists
abbrev uas:=@Array.getElem?_replicate
abbrev uat:=@List.take_append_getElem
abbrev uau:=@List.getElem?_cons_zero
abbrev uav:=@decide_eq_false_iff_not
abbrev uaw:=@List.pairwise_lt_range'
abbrev uax:=@Nat.add_sub_cancel_left
abbrev uay:=@List.pairwise_singleton
abbrev uaz:=@List.length_eq_zero_iff
abbrev ua0:=@List.getElem?_set_self
abbrev ua1:=@Array.getElem?_eq_none
abbrev ua2:=@List.drop_eq_nil_of_le
abbrev ua3:=@List.take_of_length_le
abbrev ua4:=@List.getElem?_eq_none
abbrev ua5:=@Array.getElem?_toList
abbrev ua6:=@List.mem_append_right
abbrev ua7:=@List.length_singleton
abbrev ua8:=@List.mem_of_mem_erase
abbrev ua9:=@List.mem_iff_getElem?
abbrev uba:=@List.take_append_drop
abbrev ubb:=@Bool.cond_false_right
abbrev ubc:=@List.length_replicate
abbrev ubd:=@Go.World.cell?_of_block
abbrev ube:=@Nat.mul_le_mul_right
abbrev ubf:=@Array.toArray_toList
abbrev ubg:=@List.mem_of_getElem?
abbrev ubh:=@Array.mem_toList_iff
abbrev ubi:=@List.getElem?_set_ne
abbrev ubj:=@List.mem_cons_of_mem
abbrev ubk:=@List.mem_append_left
abbrev ubl:=@List.erase_cons_head
abbrev ubm:=@List.range_eq_range'
abbrev ubn:=@Array.replicate_succ
abbrev ubo:=@Array.replicate_zero
abbrev ubp:=@List.pairwise_append
abbrev ubq:=@List.mem_of_mem_take
abbrev ubr:=@List.mem_of_mem_drop
abbrev ubs:=@List.getElem?_of_mem
abbrev ubt:=@Go.Value.pointer.injEq
abbrev ubu:=@Array.length_toList
abbrev ubv:=@Go.World.grownBy_alloc
abbrev ubw:=@beq_eq_false_iff_ne
abbrev ubx:=@List.append_toArray
abbrev uby:=@Bool.cond_true_left
abbrev ubz:=@List.length_pos_iff
abbrev ub0:=@Nat.add_sub_cancel
abbrev ub1:=@List.getElem?_drop
abbrev ub2:=@List.getElem?_take
abbrev ub3:=@Bool.false_eq_true
abbrev ub4:=@Int.natCast_nonneg
abbrev ub5:=@Nat.eq_zero_or_pos
abbrev ub6:=@List.length_append
abbrev ub7:=@Go.grownCap_le_maxLen
abbrev ub8:=@Go.World.grownBy.refl
abbrev ub9:=@List.mem_filterMap
abbrev uca:=@List.pairwise_cons
abbrev ucb:=@Nat.lt_of_lt_of_le
abbrev ucc:=@List.mem_cons_self
abbrev ucd:=@Nat.lt_of_le_of_lt
abbrev uce:=@Go.calls_of_wp_defers
abbrev ucf:=@List.mem_singleton
abbrev ucg:=@Go.World.size_setCell
abbrev uch:=@of_decide_eq_false
abbrev uci:=@Array.ext_getElem?
abbrev ucj:=@List.filter_append
abbrev uck:=@Go.heap_setCell_other
abbrev ucl:=@Option.some.injEq
abbrev ucm:=@Go.Result.andThen_ok
abbrev ucn:=@Go.run_equalIn_bool'
abbrev uco:=@List.getElem?_map
abbrev ucp:=@Array.size_append
abbrev ucq:=@List.size_toArray
abbrev ucr:=@List.append_assoc
abbrev ucs:=@Go.World.ownsRow_nil
abbrev uct:=@Nat.lt_trichotomy
abbrev ucu:=@decide_eq_true_eq
abbrev ucv:=@Bool.not_eq_true'
abbrev ucw:=@List.mem_range'_1
abbrev ucx:=@of_decide_eq_true
abbrev ucy:=@List.push_toArray
abbrev ucz:=@Bool.eq_false_iff
abbrev uc0:=@Int.toNat_natCast
abbrev uc1:=@Go.heap_setCell_same
abbrev uc2:=@Go.setCell_eq_setRow
abbrev uc3:=@Nat.le_succ_of_le
abbrev uc4:=@List.cons_append
abbrev uc5:=@List.length_take
abbrev uc6:=@List.length_drop
abbrev uc7:=@Array.toList_inj
abbrev uc8:=@List.all_eq_true
abbrev uc9:=@List.length_cons
abbrev uda:=@Option.bind_some
abbrev udb:=@Go.RowKit.Below.heap_alloc
abbrev udc:=@Bool.and_eq_true
abbrev udd:=@Option.getD_some
abbrev ude:=@List.range'_succ
abbrev udf:=@Go.IntKind.wrap_i64
abbrev udg:=@Go.World.size_alloc
abbrev udh:=@decide_eq_decide
abbrev udi:=@List.getElem_mem
abbrev udj:=@List.not_mem_nil
abbrev udk:=@Nat.succ_le_succ
abbrev udl:=@Int.ediv_nonneg
abbrev udm:=@List.length_nil
abbrev udn:=@List.nil_append
abbrev udo:=@List.all_append
abbrev udp:=@List.length_set
abbrev udq:=@Nat.min_eq_left
abbrev udr:=@List.cons.injEq
abbrev uds:=@List.append_nil
abbrev udt:=@List.mem_append
abbrev udu:=@Bool.or_eq_true
abbrev udv:=@Nat.zero_lt_one
abbrev udw:=@decide_eq_false
abbrev udx:=@List.map_append
abbrev udy:=@Bool.eq_iff_iff
abbrev udz:=@List.length_zip
abbrev ud0:=@List.take_left'
abbrev ud1:=@List.drop_left'
abbrev ud2:=@List.range_succ
abbrev ud3:=@List.length_map
abbrev ud4:=@Option.some.inj
abbrev ud5:=@ne_of_beq_false
abbrev ud6:=@Go.run_underlying
abbrev ud7:=@Go.eqGuard_at_int
abbrev ud8:=@Go.heap_alloc_new
abbrev ud9:=@List.take_take
abbrev uea:=@List.mem_range
abbrev ueb:=@decide_eq_true
abbrev uec:=@Int.mul_nonneg
abbrev ued:=@Bool.and_assoc
abbrev uee:=@Bool.and_false
abbrev uef:=@Nat.mul_le_mul
abbrev ueg:=@List.drop_zero
abbrev ueh:=@Prod.mk.injEq
abbrev uei:=@Nat.add_assoc
abbrev uej:=@List.mem_cons
abbrev uek:=@List.all_cons
abbrev uel:=@List.map_cons
abbrev uem:=@Bool.true_and
abbrev uen:=@Bool.and_true
abbrev ueo:=@Nat.mul_assoc
abbrev uep:=@Nat.le_trans
abbrev ueq:=@Nat.lt_or_ge
abbrev uer:=@Nat.add_comm
abbrev ues:=@Int.sub_zero
abbrev uet:=@Go.Sem.run_bind
abbrev ueu:=@Int.le_of_lt
abbrev uev:=@Go.Sem.run_pure
abbrev uew:=@Nat.mul_comm
abbrev uex:=@Nat.succ_mul
abbrev uey:=@Nat.zero_add
abbrev uez:=@Nat.add_zero
abbrev ue0:=@Go.setRow_other
abbrev ue1:=@Int.mul_comm
abbrev ue2:=@Int.lt_trans
abbrev ue3:=@Go.bodyPost_ret
abbrev ue4:=@Go.results_none
abbrev ue5:=@Int.le_trans
abbrev ue6:=@Int.add_zero
abbrev ue7:=@Nat.le_of_lt
abbrev ue8:=@List.mem_map
abbrev ue9:=@Go.Addr.add_lit
abbrev ufa:=@Go.bodyPost_end
abbrev ufb:=@Nat.le_refl
abbrev ufc:=@Int.le_refl
abbrev ufd:=@Nat.add_mul
abbrev ufe:=@Go.setRow_heap
abbrev uff:=@Go.calls_of_wp
abbrev ufg:=@Go.leaves_cons
abbrev ufh:=@Nat.zero_le
abbrev ufi:=@Nat.mod_lt
abbrev ufj:=@beq_iff_eq
abbrev ufk:=@Go.RowKit.Below.refl
abbrev ufl:=@Int.not_le
abbrev ufm:=@Int.not_lt
abbrev ufn:=@bne_iff_ne
abbrev ufo:=@Go.info_parts
abbrev ufp:=@Array.ext
abbrev ufq:=@Go.mem_ready
abbrev ufr:=@eq_of_beq
abbrev ufs:=@and_self
abbrev uft:=@if_false
abbrev ufu:=@congrArg
abbrev ufv:=@Prod.ext
abbrev ufw:=@if_pos
abbrev ufx:=@if_neg
abbrev I6:=Go.IntKind.i64
abbrev U6:=Go.IntKind.u64
theorem uT:True:=⟨⟩
open Option renaming some->U,none->V
open Bool renaming true->Z,false->Y
open Decidable renaming decide->J
open List renaming replicate->Lrp
open BitVec renaming ofInt->Bvo
open Go Go.RowKit
variable {T α σ ρ β:Type} {P:Program} {ad:Addr} {arr cs cur:Array Value} {f:FuncId} {x a y day:Int} {k:IntKind} {l:List Int} {xs vs news:List Value} {off i n b c d B m len:Nat} {F F' K:Nat->Prop} {R g R':Nat->Value->Prop} {o:Oper} {p:Prop} {e ety t ty el:TypeId} {v u vx:Value} {w w' W' W:World}
namespace Go.Ab
open Go Go.RowKit
inductive Ty where
 |int (k:IntKind)
 |bool
 |str
 |sl (e:Ty)
 |unit
 |pair (a b:Ty)
 |fm (es:List (Int×Nat))
 |ic (es:List (Int×Nat)) (t:Ty)
 |fc (f:Option Nat)
 deriving DecidableEq
@[reducible] def Ty.q:Ty->Type
 |.int _=>Int
 |.bool=>Bool
 |.str=>ByteArray
 |.sl e=>List e.q
 |.unit=>Unit
 |.pair a b=>a.q×b.q
 |.fm _=>Unit
 |.ic _ t=>Int×t.q
 |.fc _=>Unit
def Ty.size:Ty->Nat
 |.unit=>0
 |.pair a b=>a.size+b.size
 |_=>1
def Ty.wide:Ty->Bool
 |.unit | .pair _ _=>Z
 |_=>Y
def Ty.flat:Ty->Bool
 |.sl _=>Y
 |.fm _=>Y
 |.ic _ t=>t.flat
 |.fc _=>Y
 |.pair a b=>a.flat&&b.flat
 |_=>Z
def Ty.j:(t:Ty)->t.q
 |.int _=>(0:Int)
 |.bool=>Y
 |.str=>ByteArray.empty
 |.sl _=>[]
 |.unit=>()
 |.pair a b=>(a.j,b.j)
 |.fm _=>()
 |.ic _ t=>(0,t.j)
 |.fc _=>()
def dd(a:List (Int×Nat))(k:Int):Option Nat:=(a.find? (λx=>x.1==k)).map (·.2)
def inR(k:IntKind)(n:Int):Prop:=k.min<=n/\n<=k.max
def aG(w:World)(F:Nat->Prop):(t:Ty)->t.q->(Nat->Value->Prop)->Prop
 |.int k,n,g=>g 0 (.int k n)/\inR k n
 |.bool,b,g=>g 0 (.bool b)
 |.str,s,g=>g 0 (.string s)/\s.size<=maxLen
 |.sl e,l,g=>∃ A c,g 0 (.slice A l.length c)/\l.length<=c/\c<=maxLen /\
   ∀ i x,l[i]?= U x->∃ m,A=U m/\F m.block/\aG w F e x (λj u=>w.cell? (m.add (i*e.size+j))=U u)
 |.unit,_,_=>True
 |.pair a b,x,g=>aG w F a x.1 g/\aG w F b x.2 (λj u=>g (a.size+j) u)
 |.fm h,_,g=>∃ r d p,g 0 (.map (U r))/\F r/\w.heap[r]?= U (.map d p)/\d.toList.map (λe=>(e.key,e.val))=h.map (λx=>(Value.int .i64 x.1,Value.func (.func x.2) #[] #[]))
 |.ic h t,x,g=>(∃ o u,dd h x.1=U o/\g 0 (.iface o u)/\u.cells.size=t.size/\(t.wide=Z↔∃ y,u=.agg y)/\aG w F t x.2 (λj v=>u.cells[j]?= U v))\/(dd h x.1=V/\g 0 .nilIface)
 |.fc f,_,g=>∃ u,g 0 u/\u.oneCell'=Z/\∀ k,f=U k->u=.func (.func k) #[] #[]
def Wf:(t:Ty)->t.q->Prop
 |.int k,n=>inR k n
 |.bool,_=>True
 |.str,s=>s.size<=maxLen
 |.sl e,l=>l.length<=maxLen/\∀ (i:Nat) (x:e.q),l[i]?= U x->Wf e x
 |.unit,_=>True
 |.pair a b,x=>Wf a x.1/\Wf b x.2
 |.fm _,_=>True
 |.ic _ _,_=>True
 |.fc _,_=>True
def aG.wf:{t:Ty} -> {x:t.q} -> {g:Nat->Value->Prop}->aG w F t x g->Wf t x
 |.int _,_,_,h=>h.2
 |.bool,_,_,_=>trivial
 |.str,_,_,h=>h.2
 |.sl _,_,_,h=>by obtain⟨A,c,_,a,b,d⟩:=h;exact⟨uep a b,λi x f=>by obtain⟨k,_,_,e⟩:=d i x f;exact aG.wf e⟩
 |.unit,_,_,_=>trivial
 |.pair _ _,_,_,h=>⟨aG.wf h.1,aG.wf h.2⟩
 |.fm _,_,_,_=>trivial
 |.ic _ _,_,_,_=>trivial
 |.fc _,_,_,_=>trivial
def aG.mono(n:∀ b,F b->F' b)(o:∀ b,F b->w'.heap[b]?= w.heap[b]?):
  {t:Ty} -> {x:t.q} -> {g z:Nat->Value->Prop}->(∀ j u,j<t.size->g j u->z j u)->aG w F t x g->aG w' F' t x z
 |.int _,_,_,_,d,h=>⟨d _ _ (by simp[Ty.size]) h.1,h.2⟩
 |.bool,_,_,_,d,h=>d _ _ (by simp[Ty.size]) h
 |.str,_,_,_,d,h=>⟨d _ _ (by simp[Ty.size]) h.1,h.2⟩
 |.sl e,_,_,_,d,h=>by
  obtain⟨A,c,D,l,k,m⟩:=h;refine⟨A,c,d _ _ (by simp[Ty.size]) D,l,k,λi x K=>?_⟩;obtain⟨s,G,B,p⟩:=m i x K;refine⟨s,G,n _ B,aG.mono n o (λj u _ H=>?_) p⟩;rw[<- H];refine ubd ?_;have:(s.add (i*e.size+j)).block=s.block:=by unfold Addr.add;split<;>rfl
  rw[this];exact o _ B
 |.unit,_,_,_,_,_=>trivial
 |.pair a b,_,_,_,d,h=>
  ⟨aG.mono n o (λj u L y=>d j u (by simp only[Ty.size];omega) y) h.1,
   aG.mono n o (λj u L y=>d _ u (by simp only[Ty.size];omega) y) h.2⟩
 |.fm _,_,_,_,d,h=>by obtain⟨r,v,C,l,k,m,p⟩:=h;exact⟨r,v,C,d _ _ (by simp[Ty.size]) l,n r k,(o r k).trans m,p⟩
 |.ic N t,_,_,_,d,h=>by
  rcases h with ⟨M,u,l,k,m,p,E⟩|⟨l,k⟩
  exact .inl ⟨M,u,l,d _ _ (by simp[Ty.size]) k,m,p,aG.mono n o (λ_ _ _ h=>h) E⟩;exact .inr ⟨l,d _ _ (by simp[Ty.size]) k⟩
 |.fc f,_,_,_,d,h=>by obtain⟨u,l,k,m⟩:=h;exact⟨u,d _ _ (by simp[Ty.size]) l,k,m⟩
def bJ(w:World)(F:Nat->Prop)(t:Ty)(x:t.q)(v:Value):Prop:=
 v.cells.size=t.size/\(t.wide=Z↔∃ a,v=.agg a)/\aG w F t x (λj u=>v.cells[j]?= U u)
def bJ.mono(a:∀ b,F b->F' b)(c:∀ b,F b->w'.heap[b]?= w.heap[b]?){t:Ty}{x:t.q}(h:bJ w F t x v):bJ w' F' t x v:=⟨h.1,h.2.1,h.2.2.mono a c (λ_ _ _ h=>h)⟩
@[reducible] def aa:List Ty->Type
 |[]=>Unit
 |t::r=>t.q×aa r
def fi(w:World)(F:Nat->Prop):(c:List Ty)->aa c->List Value->Prop
 |[],_,b=>b=[]
 |t::r,x,b=>∃ v a,b=v::a/\bJ w F t x.1 v/\fi w F r x.2 a
def fi.mono(d:∀ b,F b->F' b)(e:∀ b,F b->w'.heap[b]?= w.heap[b]?):{a:List Ty} -> {x:aa a} -> {f:List Value}->fi w F a x f->fi w' F' a x f
 |[],_,_,h=>h
 |_::_,_,_,⟨v,c,g,i,k⟩=>⟨v,c,g,i.mono d e,fi.mono d e k⟩
def gN:(a:List Ty)->aa a->Prop
 |[],_=>True
 |t::r,x=>Wf t x.1/\gN r x.2
def fi.wf:{a:List Ty} -> {x:aa a} -> {d:List Value}->fi w F a x d->gN a x
 |[],_,_,_=>trivial
 |_::_,_,_,⟨_,_,_,b,c⟩=>⟨b.2.2.wf,fi.wf c⟩
def jF(w:World)(F:Nat->Prop):(a:List Ty)->aa a->Value->Prop
 |[t],x,v=>bJ w F t x.1 v
 |a,x,v=>∃ b:Array Value,v=.tuple b/\fi w F a x b.toList
def iB(w:World)(F:Nat->Prop)(d:List Ty)(y:aa d)(e:Ending)(c:World):Prop:=
 ∃ v a,e=.returned v/\Below w.heap.size w c/\(∀ b,F b->a b)/\(∀ b,a b->(F b\/w.heap.size<=b)/\b<c.heap.size)/\jF c a d y v
def lL(P:Program)(w:World)(F:Nat->Prop)(h i:List Ty)(g:aa h->aa i)(v:Value):Prop:=
 ∃ f c,v=.func (.func f) #[] c/\(∀ a l,(callFunc f a).run P l=.ok (.enter f a) l)/\∀ (d:World) (e:Nat->Prop),(∀ b,F b->e b/\d.heap[b]?= w.heap[b]?)->(∀ b,e b->b<d.heap.size) ->
  ∀ m k,fi d e h m k->Calls P f (k.toArray++c) d (iB d e i (g m))
def lL.mono(e:∀ b,F b->F' b)(r:∀ b,F b->w'.heap[b]?= w.heap[b]?){ps d:List Ty}{g:aa ps->aa d}(h:lL P w F ps d g v):lL P w' F' ps d g v:=by obtain⟨f,c,l,n,m⟩:=h;exact⟨f,c,l,n,λt k i o u s p=>m t k (λb a=>⟨(i b (e b a)).1,(i b (e b a)).2.trans (r b a)⟩) o u s p⟩
def nH(P:Program)(w:World)(F:Nat->Prop)(h k:List Ty)(g:aa h->aa k)(D:aa h->Prop)(v:Value):Prop:=
 ∃ f c,v=.func (.func f) #[] c/\(∀ a m,(callFunc f a).run P m=.ok (.enter f a) m)/\∀ (d:World) (e:Nat->Prop),(∀ b,F b->e b/\d.heap[b]?= w.heap[b]?)->(∀ b,e b->b<d.heap.size) ->
  ∀ i l,D i->fi d e h i l->Calls P f (l.toArray++c) d (iB d e k (g i))
def nH.mono(e:∀ b,F b->F' b)(s:∀ b,F b->w'.heap[b]?= w.heap[b]?){ps d:List Ty}{g:aa ps->aa d}{D:aa ps->Prop}(h:nH P w F ps d g D v):nH P w' F' ps d g D v:=by obtain⟨f,c,l,n,m⟩:=h;exact⟨f,c,l,n,λu k i o x t p r=>m u k (λb a=>⟨(i b (e b a)).1,(i b (e b a)).2.trans (s b a)⟩) o x t p r⟩
inductive AC where
 |dead
 |int (k:IntKind) (n:Int)
 |bool (b:Bool)
 |str (s:ByteArray)
 |nil
 |sl (t:Ty) (l:List t.q)
 |slx (t:Ty) (l:List t.q)
 |own (id:Nat)
 |ptr (id off:Nat)
 |sptr (cs:List AC)
 |fn (f:FuncId) (caps:List AC)
 |fv (ps rs:List Ty) (g:aa ps->aa rs)
 |pv (ps rs:List Ty) (g:aa ps->aa rs) (D:aa ps->Prop)
 |mp (es:List (Int×Nat))
 |fs (es:List (Int×Nat)) (n:Int)
 |ic (es:List (Int×Nat)) (t:Ty) (x:Int×t.q)
 |ifp (ty:TypeId) (id:Nat)
 |fb (f:FuncId) (id:Nat)
inductive AV where
 |dead
 |c (a:AC)
 |agg (cs:List AC)
 |tup (vs:List AV)
 |optr (id sz i off:Nat)
 |aptr (base:AC) (n:Nat) (i:Int)
 |maybe (g:Tmp) (want:Bool) (v:AV)
inductive Ob where
 |gone
 |box (ty:TypeId) (cs:List AC)
 |fbox (cs:List AC)
 |arr (ety:TypeId) (t:Ty) (l:List t.q)
 |frz (t:Ty) (l:List t.q)
 |hole (ety:TypeId) (t:Ty) (l:List t.q) (i k:Nat)
def enc:(t:Ty)->t.q->List AC
 |.int k,n=>[.int k n]
 |.bool,b=>[.bool b]
 |.str,s=>[.str s]
 |.sl e,l=>[.sl e l]
 |.unit,_=>[]
 |.pair a b,x=>enc a x.1++enc b x.2
 |.fm c,_=>[.mp c]
 |.ic c t,x=>[.ic c t x]
 |.fc (U f),_=>[.fn f []]
 |.fc V,_=>[.dead]
def gV:{t:Ty}->(x:t.q)->(enc t x).length=t.size
 |.int _,_ | .bool,_ | .str,_ | .sl _,_ | .unit,_ | .fm _,_ | .ic _ _,_ | .fc (U _),_ | .fc V,_=>rfl
 |.pair a b,x=>by simp[enc,Ty.size,gV x.1,gV x.2]
def cY{t u:Ty}(h:t=u)(l:List t.q):List u.q:=h ▸ l
def rk(k:IntKind):List AC->Option (Int×List AC)
 |.int a n::r=>if k=a then U (n,r)else V
 |_=>V
def rj:List AC->Option (Bool×List AC)
 |.bool b::r=>U (b,r)
 |_=>V
def rm:List AC->Option (ByteArray×List AC)
 |.str s::r=>U (s,r)
 |_=>V
def rl(e:Ty):List AC->Option (List e.q×List AC)
 |.sl t l::r=>if h:t=e then U (cY h l,r)else V
 |.slx t l::r=>if h:t=e then U (cY h l,r)else V
 |.nil::r=>U ([],r)
 |_=>V
def tQ(b:List (Int×Nat)):List AC->Option (Unit×List AC)
 |.mp a::r=>if a=b then U ((),r)else V
 |_=>V
def qnt{t u:Ty}(h:t=u)(x:Int×t.q):Int×u.q:=h ▸ x
def tP(b:List (Int×Nat))(t:Ty):List AC->Option ((Int×t.q)×List AC)
 |.ic a c x::r=>if h:c=t then if a=b then U (qnt h x,r)else V else V
 |_=>V
def tO(f:Option Nat):List AC->Option (Unit×List AC)
 |.fn a []::r=>if f=U a then U ((),r)else V
 |.dead::r=>if f=V then U ((),r)else V
 |_=>V
def dec:(t:Ty)->List AC->Option (t.q×List AC)
 |.int k,c=>rk k c
 |.bool,c=>rj c
 |.str,c=>rm c
 |.sl e,c=>rl e c
 |.unit,c=>U ((),c)
 |.pair a b,c=>match dec a c with
  |some (x,h)=>match dec b h with
   |some (y,g)=>U ((x,y),g)
   |none=>V
  |none=>V
 |.fm d,c=>tQ d c
 |.ic d t,c=>tP d t c
 |.fc f,c=>tO f c
inductive PT where
 |d (t:Ty)
 |ptr (t:Ty)
 |fn (ps rs:List Ty)
 |pf (ps rs:List Ty)
 |pfn (ps rs:List Ty)
 |pk (f:Nat)
 deriving DecidableEq
@[reducible] def PT.q:PT->Type
 |.d t=>t.q
 |.ptr t=>t.q
 |.fn a b=>aa a->aa b
 |.pf a b=>(aa a->aa b)×(aa a->Prop)
 |.pfn a b=>aa a->aa b
 |.pk _=>Unit
@[reducible] def ap:List PT->Type
 |[]=>Unit
 |t::r=>t.q×ap r
def Jk(P:Program)(w:World)(F:Nat->Prop):(p:PT)->p.q->Value->Prop
 |.d t,x,v=>bJ w F t x v
 |.ptr t,x,v=>∃ a,v=.pointer (U a)/\F a.block/\aG w F t x (λj u=>w.cell? (a.add j)=U u)
 |.fn b c,g,v=>lL P w F b c g v
 |.pf b c,g,v=>nH P w F b c g.1 g.2 v
 |.pfn b c,g,v=>∃ a u,v=.pointer (U a)/\F a.block/\w.cell? (a.add 0)=U u/\lL P w F b c g u
 |.pk f,_,v=>∃ a,v=.pointer (U a)/\F a.block/\w.cell? (a.add 0)=U (.func (.func f) #[] #[])
def dm(P:Program)(w:World)(F:Nat->Prop):(c:List PT)->ap c->List Value->Prop
 |[],_,b=>b=[]
 |t::r,x,b=>∃ v a,b=v::a/\Jk P w F t x.1 v/\dm P w F r x.2 a
def az:List Prop->Prop
 |[]=>True
 |[p]=>p
 |p::r=>p/\az r
def lk{r:List Prop}:az (p::r)↔p/\az r:=by
 cases r with
 |nil=>exact⟨λh=>⟨h,uT⟩,λh=>h.1⟩
 |cons q r=>exact Iff.rfl
def lj{a b:List Prop}:az (a++b)↔az a/\az b:=by
 induction a with
 |nil=>exact⟨λh=>⟨uT,h⟩,λh=>h.2⟩
 |cons p a c=>rw[uc4,lk,lk,c,and_assoc]
structure Ct where
 ps:List PT
 rs:List Ty
 f:ap ps->aa rs
 ok:ap ps->List Prop
def ag(P:Program)(c:FuncId)(d:Ct):Prop:=
 (∀ a w,(callFunc c a).run P w=.ok (.enter c a) w) /\
 ∀ (w:World) (F:Nat->Prop) e g,(∀ b,F b->b<w.heap.size)->dm P w F d.ps e g->az (d.ok e)->Calls P c g.toArray w (iB w F d.rs (d.f e))
structure PV where
 ty:TypeId
 k:IntKind
 n:Int
def PV.val(p:PV):Value:=if p.ty<1000000 then .iface p.ty (.int p.k p.n)else .iface (p.ty-1000000) (.agg #[.int p.k p.n])
def qd9{p:PV}(h:p.ty<1000000):p.val=.iface p.ty (.int p.k p.n):=ufw h
def qd8{p:PV}{T:TypeId}(h:p.ty=T+1000000):p.val=.iface T (.agg #[.int p.k p.n]):=by
 unfold PV.val;have b:¬ p.ty<1000000:=by rw[h];exact Nat.not_lt.2 (Nat.le_add_left _ _)
 have a:p.ty-1000000=T:=by rw[h];exact ub0 T 1000000
 rw[ufx b,a]
structure Pc where
 ps:List PT
 rs:List Ty
 f:ap ps->aa rs
 bad:ap ps->Bool
 pv:ap ps->PV
 ok:ap ps->List Prop
def lM(P:Program)(d:FuncId)(c:Pc):Prop:=
 (∀ a w,(callFunc d a).run P w=.ok (.enter d a) w) /\
 ∀ (w:World) (F:Nat->Prop) g h,(∀ b,F b->b<w.heap.size)->dm P w F c.ps g h->az (c.ok g)->Calls P d h.toArray w λe i=>(c.bad g=Y/\iB w F c.rs (c.f g) e i)\/(c.bad g=Z/\e=.panicked [{ v:=(c.pv g).val,recovered:=Y }]/\Below w.heap.size w i)
structure St where
 n:Nat
 sl:Nat->AV
 mem:Nat->Option Ob
 gs:Nat->AV
def av(mem:Nat->Option Ob)(γ:Nat->Value)(id:Nat)(v:Value):Prop:=
 match mem id with
 |none=>False
 |some .gone=>True
 |some _=>v=γ id
def jS:Option (Int×Nat)->Value
 |some x=>.func (.func x.2) #[] #[]
 |none=>.nilFunc
section
variable (P:Program) (w:World) (F:Nat->Prop) (R:Nat->Value->Prop)
mutual
def bx:AC->Value->Prop
 |.dead,_=>True
 |.int k n,v=>v = .int k n/\inR k n
 |.bool b,v=>v = .bool b
 |.str s,v=>v = .string s/\s.size<=maxLen
 |.nil,v=>v = .slice none 0 0
 |.sl t l,v=>aG w F (.sl t) l (λ_ u=>u=v)
 |.slx t l,v=>∃ A,v = .slice A l.length l.length/\aG w F (.sl t) l (λ_ u=>u=v)
 |.own id,v=>R id v
 |.ptr id off,v=>∃ b,R id (.pointer (some ⟨b,0,none⟩))/\v = .pointer (some ⟨b,off,none⟩)
 |.sptr cs,v=>∃ ad,v = .pointer (some ad)/\F ad.block/\aS cs (λj u=>w.cell? (ad.add j)=some u)
 |.fn f caps,v=>∃ vs:Array Value,v = .func (.func f) #[] vs/\vs.size=caps.length/\aS caps (λj u=>vs[j]? = some u)
 |.fv ps rs g,v=>lL P w F ps rs g v
 |.pv ps rs g D,v=>nH P w F ps rs g D v
 |.mp es,v=>∃ r arr ck,v = .map (some r)/\F r/\w.heap[r]? = some (.map arr ck)/\arr.toList.map (λe=>(e.key,e.val))=es.map (λx=>(Value.int .i64 x.1,Value.func (.func x.2) #[] #[]))
 |.fs es n,v=>v=jS (es.find? (λx=>x.1==n))
 |.ic es t x,v=>aG w F (.ic es t) x (λ_ u=>u=v)
 |.ifp ty id,v=>∃ b,R id (.pointer (some ⟨b,0,none⟩))/\v = .iface ty (.pointer (some ⟨b,0,none⟩))
 |.fb f id,v=>∃ b,R id (.pointer (some ⟨b,0,none⟩))/\v = .func (.func f) #[.pointer (some ⟨b,0,none⟩)] #[]
def aS:List AC->(Nat->Value->Prop)->Prop
 |[],_=>True
 |c::r,g=>(∃ u,g 0 u/\u.oneCell'=true/\bx c u)/\aS r (λj u=>g (j+1) u)
end
mutual
def aK:AV->Value->Prop
 |.dead,_=>True
 |.c a,v=>v.oneCell'=true/\bx P w F R a v
 |.agg cs,v=>∃ arr:Array Value,v = .agg arr/\arr.size=cs.length/\aS P w F R cs (λj u=>arr[j]? = some u)
 |.tup vs,v=>∃ arr:Array Value,v = .tuple arr/\arr.size=vs.length/\nG vs (λj u=>arr[j]? = some u)
 |.optr id sz i off,v=>∃ A n c,R id (.slice (some A) n c)/\v = .pointer (some (A.add (i*sz+off)))
 |.aptr base n i,v=>∃ ad,bx P w F R base (.pointer (some ad))/\0<=i/\i<n/\v = .pointer (some (ad.add i.toNat))
 |.maybe _ _ _,_=>False
def nG:List AV->(Nat->Value->Prop)->Prop
 |[],_=>True
 |c::r,g=>(∃ u,g 0 u/\aK c u)/\nG r (λj u=>g (j+1) u)
end
end
section
variable {P:Program} {w w':World} {F F':Nat->Prop} {R R':Nat->Value->Prop}
mutual
def bx.mono (hF:∀ b,F b->F' b) (hw:∀ b,F b->w'.heap[b]? = w.heap[b]?) (hR:∀ id v,R id v->R' id v):(c:AC) -> {v:Value}->bx P w F R c v->bx P w' F' R' c v
 |.dead,_,_=>trivial
 |.int _ _,_,h=>h
 |.bool _,_,h=>h
 |.str _,_,h=>h
 |.nil,_,h=>h
 |.sl _ _,_,h=>by
  simp only[bx] at h |-;exact aG.mono (t:=.sl _) hF hw (λ_ _ _ h=>h) h
 |.slx _ _,_,⟨A,h1,h2⟩=>⟨A,h1,aG.mono (t:=.sl _) hF hw (λ_ _ _ h=>h) h2⟩
 |.own id,_,h=>hR id _ h
 |.ptr id off,_,⟨u,h1,h2⟩=>⟨u,hR _ _ h1,h2⟩
 |.sptr cs,_,⟨ad,h1,h2,h3⟩=>⟨ad,h1,hF _ h2,aS.mono hF hw hR cs (λj u hu=>by
   rw[<- hu];refine ubd ?_;have:(ad.add j).block=ad.block:=by unfold Addr.add; split<;>rfl
   rw[this];exact hw _ h2) h3⟩
 |.fn f caps,_,⟨vs,h1,h2,h3⟩=>⟨vs,h1,h2,aS.mono hF hw hR caps (λ_ _ h=>h) h3⟩
 |.fv _ _ _,_,h=>by
  simp only[bx] at h |-;exact lL.mono hF hw h
 |.pv _ _ _ _,_,h=>by
  simp only[bx] at h |-;exact nH.mono hF hw h
 |.mp _,_,h=>by
  obtain⟨r,arr,ck,h1,h2,h3,h4⟩:=h;exact⟨r,arr,ck,h1,hF r h2,(hw r h2).trans h3,h4⟩
 |.fs _ _,_,h=>h
 |.ic _ _ _,_,h=>by
  simp only[bx] at h |-;exact aG.mono (t:=.ic _ _) hF hw (λ_ _ _ h=>h) h
 |.ifp _ _,_,⟨b,h1,h2⟩=>⟨b,hR _ _ h1,h2⟩
 |.fb _ _,_,⟨b,h1,h2⟩=>⟨b,hR _ _ h1,h2⟩
def aS.mono (hF:∀ b,F b->F' b) (hw:∀ b,F b->w'.heap[b]? = w.heap[b]?) (hR:∀ id v,R id v->R' id v) :
  (cs:List AC) -> {g g':Nat->Value->Prop}->(∀ j u,g j u->g' j u)->aS P w F R cs g->aS P w' F' R' cs g'
 |[],_,_,_,_=>trivial
 |c::r,_,_,hg,⟨⟨u,h1,h2,h3⟩,h4⟩=>⟨⟨u,hg _ _ h1,h2,bx.mono hF hw hR c h3⟩,aS.mono hF hw hR r (λ_ _ h=>hg _ _ h) h4⟩
end
mutual
def aK.mono (hF:∀ b,F b->F' b) (hw:∀ b,F b->w'.heap[b]? = w.heap[b]?) (hR:∀ id v,R id v->R' id v):(c:AV) -> {v:Value}->aK P w F R c v->aK P w' F' R' c v
 |.dead,_,_=>trivial
 |.c a,_,h=>⟨h.1,bx.mono hF hw hR a h.2⟩
 |.agg cs,_,⟨arr,h1,h2,h3⟩=>⟨arr,h1,h2,aS.mono hF hw hR cs (λ_ _ h=>h) h3⟩
 |.tup vs,_,⟨arr,h1,h2,h3⟩=>⟨arr,h1,h2,nG.mono hF hw hR vs (λ_ _ h=>h) h3⟩
 |.optr _ _ _ _,_,⟨A,n,c,h1,h2⟩=>⟨A,n,c,hR _ _ h1,h2⟩
 |.aptr base _ _,_,⟨ad,h1,h2⟩=>⟨ad,bx.mono hF hw hR base h1,h2⟩
 |.maybe _ _ _,_,h=>h
def nG.mono (hF:∀ b,F b->F' b) (hw:∀ b,F b->w'.heap[b]? = w.heap[b]?) (hR:∀ id v,R id v->R' id v) :
  (cs:List AV) -> {g g':Nat->Value->Prop}->(∀ j u,g j u->g' j u)->nG P w F R cs g->nG P w' F' R' cs g'
 |[],_,_,_,_=>trivial
 |c::r,_,_,hg,⟨⟨u,h1,h3⟩,h4⟩=>⟨⟨u,hg _ _ h1,aK.mono hF hw hR c h3⟩,nG.mono hF hw hR r (λ_ _ h=>hg _ _ h) h4⟩
end
end
def aS.at_:{b:List AC} -> {g:Nat->Value->Prop}->aS P w F R b g ->
  ∀ {j:Nat} {c:AC},b[j]?= U c->∃ u,g j u/\u.oneCell'=Z/\bx P w F R c u
 |[],_,_,_,_,h=>by simp at h
 |_::_,_,h,0,_,a=>by simp at a;subst a;exact h.1
 |_::_,_,h,j+1,_,a=>aS.at_ h.2 (by simpa using a)
def mF:(a:List AC) -> {g:Nat->Value->Prop} ->
  (∀ (j:Nat) (c:AC),a[j]?= U c->∃ u,g j u/\u.oneCell'=Z/\bx P w F R c u)->aS P w F R a g
 |[],_,_=>trivial
 |c::r,_,h=>⟨h 0 c rfl,mF r (λj b d=>h (j+1) b (by simpa using d))⟩
def aS.append(a b:List AC)(i:aS P w F R a g)(k:aS P w F R b (λj u=>g (a.length+j) u)):aS P w F R (a++b) g:=by
 refine mF _ λj c d=>?_;rcases ueq j a.length with h|h
 rw[uaj h]at d;exact i.at_ d;rw[uae h]at d;obtain⟨u,e,f⟩:=k.at_ d;rw[show a.length+(j-a.length)=j from by omega]at e;exact⟨u,e,f⟩
def aG.enc:(t:Ty)->(x:t.q) -> {g:Nat->Value->Prop}->aG w F t x g->aS P w F R (Ab.enc t x) g
 |.int k,n,g,h=>⟨⟨_,h.1,rfl,rfl,h.2⟩,uT⟩
 |.bool,b,g,h=>⟨⟨_,h,rfl,rfl⟩,uT⟩
 |.str,b,g,h=>⟨⟨_,h.1,rfl,rfl,h.2⟩,uT⟩
 |.sl e,l,g,h=>by obtain⟨A,c,v,d,f,i⟩:=h;exact⟨⟨_,v,rfl,⟨A,c,rfl,d,f,i⟩⟩,uT⟩
 |.unit,_,_,_=>trivial
 |.pair a b,x,g,h=>aS.append _ _ (aG.enc a x.1 h.1) (by rw[gV];exact aG.enc b x.2 h.2)
 |.fm s,_,g,h=>by obtain⟨r,m,p,d,f,i,o⟩:=h;exact⟨⟨_,d,rfl,⟨r,m,p,rfl,f,i,o⟩⟩,uT⟩
 |.ic s t,x,g,h=>by
  rcases h with ⟨z,u,d,f,i,o,y⟩|⟨d,f⟩
  exact⟨⟨_,f,rfl,.inl ⟨z,u,d,rfl,i,o,y⟩⟩,uT⟩;exact⟨⟨_,f,rfl,.inr ⟨d,rfl⟩⟩,uT⟩
 |.fc (U k),_,g,h=>by obtain⟨u,d,f,i⟩:=h;exact⟨⟨u,d,f,#[],i k rfl,rfl,uT⟩,uT⟩
 |.fc V,_,g,h=>by obtain⟨u,d,f,_⟩:=h;exact⟨⟨u,d,f,uT⟩,uT⟩
def aS.split(a b:List AC)(h:aS P w F R (a++b) g):aS P w F R a g/\aS P w F R b (λj u=>g (a.length+j) u):=
 ⟨mF _ λj c d=>h.at_ (by rw[uaj (uak.1 d).1];exact d),
  mF _ λj c d=>h.at_ (j:=a.length+j) (by rw[uae (Nat.le_add_right _ _),uax];exact d)⟩
def Qf:(t:Ty)->(x:t.q) -> {g:Nat->Value->Prop}->aS P w F R (Ab.enc t x) g->aG w F t x g
 |.int k,n,g,⟨⟨u,d,_,i,m⟩,_⟩=>⟨i ▸ d,m⟩
 |.bool,b,g,⟨⟨u,d,_,i⟩,_⟩=>by obtain rfl:u=.bool b:=i;exact d
 |.str,b,g,⟨⟨u,d,_,i,m⟩,_⟩=>⟨i ▸ d,m⟩
 |.sl e,l,g,⟨⟨u,d,_,A,c,i,m⟩,_⟩=>⟨A,c,i ▸ d,m⟩
 |.unit,_,_,_=>trivial
 |.pair a b,x,g,h=>by obtain⟨d,o⟩:=aS.split _ _ h;rw[gV]at o;exact⟨Qf a x.1 d,Qf b x.2 o⟩
 |.fm D,_,g,⟨⟨u,d,_,r,y,C,i,m⟩,_⟩=>⟨r,y,C,i ▸ d,m⟩
 |.ic D t,x,g,⟨⟨u,d,_,i⟩,_⟩=>by
  rcases i with ⟨G,v,p,s,B⟩|⟨p,s⟩
  exact .inl ⟨G,v,p,s ▸ d,B⟩;exact .inr ⟨p,s ▸ d⟩
 |.fc (U k),_,g,⟨⟨u,d,o,H,i,m,_⟩,_⟩=>by have E:=Array.size_eq_zero_iff.mp m;subst E;exact⟨u,d,o,λf z=>by cases z;exact i⟩
 |.fc V,_,g,⟨⟨u,d,o,_⟩,_⟩=>⟨u,d,o,λf z=>nomatch z⟩
section
variable {P:Program} {w:World} {F:Nat->Prop} {R:Nat->Value->Prop}
def zku{a:List AC}{r:List AC}(h:rk k a=U (x,r))(f:aS P w F R a g):
  (g 0 (.int k x)/\inR k x)/\aS P w F R r (λj u=>g (1+j) u):=by
 unfold rk at h;split at h;split at h;rename_i e;subst e;cases h;obtain⟨⟨u,b,_,rfl,c⟩,d⟩:=f;exact⟨⟨b,c⟩,by simpa[uer]using d⟩;cases h;cases h
def zkt{a:List AC}{x:Bool}{r:List AC}(h:rj a=U (x,r))(d:aS P w F R a g):
  g 0 (.bool x)/\aS P w F R r (λj u=>g (1+j) u):=by
 unfold rj at h;split at h;cases h;obtain⟨⟨u,b,_,rfl⟩,c⟩:=d;exact⟨b,by simpa[uer]using c⟩;cases h
def zkw{a:List AC}{x:ByteArray}{r:List AC}(h:rm a=U (x,r))(e:aS P w F R a g):
  (g 0 (.string x)/\x.size<=maxLen)/\aS P w F R r (λj u=>g (1+j) u):=by
 unfold rm at h;split at h;cases h;obtain⟨⟨u,b,_,rfl,c⟩,d⟩:=e;exact⟨⟨b,c⟩,by simpa[uer]using d⟩;cases h
def zkv{e:Ty}{o:List AC}{x:List e.q}{r:List AC}(h:rl e o=U (x,r))(m:aS P w F R o g):
  aG w F (.sl e) x g/\aS P w F R r (λj u=>g (1+j) u):=by
 unfold rl at h;split at h;split at h;rename_i t l s n;subst n;cases h;obtain⟨⟨u,a,_,b⟩,d⟩:=m;refine⟨?_,by simpa[uer]using d⟩;obtain⟨A,c,f,k⟩:=b;subst f;exact⟨A,c,a,k⟩;cases h;split at h;rename_i t l s n;subst n;cases h;obtain⟨⟨u,a,_,b⟩,d⟩:=m;refine⟨?_,by simpa[uer]using d⟩;obtain⟨_,_,A,c,f,k⟩:=b;subst f;exact⟨A,c,a,k⟩;cases h;cases h;obtain⟨⟨u,a,_,b⟩,d⟩:=m;subst b;exact⟨⟨V,0,a,ufb _,by simp,λi x p=>by simp at p⟩,by simpa[uer]using d⟩;cases h
def aG.dec:(t:Ty) -> {cs:List AC} -> {x:t.q} -> {r:List AC} -> {g:Nat->Value->Prop}->Ab.dec t cs=U (x,r)->aS P w F R cs g ->
  aG w F t x g/\aS P w F R r (λj u=>g (t.size+j) u)
 |.int _,_,_,_,_,h,c=>zku h c
 |.bool,_,_,_,_,h,c=>zkt h c
 |.str,_,_,_,_,h,c=>zkw h c
 |.sl _,_,_,_,_,h,c=>zkv h c
 |.unit,_,_,_,_,h,c=>by obtain⟨_,rfl⟩:=h;exact⟨uT,by simpa[Ty.size]using c⟩
 |.pair a b,cs,x,r,g,h,c=>by simp only[Ab.dec]at h;split at h;rename_i Q M d;split at h;rename_i S N o;cases h;obtain⟨l,e⟩:=aG.dec a d c;obtain⟨m,n⟩:=aG.dec b o e;exact⟨⟨l,m⟩,by simpa[Ty.size,uei]using n⟩;cases h;cases h
 |.fm D,cs,x,r,g,h,c=>by
  simp only[Ab.dec]at h;unfold tQ at h;split at h<;>try trivial
  split at h<;>try trivial
  rename_i y;subst y;obtain⟨_,rfl⟩:=h;obtain⟨⟨u,d,_,p⟩,i⟩:=c;obtain⟨K,s,B,rfl,e,m,n⟩:=p;exact⟨⟨K,s,B,d,e,m,n⟩,by simpa[Ty.size,uer]using i⟩
 |.ic D t,cs,x,r,g,h,c=>by
  simp only[Ab.dec]at h;unfold tP at h;split at h<;>try trivial
  split at h<;>try trivial
  rename_i H;subst H;split at h<;>try trivial
  rename_i y;subst y;cases h;obtain⟨⟨u,d,_,p⟩,i⟩:=c;refine⟨?_,by simpa[Ty.size,uer]using i⟩;rcases p with ⟨L,v,l,e,m,n,C⟩|⟨l,e⟩
  exact .inl ⟨L,v,l,by rw[e];exact d,m,n,C⟩;exact .inr ⟨l,by rw[e];exact d⟩
 |.fc f,cs,x,r,g,h,c=>by
  simp only[Ab.dec]at h;unfold tO at h;split at h<;>try trivial
  split at h<;>try trivial
  rename_i z;subst z;obtain⟨_,rfl⟩:=h;obtain⟨⟨u,d,o,p⟩,i⟩:=c;obtain⟨O,rfl,E,_⟩:=p;have G:=Array.size_eq_zero_iff.mp E;subst G;exact⟨⟨_,d,o,λk A=>by cases A;rfl⟩,by simpa[Ty.size,uer]using i⟩;split at h<;>try trivial
  rename_i z;subst z;obtain⟨_,rfl⟩:=h;obtain⟨⟨u,d,o,_⟩,i⟩:=c;exact⟨⟨u,d,o,λk A=>nomatch A⟩,by simpa[Ty.size,uer]using i⟩
end
def cJ:Nat:=1099511627776
def fh:Nat:=1208925819614629174706176
def fJ(b c a:Nat):Nat:=b+cJ*(1+c+1024*a)
def vC(e:Nat):Nat:=e%cJ
def da(e:Nat):Nat:=(e/cJ-1)%1024
def mz(e:Nat):Nat:=(e/cJ-1)/1024
def Nr(w:World)(sz a:Nat)(v:Value)(i:Nat)(u:Value):Prop:=∃ A n c,v=.slice (U A) n c/\w.cell? (A.add (i*sz+a))=U u
def innB(w:World)(e sz n:Nat)(K:Nat->Prop)(v:Value)(b:Nat):Prop:=∃ i u,i<n/\¬ K i/\Nr w sz (da e) v i u/\u.ownBlock=U b
def cg(w:World):Ob->Value->Nat->Prop
 |.box _ _,v,b=>∃ a,v=.pointer (U a)/\a.block=b
 |.arr e t l,v,b=>v.ownBlock=U b\/(cJ<=e/\innB w e t.size l.length (λ_=>False) v b)\/v=.map (U b)
 |.hole e t l i _,v,b=>v.ownBlock=U b\/innB w e t.size l.length (· = i) v b
 |_,_,_=>False
section
variable (P:Program) (B:Nat) (w:World) (F:Nat->Prop) (R:Nat->Value->Prop)
def cy(t:Ty)(l:List t.q)(a:List Value):Prop:=
 ∀ i x,l[i]?= U x->aG w F t x (λj u=>a[i*t.size+j]?= U u)
structure RwOK (v:Value) (e:Nat) (t:Ty) (l:List t.q) (K:Nat->Prop) (xs:List Value):Prop where
 own:w.ownsRow B (vC e) t.size v l.length xs
 nf:∀ g,v.ownBlock=some g->¬ F g
 one:∀ u∈xs,u.oneCell'=true
 cells:∀ (i:Nat) x k c,l[i]?= some x->(enc t x)[k]?= some c->k≠da e->∃ u,xs[i*t.size+k]?= some u/\bx P w F (λ_ _=>False) c u
 inn:∀ (i:Nat) x,l[i]?= some x->¬ K i->∃ t' li u ys,(enc t x)[da e]?= some (.sl t' li)/\xs[i*t.size+da e]?= some u/\w.ownsRow B (mz e) t'.size u li.length ys/\cy w F t' li ys/\(∀ y∈ys,y.oneCell'=true) /\
  ∀ b,u.ownBlock=some b->v.ownBlock≠some b/\¬ F b
 disj:∀ i j ui uj b,i<l.length->j<l.length->¬ K i->¬ K j->i≠j->xs[i*t.size+da e]?= some ui->xs[j*t.size+da e]?= some uj->ui.ownBlock=some b->uj.ownBlock≠some b
def Aq(t:Ty)(l:List t.q)(v:Value):Prop:=
 ∃ b a c,v=.map (U b)/\w.heap[b]?= U (.map a c)/\¬ F b/\B<=b/\t.flat=Z/\a.size=l.length/\l.length<=maxLen /\
  ∀ (i:Nat) x,l[i]?= U x->∃ e,a[i]?= U e/\e.key.oneCell'=Z/\e.val.oneCell'=Z/\aG w (λ_=>False) t x (λj u=>[e.key,e.val][j]?= U u)
def iT(v:Value)(a:Nat)(t:Ty)(l:List t.q):Prop:=
 ∃ b,w.ownsRow B a t.size v l.length b/\(∀ g,v.ownBlock=U g->¬ F g)/\cy w F t l b/\(∀ u∈b,u.oneCell'=Z)
def iA(v:Value):Ob->Prop
 |.gone=>True
 |.box f d=>∃ b c,v=.pointer (U ⟨b,0,V⟩)/\w.heap[b]?= U (.cells c f (0,0))/\¬ F b/\B<=b/\c.size=d.length/\aS P w F R d (λj u=>c[j]?= U u)
 |.fbox d=>∃ b,v=.pointer (U ⟨b,0,V⟩)/\F b/\aS P w F R d (λj u=>w.cell? ⟨b,j,V⟩=U u)
 |.arr a t l=>(a<cJ/\iT B w F v a t l)\/(cJ<=a/\a<fh/\∃ e,RwOK P B w F v a t l (λ_=>False) e)\/(fh<=a/\Aq B w F t l v)
 |.frz t l=>aG w F (.sl t) l (λ_ u=>u=v)
 |.hole a t l i k=>cJ<=a/\a<fh/\∃ e,RwOK P B w F v a t l (· = i) e/\i<l.length/\∃ u,e[i*t.size+da a]?= U u/\R k u
end
structure MemOK (P:Program) (B:Nat) (w:World) (F:Nat->Prop) (γ:Nat->Value) (m:Nat->Option Ob):Prop where
 ob:∀ id o,m id=some o->iA P B w F (av m γ) (γ id) o
 apart:∀ i j oi oj b,i≠j->m i=some oi->m j=some oj->cg w oi (γ i) b->¬ cg w oj (γ j) b
structure Step (B:Nat) (w:World) (F:Nat->Prop) (γ:Nat->Value) (m:Nat->Option Ob) (w':World) (F':Nat->Prop) (γ':Nat->Value) (m':Nat->Option Ob):Prop where
 hF:∀ b,F b->F' b
 hw:∀ b,F b->w'.heap[b]?= w.heap[b]?
 hR:∀ id v,av m γ id v->av m' γ' id v
 old:∀ b,b<B->w'.heap[b]?= w.heap[b]?
 os:w'.os=w.os
 tape:w'.tape=w.tape
 output:w'.output=w.output
 size:w.heap.size<=w'.heap.size
 bd:∀ b,F' b->b<w'.heap.size
 new:∀ b,F' b->F b\/B<=b
section
variable {P:Program} {B:Nat} {w w' w'':World} {F F' F'':Nat->Prop} {γ γ' γ'':Nat->Value} {m m' m'':Nat->Option Ob}
def Step.refl(a:∀ b,F b->b<w.heap.size):Step B w F γ m w F γ m:=
 ⟨λ_ h=>h,λ_ _=>rfl,λ_ _ h=>h,λ_ _=>rfl,rfl,rfl,rfl,ufb _,a,λ_ h=>.inl h⟩
def Step.trans(h:Step B w F γ m w' F' γ' m')(k:Step B w' F' γ' m' w'' F'' γ'' m''):Step B w F γ m w'' F'' γ'' m'':=
 ⟨λb a=>k.hF b (h.hF b a),λb a=>(k.hw b (h.hF b a)).trans (h.hw b a),λi v d=>k.hR i v (h.hR i v d),λb a=>(k.old b a).trans (h.old b a),
  k.os.trans h.os,k.tape.trans h.tape,k.output.trans h.output,uep h.size k.size,k.bd,λb a=>(k.new b a).elim (λc=>h.new b c) .inr⟩
def Step.repA{a:AV}(h:Step B w F γ m w' F' γ' m')(b:aK P w F (av m γ) a v):aK P w' F' (av m' γ') a v:=aK.mono h.hF h.hw h.hR a b
def Step.repCL{a:List AC}(h:Step B w F γ m w' F' γ' m')(b:aS P w F (av m γ) a g):aS P w' F' (av m' γ') a g:=
 aS.mono h.hF h.hw h.hR a (λ_ _ h=>h) b
def cy.mono{t:Ty}{l:List t.q}(a:∀ b,F b->F' b)(d:∀ b,F b->w'.heap[b]?= w.heap[b]?)(h:cy w F t l xs):cy w' F' t l xs:=
 λi x c=>(h i x c).mono a d (λ_ _ _ h=>h)
def uv{sz:Nat}(h:w.ownsRow B e sz v n xs)(a:xs[i*sz+off]?= U u):Nr w sz off v i u:=by
 have d:=λ{g}=>h.cells (g:=g);rcases h.2 with ⟨_,rfl⟩|⟨g,b,c,rfl,_⟩
 have:=h.1;simp only[Nat.zero_mul,uaz]at this;subst this;simp at a;exact⟨_,_,_,rfl,d rfl _ u a⟩
def WD{sz:Nat}{b:Value}(h:w.ownsRow B e sz v n xs)(g:xs[i*sz+off]?= U b)(l:Nr w sz off v i u):u=b:=by obtain⟨A,k,c,rfl,d⟩:=l;obtain⟨m,p,o,f,a⟩:=uv h g;cases f;rw[d]at a;exact(ud4 a)
def WC{e:Nat}{t:Ty}{l:List t.q}(d:RwOK P B w F v e t l K xs)(h:innB w e t.size l.length K v b):b<w.heap.size/\¬ F b/\B<=b:=by obtain⟨i,u,k,m,n,a⟩:=h;obtain⟨p,o,r,s,_,f,c,_,_,g⟩:=d.inn i _ (uaq k) m;obtain rfl:=WD d.own f n;exact⟨(c.lt b a).2,(g b a).2,(c.lt b a).1⟩
def jN{id:Nat}{o:Ob}(h:iA P B w F R (γ id) o)(d:cg w o (γ id) b):b<w.heap.size/\¬ F b/\B<=b:=by
 cases o with
 |gone=>exact d.elim
 |fbox z=>exact d.elim
 |frz t l=>exact d.elim
 |box E z=>obtain⟨y,arr,e,g,p,r,_⟩:=h;obtain⟨a,v,rfl⟩:=d;rw[e]at v;cases v;exact⟨(uaf.1 g).1,p,r⟩
 |arr m t l=>
  rcases h with ⟨s,x,e,g,_⟩|⟨f,_,x,e⟩|⟨f,y,D,C,e,g,p,r,_⟩
  rcases d with d|⟨f,_⟩|d
  exact⟨(e.lt b d).2,g b d,(e.lt b d).1⟩;exact absurd s (Nat.not_lt.2 f);rcases e.2 with ⟨k,_⟩|⟨_,_,_,k,_⟩<;>(rw[d]at k;cases k)
  rcases d with d|⟨_,d⟩|d
  exact⟨(e.own.lt b d).2,e.nf b d,(e.own.lt b d).1⟩;exact WC e d;rcases e.own.2 with ⟨k,_⟩|⟨_,_,_,k,_⟩<;>(rw[d]at k;cases k)
  rw[e]at d;rcases d with d|⟨_,i,u,_,_,⟨A,n,c,d,_⟩,_⟩|d
  cases d;cases d;cases d;exact⟨(uaf.1 g).1,p,r⟩
 |hole m t l i k=>
  obtain⟨_,_,x,e,_⟩:=h;rcases d with d|d
  exact⟨(e.own.lt b d).2,e.nf b d,(e.own.lt b d).1⟩;exact WC e d
def iT.of{e:Nat}{t:Ty}{l:List t.q}(h:iA P B w F R v (.arr e t l))(a:e<cJ):iT B w F v e t l:=by
 rcases h with ⟨_,h⟩|⟨k,_⟩|⟨k,_⟩
 exact h;exact absurd a (Nat.not_lt.2 k);exact absurd a (Nat.not_lt.2 (uep (by decide) k))
def oa{e:Nat}{t:Ty}{l:List t.q}(a:e<cJ)(c:∀ b,v ≠ .map (U b)):cg w (.arr e t l) v b↔v.ownBlock=U b:=
 ⟨λh=>by
  rcases h with h|⟨h,_⟩|h
  exact h;exact absurd a (Nat.not_lt.2 h);exact absurd h (c b),.inl⟩
def qag{e:Nat}{t:Ty}{l:List t.q}(h:iA P B w F R v (.arr e t l))(d:e<fh):∃ b xs,w.ownsRow B b t.size v l.length xs/\∀ g,v.ownBlock=U g->¬ F g:=by
 rcases h with ⟨_,xs,a,c,_⟩|⟨_,_,xs,a⟩|⟨k,_⟩
 exact⟨_,xs,a,c⟩;exact⟨_,xs,a.own,a.nf⟩;exact absurd d (Nat.not_lt.2 k)
def qg{sz:Nat}(h:w.ownsRow B e sz v n xs)(b:Nat):v ≠ .map (U b):=by rintro rfl;rcases h.2 with ⟨k,_⟩|⟨_,_,_,k,_⟩<;>cases k
def rS{sz:Nat}(h:w.ownsRow B e sz v n xs)(i:∀ b,v.ownBlock=U b->w'.heap[b]?= w.heap[b]?):w'.ownsRow B e sz v n xs:=by
 refine⟨h.1,?_⟩;rcases h.2 with l|⟨g,c,d,rfl,f,k,a⟩
 exact .inl l;exact .inr ⟨g,c,d,rfl,f,(i g rfl).trans k,a⟩
def WB{e sz:Nat}(d:∀ b,v.ownBlock=U b->w'.heap[b]?= w.heap[b]?):innB w' e sz n K v b->innB w e sz n K v b:=by
 rintro⟨i,u,f,g,⟨A,k,c,rfl,h⟩,a⟩;refine⟨i,u,f,g,⟨A,k,c,rfl,?_⟩,a⟩;rw[<- h];refine(ubd ?_).symm;have:(A.add (i*sz+da e)).block=A.block:=by unfold Addr.add;split<;>rfl
 rw[this];exact d _ rfl
def xy{o:Ob}(e:∀ b,cg w o v b->w'.heap[b]?= w.heap[b]?):cg w' o v b->cg w o v b:=by
 intro c;cases o with
 |gone=>exact c
 |fbox f=>exact c
 |frz t l=>exact c
 |box g f=>exact c
 |hole d t l i k=>exact c.imp id (WB (λb a=>e b (.inl a)))
 |arr d t l=>exact c.imp id (.imp (λh=>⟨h.1,WB (λb a=>e b (.inl a)) h.2⟩) id)
def RwOK.innB{e:Nat}{t:Ty}{l:List t.q}(h:RwOK P B w F v e t l K xs)(c:i<l.length)(d:¬ K i)(f:xs[i*t.size+da e]?= U u)(a:u.ownBlock=U b):Ab.innB w e t.size l.length K v b:=
 ⟨i,u,c,d,uv h.own f,a⟩
def RwOK.keep{e:Nat}{t:Ty}{l:List t.q}(h:RwOK P B w F v e t l K xs)(p:∀ b,F b->F' b)(r:∀ b,F b->w'.heap[b]?= w.heap[b]?)(n:∀ b,v.ownBlock=U b\/Ab.innB w e t.size l.length K v b->w'.heap[b]?= w.heap[b]? /\ ¬ F' b):RwOK P B w' F' v e t l K xs:=
 ⟨rS h.own (λb d=>(n b (.inl d)).1),λg H=>(n g (.inl H)).2,h.one,λi x k c f G m=>by
   obtain⟨u,D,E⟩:=h.cells i x k c f G m;exact⟨u,D,bx.mono p r (λ_ _ h=>h) c E⟩,
  λi x f m=>by obtain⟨M,L,u,N,s,o,y,z,A,C⟩:=h.inn i x f m;have d:=λb d=>n b (.inr (h.innB (uak.1 f).1 m o d));exact⟨M,L,u,N,s,o,rS y (λb a=>(d b a).1),z.mono p r,A,λb a=>⟨(C b a).1,(d b a).2⟩⟩,
  h.disj⟩
def iA.keep{o:Ob}(h:iA P B w F R v o)(p:∀ b,F b->F' b)(s:∀ b,F b->w'.heap[b]?= w.heap[b]?)(K:∀ id v,R id v->R' id v)(y:∀ b,cg w o v b->w'.heap[b]?= w.heap[b]? /\ ¬ F' b):iA P B w' F' R' v o:=by
 cases o with
 |gone=>trivial
 |fbox A=>obtain⟨b,a,f,m⟩:=h;exact⟨b,a,p b f,aS.mono p s K A (λj u S=>by rw[<- S];exact ubd (s b f)) m⟩
 |frz t l=>simp only[iA]at h |-;exact aG.mono p s (λ_ _ _ h=>h) h
 |box ty A=>obtain⟨b,arr,a,f,m,n,G,H⟩:=h;obtain⟨C,D⟩:=y b ⟨_,a,rfl⟩;exact⟨b,arr,a,C.trans f,D,n,G,aS.mono p s K A (λ_ _ h=>h) H⟩
 |arr E t l=>
  rcases h with ⟨d,z,a,f,m,n⟩|⟨c,d,z,a⟩|⟨c,b,M,L,a,f,m,n,G,H,N,O⟩
  exact .inl ⟨d,z,rS a (λb r=>(y b (.inl r)).1),λg Q=>(y g (.inl Q)).2,m.mono p s,n⟩;exact .inr (.inl ⟨c,d,z,a.keep p s (λb r=>y b (r.imp id (λh=>.inl ⟨c,h⟩)))⟩);obtain⟨C,D⟩:=y b (.inr (.inr a));exact .inr (.inr ⟨c,b,M,L,a,C.trans f,D,n,G,H,N,λi x T=>by obtain⟨e,W,k2,k3,k4⟩:=O i x T;exact⟨e,W,k2,k3,k4.mono (λ_ h=>h) (λ_ h=>h.elim) (λ_ _ _ h=>h)⟩⟩)
 |hole E t l i k=>obtain⟨c,d,z,a,f,u,m,n⟩:=h;exact⟨c,d,z,a.keep p s y,f,u,m,K _ _ n⟩
def MemOK.keep(h:MemOK P B w F γ m)(r:∀ b,F b->F' b)(s:∀ b,F b->w'.heap[b]?= w.heap[b]?)(c:∀ id o b,m id=U o->cg w o (γ id) b->w'.heap[b]?= w.heap[b]? /\ ¬ F' b):MemOK P B w' F' γ m:=
 ⟨λid o l=>(h.ob id o l).keep r s (λ_ _ h=>h) (λb a=>c id o b l a),λi j n p b f g k d e=>h.apart i j n p b f g k (xy (λb a=>(c i n b g a).1) d) (xy (λb a=>(c j p b k a).1) e)⟩
def Step.below(f:MemOK P B w F γ m)(n:B<=w.heap.size)(d:∀ b,F b->b<w.heap.size)(a:Below w.heap.size w w')(e:∀ b,F b->F' b)(c:∀ b,F' b->(F b\/w.heap.size<=b)/\b<w'.heap.size):
  Step B w F γ m w' F' γ m/\MemOK P B w' F' γ m:=by
 refine⟨⟨e,λb h=>a.block b (d b h),λ_ _ h=>h,λb h=>a.block b (by omega),a.os,a.tape,a.output,a.size,λb h=>(c b h).2,λb h=>(c b h).1.elim .inl (λh=>.inr (by omega))⟩,?_⟩;refine f.keep e (λb h=>a.block b (d b h)) λid o b l k=>?_;obtain⟨g,i,_⟩:=jN (f.ob id o l) k;exact⟨a.block b g,λh=>(c b h).1.elim i (by omega)⟩
def upd(m:Nat->Option Ob)(id:Nat)(o:Ob):Nat->Option Ob:=λi=>if i=id then U o else m i
def aB(m:Nat->Option Ob):List (Nat×Ob)->Nat->Option Ob
 |[]=>m
 |(id,o)::r=>aB (upd m id o) r
def dG(γ:Nat->Value)(id:Nat)(v:Value):Nat->Value:=λi=>if i=id then v else γ i
def kX(m:Nat->Option Ob)(id:Nat)(o:Ob):upd m id o id=U o:=by simp[upd]
def gL(m:Nat->Option Ob){id:Nat}(o:Ob)(h:i≠id):upd m id o i=m i:=by simp[upd,h]
def ig(γ:Nat->Value)(id:Nat)(v:Value):dG γ id v id=v:=by simp[dG]
def ga(γ:Nat->Value){id:Nat}(v:Value)(h:i≠id):dG γ id v i=γ i:=by simp[dG,h]
def qm{id:Nat}{o o0:Ob}(b:m id=U o0)(c:o0=.gone->o=.gone):∀ i v,av m γ i v->av (upd m id o) γ i v:=by
 intro i v h;unfold av at *;by_cases a:i=id;subst a;rw[kX];cases o<;>cases o0<;>simp_all
 rw[gL _ _ a];exact h
def MemOK.change(h:MemOK P B w F γ m){id:Nat}{o o0:Ob}(r:m id=U o0)(G:o0=.gone->o=.gone)(E:∀ b,F b->F' b)(H:∀ b,F b->w'.heap[b]?= w.heap[b]?)(n:∀ b,cg w' o (γ id) b->cg w o0 (γ id) b)(p:∀ b,b<w.heap.size->¬ cg w o0 (γ id) b->w'.heap[b]?= w.heap[b]? /\ (F' b->F b))(x:iA P B w' F' (av (upd m id o) γ) (γ id) o):MemOK P B w' F' γ (upd m id o):=by
 have y:∀ i a,i≠id->m i=U a->∀ b,cg w a (γ i) b->w'.heap[b]?= w.heap[b]? /\ ¬ F' b:=λi a d c b s=>by obtain⟨z,A,_⟩:=jN (h.ob i a c) s;obtain⟨C,D⟩:=p b z (λu=>h.apart i id a o0 b d c r s u);exact⟨C,λu=>A (D u)⟩
 have f:∀ i a,i≠id->m i=U a->∀ b,cg w' a (γ i) b->cg w a (γ i) b:=λi a d c b=>xy (λb s=>(y i a d c b s).1);refine⟨λi a c=>?_,λi j a t b e c g k l=>?_⟩;by_cases d:i=id;subst d;rw[kX,ucl]at c;subst c;exact x;rw[gL _ _ d]at c;exact(h.ob i a c).keep E H (qm r G) (y i a d c);by_cases d:i=id;subst d;rw[kX,ucl]at c;subst c;rw[gL _ _ (Ne.symm e)]at g;exact h.apart i j o0 t b e r g (n b k) (f j t (Ne.symm e) g b l);rw[gL _ _ d]at c;by_cases v:j=id;subst v;rw[kX,ucl]at g;subst g;exact h.apart i j a o0 b e c r (f i a d c b k) (n b l);rw[gL _ _ v]at g;exact h.apart i j a t b e c g (f i a d c b k) (f j t v g b l)
def CK{id:Nat}{o:Ob}(b:m id=V):∀ i u,av m γ i u->av (upd m id o) (dG γ id v) i u:=by intro i u h;unfold av at *;by_cases a:i=id;subst a;simp[b]at h;rw[gL _ _ a,ga _ _ a];exact h
def MemOK.new(h:MemOK P B w F γ m){id:Nat}{o:Ob}(D:m id=V)(H:∀ b,F b->F' b)(L:∀ b,F b->w'.heap[b]?= w.heap[b]?)(n:∀ b,cg w' o v b->w.heap.size<=b)(p:∀ b,b<w.heap.size->(w'.heap[b]?= w.heap[b]? /\ (F' b->F b)))(u:iA P B w' F' (av (upd m id o) (dG γ id v)) v o):MemOK P B w' F' (dG γ id v) (upd m id o):=by
 have x:∀ i a,m i=U a->∀ b,cg w a (γ i) b->w'.heap[b]?= w.heap[b]? /\ ¬ F' b:=λi a c b s=>by obtain⟨y,z,_⟩:=jN (h.ob i a c) s;obtain⟨A,C⟩:=p b y;exact⟨A,λK=>z (C K)⟩
 have f:∀ i a,m i=U a->∀ b,cg w' a (γ i) b->cg w a (γ i) b:=λi a c b=>xy (λb s=>(x i a c b s).1);refine⟨λi a c=>?_,λi j a r b l c g e d=>?_⟩;by_cases k:i=id;subst k;rw[kX,ucl]at c;subst c;rw[ig];exact u;rw[gL _ _ k]at c;rw[ga _ _ k];exact(h.ob i a c).keep H L (CK D) (x i a c);by_cases k:i=id;subst k;rw[kX,ucl]at c;subst c;rw[gL _ _ (Ne.symm l)]at g;rw[ga _ _ (Ne.symm l)]at d;rw[ig]at e;have E:=(jN (h.ob j r g) (f j r g b d)).1;have G:=n b e;omega;rw[gL _ _ k]at c;rw[ga _ _ k]at e;by_cases t:j=id;subst t;rw[kX,ucl]at g;subst g;rw[ig]at d;have E:=(jN (h.ob i a c) (f i a c b e)).1;have G:=n b d;omega;rw[gL _ _ t]at g;rw[ga _ _ t]at d;exact h.apart i j a r b l c g (f i a c b e) (f j r g b d)
end
def Ar:Value->AC
 |.int k n=>if k.min<=n/\n<=k.max then .int k n else .dead
 |.bool b=>.bool b
 |.string s=>if s.size<=maxLen then .str s else .dead
 |.slice V 0 0=>.nil
 |_=>.dead
def nK:Value->AV
 |.agg a=>if a.toList.all (·.oneCell')then .agg (a.toList.map Ar)else .dead
 |.tuple _=>.dead
 |v=>.c (Ar v)
def jq(a:Nat->AV):Operand->AV
 |.tmp t=>a t
 |.const v=>nK v
 |.global _=>.dead
 |.func f=>.c (.fn f [])
def mD(P:Program):Nat->TypeId->Option Ty
 |0,_=>V
 |n+1,t=>
  match P.underlying t with
  |some .bool=>U .bool
  |some (.int k)=>U (.int k)
  |some .string=>U .str
  |some (.slice e)=>(mD P n e).map .sl
  |some (.struct c)=>c.toList.foldr (λf b=>match mD P n f.type,b with
   |some a,U r=>U (.pair a r)
   |_,_=>V) (U .unit)
  |some (.array k e)=>match mD P n e with
   |some a=>U (Nat.rec (motive:=λ_=>Ty) .unit (λ_ r=>.pair a r) k)
   |none=>V
  |_=>V
def dH(P:Program)(t:TypeId):Bool:=
 match P.underlying t with
 |some (.struct _)|some (.array _ _)=>Z
 |_=>Y
def nS:AV->Option (List AC)
 |.c a=>U [a]
 |.agg b=>U b
 |_=>V
def GN(wide:Bool)(b:List AC):Option AV:=
 if wide then U (.agg b)else match b with
  |[a]=>U (.c a)
  |_=>V
def ql(b:List AC)(a:Nat)(new:List AC):Option (List AC):=
 if a+new.length<=b.length then U (b.take a++new++b.drop (a+new.length))else V
def jT(b:List AC)(a n:Nat):Option (List AC):=
 if a+n<=b.length then U ((b.drop a).take n)else V
structure Eff where
 v:AV
 wr:List (Nat×Ob)
 need:List Prop
abbrev aX:=Nat->Option Ob
def oO(m:aX):AC->Option (AC×List (Nat×Ob))
 |.own id=>match m id with
  |some (.arr e t l)=>if e<fh then U (.sl t l,[(id,.frz t l)])else V
  |some (.frz t l)=>U (.sl t l,[])
  |_=>V
 |a=>U (a,[])
def lB(m:aX):List AC->Option (List AC×List (Nat×Ob))
 |[]=>U ([],[])
 |a::r=>match oO m a,lB m r with
  |some (x,u),U (y,v)=>U (x::y,u++v)
  |_,_=>V
def sj(m:aX):AV->Option (AV×List (Nat×Ob))
 |.c a=>match oO m a with
  |some (x,u)=>U (.c x,u)
  |none=>V
 |.agg b=>match lB m b with
  |some (x,u)=>U (.agg x,u)
  |none=>V
 |_=>V
def fe(m:aX):List AV->Option (List AV×List (Nat×Ob))
 |[]=>U ([],[])
 |a::r=>match sj m a,fe m r with
  |some (x,u),U (y,v)=>U (x::y,u++v)
  |_,_=>V
def zu(m:aX):List AV->Option (List AC×List (Nat×Ob))
 |[]=>U ([],[])
 |.c (.ptr id 0)::r=>match m id with
  |some (.box _ d)=>match lB m d with
   |some (b,u)=>match aB m u id with
    |some (.box _ _)=>match zu (aB m (u++[(id,.fbox b)])) r with
     |some (y,v)=>U (.sptr b::y,(u++[(id,.fbox b)])++v)
     |none=>V
    |_=>V
   |none=>V
  |some (.fbox d)=>match zu m r with
   |some (y,v)=>U (.sptr d::y,v)
   |none=>V
  |_=>V
 |.c a::r=>match oO m a with
  |some (x,u)=>match zu (aB m u) r with
   |some (y,v)=>U (x::y,u++v)
   |none=>V
  |none=>V
 |_::_=>V
def og:AC->List Nat
 |.own id=>[id]
 |.ptr id _=>[id]
 |.ifp _ id=>[id]
 |.fb _ id=>[id]
 |_=>[]
def xR:AV->List Nat
 |.c a=>og a
 |.agg d=>d.flatMap og
 |.optr id _ _ _=>[id]
 |.aptr b _ _=>og b
 |.maybe _ _ v=>xR v
 |_=>[]
def qzl:Option Ob->List Nat
 |some (.box _ a)=>a.flatMap og
 |_=>[]
def tV(P:Program):Nat->TypeId->List AC->List AC->Option Bool
 |0,_,_,_=>V
 |n+1,t,d,g=>
  match P.underlying t with
  |some .bool=>match d,g with
   |[.bool a],[.bool b]=>U (a==b)
   |_,_=>V
  |some (.int _)=>match d,g with
   |[.int k a],[.int m b]=>if k=m then U (a==b)else V
   |_,_=>V
  |some (.struct l)=>if P.stoodInHeld t=Z then V else
   l.toList.foldr (λf c=>if f.name = "_" then c else
    if (P.underlying f.type).isSome=Z/\(P.info? f.type).isSome=Z then
     match jT d f.offset (if dH P f.type then P.cellsOf f.type else 1),jT g f.offset (if dH P f.type then P.cellsOf f.type else 1)with
     |some x,U y=>match tV P n f.type x y,c with
      |some p,U q=>U (p&&q)
      |_,_=>V
     |_,_=>V
    else V) (U Z)
  |some (.array h e)=>
   if (P.underlying e).isSome=Z/\(P.info? e).isSome=Z then
    (List.range h).foldr (λi c=>
     match jT d (i*P.cellsOf e) (if dH P e then P.cellsOf e else 1),jT g (i*P.cellsOf e) (if dH P e then P.cellsOf e else 1)with
     |some x,U y=>match tV P n e x y,c with
      |some p,U q=>U (p&&q)
      |_,_=>V
     |_,_=>V) (U Z)
   else V
  |_=>V
def KL(c:BinOp)(a b:Int):Option Bool:=
 match c with
 |.eql=>U (a==b)
 |.neq=>U (a != b)
 |.lss=>U (J (a<b))
 |.leq=>U (J (a<=b))
 |.gtr=>U (J (a>b))
 |.geq=>U (J (a>=b))
 |_=>V
def Sw(op:BinOp)(k:IntKind)(a b:Int):Option (AC×List Prop):=
 match op with
 |.add=>U (.int k (k.wrap (a+b)),[])
 |.sub=>U (.int k (k.wrap (a-b)),[])
 |.mul=>U (.int k (k.wrap (a*b)),[])
 |.quo=>U (.int k (k.wrap (a.tdiv b)),[b≠0])
 |.rem=>U (.int k (a.tmod b),[b≠0])
 |.and=>U (.int k (k.wrap (Bvo k.bits a &&& Bvo k.bits b).toNat),[])
 |.or=>U (.int k (k.wrap (Bvo k.bits a ||| Bvo k.bits b).toNat),[])
 |.xor=>U (.int k (k.wrap (Bvo k.bits a ^^^ Bvo k.bits b).toNat),[])
 |.andNot=>U (.int k (k.wrap (Bvo k.bits a &&& ~~~Bvo k.bits b).toNat),[])
 |.shl=>U (.int k (k.wrap (a*2 ^ (min b.toNat k.bits))),[¬ b<0])
 |.shr=>U (.int k (a.fdiv (2 ^ (min b.toNat k.bits))),[¬ b<0])
 |op=>match KL op a b with
  |some x=>U (.bool x,[])
  |none=>V
def WZ:BinOp->Bool
 |.shl | .shr=>Z
 |_=>Y
def J5(P:Program)(d:BinOp)(t:TypeId):AV->AV->Option (AC×List Prop)
 |.c (.int k a),.c (.int e b)=>if k=e\/WZ d=Z then Sw d k a b else V
 |.c (.bool a),.c (.bool b)=>match d with
  |.eql=>if P.underlying t matches U .bool then U (.bool (a==b),[])else V
  |.neq=>if P.underlying t matches U .bool then U (.bool (!(a==b)),[])else V
  |_=>V
 |.agg f,.agg g=>if P.eqGuardType P.depth t=Y/\dH P t=Z then match tV P 20 t f g with
   |some x=>match d with
    |.eql=>U (.bool x,[])
    |.neq=>U (.bool (!x),[])
    |_=>V
   |none=>V
  else V
 |_,_=>V
structure InsOK (P:Program) (f:FuncId) (e:TypeId) (T:Ty) (bytes:Nat):Prop where
 enters:∀ args w,(callFunc f args).run P w=.ok (.enter f args) w
 calls:∀ (w:World) (B n i:Nat) (s v:Value) (xs news:List Value),B<=w.heap.size->w.ownsRow B e T.size s n xs->w.ownsRow B e T.size v 1 news->(∀ g,v.ownBlock=some g->s.ownBlock≠some g)->i<=n ->
  (∀ u∈xs,u.oneCell'=true)->(∀ u∈news,u.oneCell'=true)->n+1<=maxLen->(n+1)*bytes<=140737488355328 ->
  Calls P f #[s,.int .i64 i,v] w λen w'=>∃ v',en=.returned v'/\w.grownBy w' s.ownBlock/\w'.ownsRow B e T.size v' (n+1) (xs.take (i*T.size)++news++xs.drop (i*T.size))/\(v'.ownBlock=s.ownBlock\/v'.ownBlock=some w.heap.size)
structure CloneOK (P:Program) (f:FuncId) (e:TypeId) (T:Ty) (bytes:Nat):Prop where
 enters:∀ args w,(callFunc f args).run P w=.ok (.enter f args) w
 calls:∀ (w:World) (n c:Nat) (A:Option Addr) (xs:List Value),n<=c->(A=none->n=0)->xs.length=n*T.size->(∀ ad,A=some ad->∀ (j:Nat) u,xs[j]?= some u->w.cell? (ad.add j)=some u)->(∀ u∈xs,u.oneCell'=true) ->
  n<=maxLen->n*bytes<=140737488355328 ->
  Calls P f #[.slice A n c] w λen w'=>∃ v',en=.returned v'/\w.grownBy w' none/\w'.ownsRow w.heap.size e T.size v' n xs
structure UpdOK (P:Program) (f:FuncId) (T:Ty) (ps:List Ty) (g:T.q->aa ps->T.q):Prop where
 enters:∀ args w,(callFunc f args).run P w=.ok (.enter f args) w
 calls:∀ (w:World) (F:Nat->Prop) (b:Nat) (ety:TypeId) (arr:Array Value) (x:T.q) (y:aa ps) (vs:List Value),w.heap[b]?= some (.cells arr ety (0,0))->arr.size=T.size ->
  (∀ u∈arr,u.oneCell'=true)->aG w F T x (λj u=>arr[j]?= some u)->fi w F ps y vs ->
  Calls P f (Value.pointer (some ⟨b,0,none⟩)::vs).toArray w λen w'=>∃ (u:Value) (ns:List Value),en=.returned u/\ns.length=T.size/\w'=w.setRow b ns.toArray/\aG w F T (g x y) (λj u=>ns[j]?= some u)
inductive Row where
 |clone (e:TypeId) (T:Ty) (bytes:Nat)
 |ins (e:TypeId) (T:Ty) (bytes:Nat)
 |upd (T:Ty) (ps:List Ty) (g:T.q->aa ps->T.q)
 |rw (off inner:Nat)
def DX(P:Program)(f:FuncId):Row->Prop
 |.rw _ _=>True
 |.clone e T n=>CloneOK P f e T n
 |.ins e T n=>InsOK P f e T n
 |.upd T a g=>UpdOK P f T a g
structure Gm where
 c:FuncId->Option Ct
 r:FuncId->Option Row
instance:CoeFun Gm λ_=>FuncId->Option Ct:=⟨Gm.c⟩
instance:Coe (FuncId->Option Ct) Gm:=⟨λc=>⟨c,λ_=>none⟩⟩
def io(P:Program)(b:Gm):Prop:=(∀ f a,b.c f=U a->ag P f a)/\∀ f r,b.r f=U r->DX P f r
def nX(t:Ty):AV->Option t.q
 |.c a=>if t.wide then V else match dec t [a]with
  |some (x,[])=>U x
  |_=>V
 |.agg b=>if t.wide then match dec t b with
  |some (x,[])=>U x
  |_=>V else V
 |_=>V
def AQ{c a d b:List Ty}(h:c=a)(k:d=b)(g:aa c->aa d):aa a->aa b:=k ▸ h ▸ g
def Td{b a:List Ty}(h:b=a)(D:aa b->Prop):aa a->Prop:=h ▸ D
def Fa{b a:List Ty}(k:b=a)(x:aa b):aa a:=k ▸ x
def K7{t u:Ty}(h:t=u)(x:t.q):u.q:=h ▸ x
def jM:(b:List PT)->List AC->Option (ap b)
 |[],[]=>U ()
 |.d t::r,a::s=>match nX t (.c a),jM r s with
  |some x,U y=>U (x,y)
  |_,_=>V
 |.ptr t::r,.sptr l::s=>match dec t l,jM r s with
  |some (x,_),U y=>U (x,y)
  |_,_=>V
 |.pk f::r,.sptr [.fn m []]::s=>if m=f then match jM r s with
  |some y=>U ((),y)
  |none=>V
  else V
 |.pfn b n::r,.sptr [.fv e i g]::s=>if h:e=b then if k:i=n then match jM r s with
   |some y=>U (AQ h k g,y)
   |none=>V
  else V else V
 |_,_=>V
def lV:(c:List Ty)->(b:List PT)->List AC->Option (aa c->ap b)
 |[],b,a=>match jM b a with
  |some f=>U (λ_=>f)
  |none=>V
 |t::r,.d e::b,a=>if h:t=e then match lV r b a with
   |some m=>U (λx=>(K7 h x.1,m x.2))
   |none=>V
  else V
 |_::_,_,_=>V
def Le(l:Gm)(c e:List Ty):AC->Option ((aa c->aa e)×List Prop)
 |.fv d i g=>if h:d=c then if k:i=e then U (AQ h k g,[])else V else V
 |.fn f a=>match l f with
  |some b=>if k:b.rs=e then match lV c b.ps a with
    |some m=>U (λx=>Fa k (b.f (m x)),[∀ x,gN c x->az (b.ok (m x))])
    |none=>V
   else V
  |none=>V
 |_=>V
def Lg(l:Gm)(c e:List Ty):AC->Option ((aa c->aa e)×(aa c->Prop))
 |.pv d i g D=>if h:d=c then if k:i=e then U (AQ h k g,Td h D)else V else V
 |.fn f a=>match l f with
  |some b=>if k:b.rs=e then match lV c b.ps a with
    |some m=>U (λx=>Fa k (b.f (m x)),λx=>az (b.ok (m x)))
    |none=>V
   else V
  |none=>V
 |_=>V
def TM(f:Gm):(p:PT)->AV->Option (p.q×List Prop)
 |.d t,a=>match nX t a with
  |some x=>U (x,[])
  |none=>V
 |.ptr t,.c (.sptr g)=>match dec t g with
  |some (x,_)=>U (x,[])
  |none=>V
 |.fn b e,.c a=>Le f b e a
 |.pf b e,.c a=>match Lg f b e a with
  |some x=>U (x,[])
  |none=>V
 |_,_=>V
def lm(b:Gm):(c:List PT)->List AV->Option (ap c×List Prop)
 |[],[]=>U ((),[])
 |p::r,a::s=>match TM b p a,lm b r s with
  |some (x,n),U (y,k)=>U ((x,y),n++k)
  |_,_=>V
 |_,_=>V
def eR(t:Ty)(x:t.q):AV:=if t.wide then .agg (enc t x)else match enc t x with
 |[a]=>.c a
 |_=>.dead
def Fo:(a:List Ty)->aa a->List AV
 |[],_=>[]
 |t::r,x=>eR t x.1::Fo r x.2
def lq:(a:List Ty)->aa a->AV
 |[t],x=>eR t x.1
 |a,x=>.tup (Fo a x)
def SZ(c:Gm)(f:FuncId)(a:List AV):Option (AV×List Prop):=
 match c f with
 |some b=>match lm c b.ps a with
  |some (x,n)=>U (lq b.rs (b.f x),n++b.ok x)
  |none=>V
 |none=>V
def jp:(b:List Ty)->List AV->Option (aa b)
 |[],[]=>U ()
 |t::r,a::s=>match nX t a,jp r s with
  |some x,U y=>U (x,y)
  |_,_=>V
 |_,_=>V
def rD(k:IntKind):List AC->Option (List Int)
 |[]=>U []
 |.int a n::r=>if k=a then (rD k r).map (n :: ·)else V
 |_=>V
def Xs:List AC->Option IntKind
 |.int k _::_=>U k
 |_=>V
def sn:List Int->Nat->Int->Int->List Int
 |[],_,_,_=>[]
 |n::r,j,i,v=>(bif i==(j:Int)then v else n)::sn r (j+1) i v
def Iz(c:Operand)(a:Bool):AV->AV
 |.maybe g w v=>match c with
  |.tmp t=>if g=t/\w=a then v else .maybe g w v
  |_=>.maybe g w v
 |v=>v
def Cw(p:Bool):AV->AV->Option AV
 |.c (.bool x),.c (.bool y)=>U (.c (.bool (bif p then x else y)))
 |.c (.int k x),.c (.int a y)=>if k=a then U (.c (.int k (bif p then x else y)))else V
 |_,_=>V
def Bq(a:Nat->Option (Nat×Nat))(d:List AC):List (Nat×AV)->Option (List AC)
 |[]=>U d
 |(i,v)::r=>match a i,nS v with
  |some (c,n),U new=>if new.length=n then match ql d c new with
    |some b=>Bq a b r
    |none=>V
   else V
  |_,_=>V
def Zw(P:Program)(t:TypeId):Option (Nat->Option (Nat×Nat)):=
 match P.underlying t with
 |some (.struct a)=>if a.toList.all (λf=>(P.info? f.type).isSome)then U λi=>(a[i]?).map λf=>(f.offset,P.cellsOf f.type)else V
 |some (.array _ e)=>if (P.info? e).isSome then U λi=>U (i*P.cellsOf e,P.cellsOf e)else V
 |_=>V
def JH(P:Program)(t:TypeId)(a:List (Nat×AV)):Option AV:=
 match (P.info? t).bind (·.zero),Zw P t with
 |some z,U d=>match nS (nK z)with
  |some c=>match Bq d c a with
   |some b=>U (.agg b)
   |none=>V
  |none=>V
 |_,_=>V
def qq(t:Ty)(k:Nat):List (Nat×AV)->Option (List t.q)
 |[]=>U []
 |(i,v)::r=>if i=k then match nX t v,qq t (k+1) r with
   |some x,U l=>U (x::l)
   |_,_=>V
  else V
def lv:Int->List AC->List (Int×Nat)
 |_,[]=>[]
 |k,.fn f []::r=>(k,f)::lv (k+1) r
 |k,_::r=>lv (k+1) r
def AS(m:aX):AV->Option (List AC×List Prop)
 |.c (.ptr id off)=>match m id with
  |some (.box _ cs)=>U (cs.drop off,[])
  |some (.fbox cs)=>U (cs.drop off,[])
  |_=>V
 |.c (.sptr cs)=>U (cs,[])
 |.optr id sz i off=>match m id with
  |some (.arr e t l)=>if e<cJ/\t.size=sz then U ((enc t (l.getD i t.j)).drop off,[i<l.length])else V
  |some (.frz t l)=>if t.size=sz then U ((enc t (l.getD i t.j)).drop off,[i<l.length])else V
  |_=>V
 |.aptr b n i=>match b with
  |.ptr id off=>match m id with
   |some (.box _ cs)=>pickI (cs.drop off) n i
   |some (.fbox cs)=>pickI (cs.drop off) n i
   |_=>V
  |.sptr cs=>pickI cs n i
  |_=>V
 |_=>V
where
 pickI (cs:List AC) (n:Nat) (i:Int):Option (List AC×List Prop):=
  match Xs cs,jT cs 0 n with
  |some k,U bz=>match rD k bz with
   |some a=>U ([.int k (a.getD i.toNat 0)],[])
   |none=>V
  |none,U bz=>if (lv 0 bz).isEmpty then V else U ([.fs (lv 0 bz) i],[((lv 0 bz).find? (λx=>x.1==i)).isSome=Z])
  |_,_=>V
def GE(P:Program)(t:TypeId)(x:AV)(m:aX):Option Eff:=
 match AS m x with
 |some (b,n)=>if (P.info? t).isSome/\(P.underlying t).isSome then
   if dH P t then match jT b 0 (P.cellsOf t)with
    |some l=>U ⟨.agg l,[],n⟩
    |none=>V
   else match b with
    |a::_=>U ⟨.c a,[],n⟩
    |[]=>V
  else V
 |none=>V
def P8(P:Program)(t:TypeId)(x v:AV)(m:aX):Option Eff:=
 match nS v with
 |none=>V
 |some new=>if (P.info? t).isSome/\new.length=P.cellsOf t then
   match x with
   |.c (.ptr id a)=>match m id with
    |some (.box e g)=>match ql g a new with
     |some b=>U ⟨.dead,[(id,.box e b)],[]⟩
     |none=>V
    |_=>V
   |.optr id sz i a=>match m id,lB m new with
    |some (.arr e f l),U (d,u)=>if e<cJ/\f.size=sz/\(new.flatMap og).all (· != id)then
      match ql (enc f (l.getD i f.j)) a d with
      |some h=>match dec f h with
       |some (y,[])=>U ⟨.dead,u++[(id,.arr e f (l.set i y))],[i<l.length]⟩
       |_=>V
      |none=>V
     else V
    |_,_=>V
   |.aptr (.ptr id a) n i=>match m id,new with
    |some (.box e g),[.int k y]=>match jT g a n with
     |some bz=>match rD k bz with
      |some o=>match ql g a ((sn o 0 i y).map (.int k))with
       |some b=>U ⟨.dead,[(id,.box e b)],[]⟩
       |none=>V
      |none=>V
     |none=>V
    |_,_=>V
   |_=>V
  else V
def uD(m:aX):AC->Option ((t:Ty)×List t.q)
 |.sl t l=>U ⟨t,l⟩
 |.slx t l=>U ⟨t,l⟩
 |.own id=>match m id with
  |some (.arr e t l)=>if e<cJ then U ⟨t,l⟩else V
  |some (.frz t l)=>U ⟨t,l⟩
  |_=>V
 |_=>V
def Nn(P:Program)(t:TypeId)(x:AV)(i:Int)(m:aX):Option Eff:=
 match P.underlying t with
 |some (.slice e)=>if (P.info? e).isSome then match x with
   |.c (.own id)=>match m id with
    |some (.arr f a l)=>if f<fh/\a.size=P.cellsOf e then U ⟨.optr id a.size i.toNat 0,[],[0<=i/\i<l.length]⟩else V
    |some (.hole _ a l _ _)=>if a.size=P.cellsOf e then U ⟨.optr id a.size i.toNat 0,[],[0<=i/\i<l.length]⟩else V
    |some (.frz a l)=>if a.size=P.cellsOf e then U ⟨.c (.sptr (enc a (l.getD i.toNat a.j))),[],[0<=i/\i<l.length]⟩else V
    |_=>V
   |.c (.sl a l)=>if a.size=P.cellsOf e then U ⟨.c (.sptr (enc a (l.getD i.toNat a.j))),[],[0<=i/\i<l.length]⟩else V
   |.c (.slx a l)=>if a.size=P.cellsOf e then U ⟨.c (.sptr (enc a (l.getD i.toNat a.j))),[],[0<=i/\i<l.length]⟩else V
   |_=>V
  else V
 |some (.array n e)=>if (P.info? e).isSome then
   if P.cellsOf e=1 then match x with
    |.c (.ptr id b)=>U ⟨.aptr (.ptr id b) n i,[],[0<=i/\i<n]⟩
    |.c (.sptr d)=>U ⟨.aptr (.sptr d) n i,[],[0<=i/\i<n]⟩
    |_=>V
   else match i with
    |.ofNat k=>if k<n then match x with
      |.c (.ptr id b)=>U ⟨.c (.ptr id (b+k*P.cellsOf e)),[],[]⟩
      |.c (.sptr d)=>U ⟨.c (.sptr (d.drop (k*P.cellsOf e))),[],[]⟩
      |_=>V
     else V
    |_=>V
  else V
 |_=>V
def xF(P:Program)(s:TypeId)(f:Nat):Option Field:=
 match P.underlying s with
 |some (.struct a)=>a[f]?
 |_=>V
def Mj(P:Program)(s:TypeId)(x:AV)(f:Nat):Option AV:=
 match xF P s f with
 |some b=>if (P.info? b.type).isSome=Z/\P.cellsOf b.type≠0 then match x with
   |.c (.ptr id a)=>U (.c (.ptr id (a+b.offset)))
   |.c (.sptr d)=>U (.c (.sptr (d.drop b.offset)))
   |.optr id sz i a=>U (.optr id sz i (a+b.offset))
   |_=>V
  else V
 |none=>V
def Pu(t:Ty)(l:List t.q)(lo hi mx:Option Int):Option (AC×List Prop):=
 match mx with
 |none=>U (.sl t ((l.drop (lo.getD 0).toNat).take ((hi.getD l.length)-(lo.getD 0)).toNat),[0<=lo.getD 0/\lo.getD 0<=hi.getD l.length/\hi.getD l.length<=l.length])
 |some k=>match hi with
  |some h=>U (.slx t ((l.drop (lo.getD 0).toNat).take (h-(lo.getD 0)).toNat),[0<=lo.getD 0/\lo.getD 0<=h/\h<=l.length/\k=h])
  |none=>V
def Jw(P:Program)(d:Nat)(t:TypeId)(s x:AV)(m:aX):Option Eff:=
 match P.underlying t with
 |some (.slice e)=>match P.info? e,mD P 20 e,m d with
  |some i,U b,V=>if e<cJ/\i.size=b.size/\0<b.size/\(i.zero.any λz=>z.cells.size==b.size)=Z then
   match (match x with
    |.c .nil=>U ([]:List b.q)
    |.c a=>match uD m a with
     |some ⟨u,l⟩=>if h:u=b then U (cY h l)else V
     |none=>V
    |_=>V)with
   |some new=>match s with
    |.c .nil=>U ⟨.c (.own d),[(d,.arr e b new)],[new.length<=maxLen/\new.length*i.bytes<=140737488355328]⟩
    |.c (.own id)=>match m id with
     |some (.arr f u l)=>if h:u=b then if f=e/\(xR x).all (· != id)then
       U ⟨.c (.own d),[(id,.gone),(d,.arr e b (cY h l++new))],[(cY h l).length+new.length<=maxLen/\((cY h l).length+new.length)*i.bytes<=140737488355328]⟩else V else V
     |_=>V
    |.c (.slx u l)=>if h:u=b then
       U ⟨.c (.own d),[(d,.arr e b (cY h l++new))],[0<new.length/\(cY h l).length+new.length<=maxLen/\((cY h l).length+new.length)*i.bytes<=140737488355328]⟩else V
    |_=>V
   |none=>V
   else V
  |_,_,_=>V
 |_=>V
def uK(k:IntKind)(x:Int):List AV->Option Int
 |[]=>U x
 |.c (.int a y)::r=>if k=a then uK k (if y<x then y else x) r else V
 |_=>V
def uJ(k:IntKind)(x:Int):List AV->Option Int
 |[]=>U x
 |.c (.int a y)::r=>if k=a then uJ k (if x<y then y else x) r else V
 |_=>V
def Np(P:Program)(t:TypeId)(x:AV)(i:Int):Option Eff:=
 match P.underlying t with
 |some .string=>match x with
  |.c (.str b)=>U ⟨.c (.int .u8 (b.data.getD i.toNat 0).toNat),[],[0<=i/\i<b.size]⟩
  |_=>V
 |some (.array n e)=>if (P.info? e).isSome=Z/\(P.underlying e).isSome=Z/\P.cellsOf e=1/\dH P e=Y then match x with
   |.agg a=>match Xs a with
    |some k=>match rD k a with
     |some d=>if d.length=n then U ⟨.c (.int k (d.getD i.toNat 0)),[],[0<=i/\i<n]⟩else V
     |none=>V
    |none=>V
   |_=>V
  else V
 |_=>V
def vF(P:Program)(t:TypeId)(x:AV)(m:aX):Option Eff:=
 match P.underlying t,x with
 |some (.array n e),.c (.ptr id f)=>match P.info? e,mD P 20 e,m id with
  |some i,U b,U (.box _ d)=>match lB m d with
   |some (a,[])=>match jT a f (n*b.size)with
    |some bz=>match splitN b n bz with
     |some l=>if i.size=b.size/\0<b.size/\n<=1000 then U ⟨.c (.sl b l),[(id,.fbox a)],[]⟩else V
     |none=>V
    |none=>V
   |_=>V
  |_,_,_=>V
 |_,_=>V
where
 splitN (t:Ty):Nat->List AC->Option (List t.q)
  |0,[]=>U []
  |n+1,d=>match dec t (d.take t.size)with
   |some (x,[])=>match splitN t n (d.drop t.size)with
    |some l=>U (x::l)
    |none=>V
   |_=>V
  |_,_=>V
def pC(d:Gm)(n:Int)(a:List AV):List (Int×Nat)->Option ((c:List Ty)×aa c×List Prop)
 |[]=>V
 |(k,f)::r=>match d f with
  |some b=>match lm d b.ps a with
   |some (x,e)=>match r with
    |[]=>U ⟨b.rs,b.f x,(n=k)::(e++b.ok x)⟩
    |r=>match pC d n a r with
     |some ⟨c,y,g⟩=>if h:c=b.rs then U ⟨b.rs,bif n==k then b.f x else Fa h y,[n=k->az (e++b.ok x),n≠k->az g]⟩else V
     |none=>V
   |none=>V
  |none=>V
def K6(h:Gm)(k:AV)(a:List AV):Option (AV×List Prop):=
 match k with
 |.c (.fn f b)=>SZ h f (a++b.map .c)
 |.c (.fv e d g)=>match jp e a with
  |some x=>U (lq d (g x),[])
  |none=>V
 |.c (.pv e d g D)=>match jp e a with
  |some x=>U (lq d (g x),[D x])
  |none=>V
 |.c (.fs i n)=>match pC h n a i with
  |some ⟨d,y,l⟩=>U (lq d y,l)
  |none=>V
 |_=>V
def uC(P:Program)(t:TypeId)(x:AV)(m:aX):Option Eff:=
 match P.underlying t with
 |some (.slice _)=>match x with
  |.c .nil=>U ⟨.c (.int .i64 0),[],[]⟩
  |.c a=>match uD m a with
   |some ⟨_,l⟩=>U ⟨.c (.int .i64 l.length),[],[]⟩
   |none=>match a with
    |.own id=>match m id with
     |some (.arr e _ l)=>if e<fh then U ⟨.c (.int .i64 l.length),[],[]⟩else V
     |_=>V
    |_=>V
  |_=>V
 |some .string=>match x with
  |.c (.str s)=>U ⟨.c (.int .i64 s.size),[],[]⟩
  |_=>V
 |_=>V
def Ta(P:Program)(d:Nat)(b:Builtin)(e:List TypeId)(vs:List AV)(m:aX):Option Eff:=
 match b,e,vs with
 |.len,[t],[x]=>uC P t x m
 |.append,[t,a],[s,x]=>if t=a then Jw P d t s x m else V
 |.min,_,.c (.int k n)::r=>match uK k n r with
  |some y=>U ⟨.c (.int k y),[],[]⟩
  |none=>V
 |.max,_,.c (.int k n)::r=>match uJ k n r with
  |some y=>U ⟨.c (.int k y),[],[]⟩
  |none=>V
 |_,_,_=>V
def ox:List AV->Option (List AC×List (Nat×Ob))
 |[]=>U ([],[])
 |.c a::r=>match ox r with
  |some (y,_)=>U (a::y,[])
  |none=>V
 |_=>V
def NC:AC->Option ((t:Ty)×List t.q)
 |.sl t l=>U ⟨t,l⟩
 |.slx t l=>U ⟨t,l⟩
 |_=>V
def y9:Bool->List AV->Option (Option Int×List AV)
 |false,r=>U (V,r)
 |true,.c (.int _ n)::r=>U (U n,r)
 |true,_=>V
def NI(P:Program)(d:Nat)(t:TypeId)(n c:Int)(m:aX):Option Eff:=
 match P.underlying t with
 |some (.slice e)=>match P.info? e,mD P 20 e,m d with
  |some i,U a,V=>match i.zero with
   |some z=>match nS (nK z)with
    |some b=>match dec a b with
     |some (x,[])=>if e<cJ/\i.size=a.size/\z.cells.size=a.size/\0<a.size then
       U ⟨.c (.own d),[(d,.arr e a (Lrp n.toNat x))],[0<=n/\n<=c/\c<=maxLen/\c*i.bytes<=140737488355328]⟩else V
     |_=>V
    |none=>V
   |none=>V
  |_,_,_=>V
 |_=>V
def KW(P:Program)(d:Nat)(t:TypeId)(g f mx:Bool)(x:AV)(r:List AV)(m:aX):Option Eff:=
 match g,f,mx,x,r with
 |false,Z,Y,.c (.own id),[.c (.int _ h)]=>match P.underlying t,m id,m d with
  |some (.slice e),U (.arr a b l),V=>if a<cJ/\(P.info? e).isSome=Z/\P.cellsOf e=b.size then
    U ⟨.c (.own d),[(id,.gone),(d,.arr a b (l.take h.toNat))],[0<=h/\h<=l.length]⟩
   else V
  |_,_,_=>V
 |_,_,_,_,_=>V
def iL:AV->Bool
 |.maybe _ _ _=>Y
 |_=>Z
def BS(P:Program)(t:TypeId):Bool:=match P.underlying t with
 |some (.interface _)=>Z
 |_=>Y
def Yr(P:Program)(o:BinOp)(t:TypeId)(y:Operand)(x:AV):Option Bool:=
 match o,y,x with
 |.eql,.const .nilIface,.c (.ic a _ z)=>if BS P t=Z then U (dd a z.1).isNone else V
 |.neq,.const .nilIface,.c (.ic a _ z)=>if BS P t=Z then U (!(dd a z.1).isNone)else V
 |_,_,_=>V
def GK(P:Program)(a:String)(c:TypeId):Option FuncId:=
 match P.info? c,P.underlying c with
 |some i,U (.struct _)=>match i.methods.find? (·.name==a)with
  |some b=>match b.func with
   |some (f,Y)=>if b.path.isEmpty=Z then U f else V
   |_=>V
  |none=>V
 |_,_=>V
def BQ(P:Program)(a:String):List (Int×Nat)->Option (List (Int×Nat))
 |[]=>U []
 |(k,c)::r=>match GK P a c,BQ P a r with
  |some f,U b=>U ((k,f)::b)
  |_,_=>V
def je(i:Int)(l m:List α):List α:=l.take i.toNat++m++l.drop i.toNat
def qaf(a:Gm):AV->Option Row
 |.c (.fn f [])=>a.r f
 |_=>V
def OY(r:Row)(d:Nat)(g:List AV)(m:aX):Option Eff:=
 match r,g,m d with
 |.clone e T f,[.c a],V=>match uD m a with
  |some ⟨k,l⟩=>if h:k=T then if e<cJ then U ⟨.c (.own d),[(d,.arr e T (cY h l))],[l.length<=maxLen,l.length*f<=140737488355328]⟩else V else V
  |none=>V
 |.ins e T f,[.c (.own a),.c (.int .i64 i),.c (.own b)],V=>match m a,m b with
  |some (.arr n k l),U (.arr o s x)=>if h:k=T then if p:s=T then if e<cJ/\n=e/\o=e/\a≠b then
    U ⟨.c (.own d),[(a,.gone),(d,.arr e T (je i (cY h l) (cY p x)))],[0<=i/\i<=l.length,x.length=1,l.length+1<=maxLen/\(l.length+1)*f<=140737488355328]⟩else V else V else V
  |_,_=>V
 |_,_,_=>V
def D7(c:Gm)(n:Int)(b:List AC)(a:List AV):List (Int×Nat)->Option ((T:Ty)×T.q×List Prop)
 |[]=>V
 |(k,f)::r=>match c.r f with
  |some (.upd T i g)=>match dec T b,jp i a with
   |some (x,[]),U y=>match r with
    |[]=>U ⟨T,g x y,[n=k]⟩
    |r=>match D7 c n b a r with
     |some ⟨d,z,e⟩=>if h:d=T then U ⟨T,bif n==k then g x y else K7 h z,[n≠k->az e]⟩else V
     |none=>V
   |_,_=>V
  |_=>V
def KQ(P:Program)(F:Gm)(d:Nat)(S:Op)(vs:List AV)(m:aX):Option Eff:=
 match S,vs with
 |.move _,[x] | .assign _,[x]=>U ⟨x,[],[]⟩
 |.alloc e,[]=>match (P.info? e).bind (·.zero),m d with
  |some z,V=>match nS (nK z)with
   |some w=>U ⟨.c (.ptr d 0),[(d,.box e w)],[]⟩
   |none=>V
  |_,_=>V
 |.box e _,[x]=>match nS x,m d with
  |some w,V=>U ⟨.c (.ptr d 0),[(d,.box e w)],[]⟩
  |_,_=>V
 |.build t G,vs=>match JH P t ((G.toList.map (·.1)).zip vs)with
  |some v=>U ⟨v,[],[]⟩
  |none=>V
 |.buildSlice t n G,vs=>match P.underlying t,m d with
  |some (.slice e),V=>match P.info? e,mD P 20 e,fe m vs with
   |some i,U B,U (N,u)=>if e<cJ/\i.size=B.size/\0<B.size/\n*i.size<=16777216/\G.size=n/\(i.zero.any λz=>z.cells.size==B.size)=Z then match qq B 0 ((G.toList.map (·.1)).zip N)with
     |some l=>if l.length=n then U ⟨.c (.own d),u++[(d,.arr e B l)],[]⟩else V
     |none=>V
    else V
   |_,_,_=>V
  |_,_=>V
 |.load t _,[x]=>GE P t x m
 |.store t _ _,[x,v]=>P8 P t x v m
 |.nilCheck _,[x]=>match x with
  |.c (.ptr id L)=>U ⟨.c (.ptr id L),[],[]⟩
  |.c (.sptr w)=>U ⟨.c (.sptr w),[],[]⟩
  |_=>V
 |.binOp o t _ y0 _,[x,y]=>match Yr P o t y0 x with
  |some v=>U ⟨.c (.bool v),[],[]⟩
  |none=>match J5 P o t x y with
   |some (a,n)=>U ⟨.c a,[],n⟩
   |none=>V
 |.unOp o _ _,[.c (.int k n)]=>match o with
  |.neg=>U ⟨.c (.int k (k.wrap (0-n))),[],[]⟩
  |_=>V
 |.unOp o _ _,[.c (.bool b)]=>match o with
  |.not=>U ⟨.c (.bool (!b)),[],[]⟩
  |_=>V
 |.convert s t _,[.c (.int _ n)]=>match P.underlying s,P.underlying t with
  |some _,U (.int k)=>U ⟨.c (.int k (k.wrap n)),[],[]⟩
  |_,_=>V
 |.makeSlice t _ _,[.c (.int _ n),.c (.int _ c)]=>NI P d t n c m
 |.slice t _ K H mx,x::r=>match KW P d t K.isSome H.isSome mx.isSome x r m with
  |some e=>U e
  |none=>match (if K.isSome=Y/\H.isSome=Y/\mx.isSome=Y then vF P t x m else V)with
  |some e=>U e
  |none=>match P.underlying t,sj m x,y9 K.isSome r with
  |some (.slice e),U (x',u),U (l,W)=>match y9 H.isSome W with
   |some (h,r2)=>match y9 mx.isSome r2 with
    |some (k,[])=>match x' with
     |.c a=>match NC a with
      |some ⟨B,y⟩=>if (P.info? e).isSome/\P.cellsOf e=B.size then match Pu B y l h k with
        |some (z,n)=>U ⟨.c z,u,n⟩
        |none=>V
       else V
      |none=>V
     |_=>V
    |_=>V
   |none=>V
  |_,_,_=>V
 |.fieldAddr s _ f,[x]=>match Mj P s x f with
  |some v=>U ⟨v,[],[]⟩
  |none=>V
 |.field s _ f,[.agg w]=>match xF P s f with
  |some C=>if (P.info? C.type).isSome/\(P.underlying C.type).isSome then match jT w C.offset (if dH P C.type then P.cellsOf C.type else 1)with
    |some l=>match GN (dH P C.type) l with
     |some v=>U ⟨v,[],[]⟩
     |none=>V
    |none=>V
   else V
  |none=>V
 |.indexAddr t _ _,[x,.c (.int _ i)]=>Nn P t x i m
 |.index t _ _,[x,.c (.int _ i)]=>Np P t x i
 |.lookup t _ _ Z,[.c (.mp A),.c (.int .i64 n)]=>match P.underlying t with
  |some (.map k e)=>match P.underlying k,(P.info? e).bind (·.zero)with
   |some (.int .i64),U .nilFunc=>U ⟨.tup [.c (.fs A n),.c (.bool (A.find? (λx=>x.1==n)).isSome)],[],[]⟩
   |_,_=>V
  |_=>V
 |.extract _ i,[.tup vs]=>match vs[i]? with
  |some v=>U ⟨v,[],[]⟩
  |none=>V
 |.typeAssert _ _ M Z,[.c (.ic A _ x)]=>match P.underlying M with
  |some (.struct _)=>if ((P.info? M).bind (·.zero)).isSome=Z then U ⟨.tup [.dead,.c (.bool (dd A x.1==U M))],[],[]⟩else V
  |_=>V
 |.makeFunc (.func f) first _,vs=>if first.size=0 then match (if (F f).isSome then zu m vs else ox vs)with
   |some (D,u)=>U ⟨.c (.fn f D),u,[]⟩
   |none=>V
  else V
 |.call ⟨.builtin b,_,ts⟩,vs=>Ta P d b ts.toList vs m
 |.call ⟨.invoke _ E,_,_⟩,.c (.ic A t x)::g=>match fe m g,BQ P E A with
  |some (p,u),U Q=>match pC F x.1 (eR t x.2::p) Q with
   |some ⟨rs,y,n⟩=>U ⟨lq rs y,u,n⟩
   |none=>V
  |_,_=>V
 |.call ⟨.value _,_,_⟩,.c (.fs A n) :: .c (.ptr id 0)::g=>match m id with
  |some (.box e w)=>match D7 F n w g A with
   |some ⟨T,z,R⟩=>U ⟨.dead,[(id,.box e (enc T z))],R⟩
   |none=>V
  |_=>V
 |.call ⟨.value _,_,_⟩,O::g=>match qaf F O with
  |some r=>OY r d g m
  |none=>match fe m g with
   |some (p,u)=>match K6 F O p with
    |some (v,n)=>U ⟨v,u,n⟩
    |none=>V
   |none=>V
 |_,_=>V
def qa1(c:Gm)(e:TypeId):Option (Nat×Nat):=match c.r (1000000000000+e)with
 |some (.rw b a)=>U (b,a)
 |_=>V
def Pl(e b a:Nat):Bool:=J (vC (fJ e b a)=e/\da (fJ e b a)=b/\mz (fJ e b a)=a/\cJ<=fJ e b a/\fJ e b a<fh/\a<cJ)
def Nq(m:aX)(a:Nat)(t:Ty):AC->Option (List t.q×List (Nat×Ob))
 |.nil=>U ([],[])
 |.own k=>match m k with
  |some (.arr e b l)=>if h:b=t then if e=a then U (cY h l,[(k,.gone)])else V else V
  |_=>V
 |_=>V
def Pr(t:Ty)(a:Nat):Option Ty:=match (enc t t.j)[a]? with
 |some (.sl b _)=>U b
 |_=>V
def JI(P:Program)(k:Gm)(d:Nat)(e:TypeId)(v:AV)(m:aX):Option Eff:=
 match qa1 k e,mD P 20 e,P.info? e,nS v,m d with
 |some (a,b),U f,U i,U g,V=>match Pr f a,g[a]? with
  |some h,U c=>match Nq m b h c with
   |some (l,u)=>match dec f (g.set a (.sl h l))with
    |some (x,[])=>if Pl e a b=Z/\i.size=f.size/\0<f.size/\i.size<=16777216/\(i.zero.any λz=>z.cells.size==f.size)=Z then
      U ⟨.c (.own d),u++[(d,.arr (fJ e a b) f [x])],[]⟩else V
    |_=>V
   |none=>V
  |_,_=>V
 |_,_,_,_,_=>V
def NK(P:Program)(h:Gm)(d:Nat)(t:TypeId)(n c:Int)(m:aX):Option Eff:=
 match P.underlying t with
 |some (.slice e)=>match qa1 h e,P.info? e,mD P 20 e,m d with
  |some (a,b),U i,U f,V=>match i.zero with
   |some z=>match nS (nK z)with
    |some g=>match dec f g,g[a]? with
     |some (x,[]),U .nil=>if Pl e a b=Z/\i.size=f.size/\z.cells.size=f.size/\0<f.size then
       U ⟨.c (.own d),[(d,.arr (fJ e a b) f (Lrp n.toNat x))],[0<=n/\n<=c/\c<=maxLen/\c*i.bytes<=140737488355328]⟩else V
     |_,_=>V
    |none=>V
   |none=>V
  |_,_,_,_=>V
 |_=>V
def ND(P:Program)(d:Nat)(t:TypeId)(id sz i a:Nat)(m:aX):Option Eff:=
 match m id,m d with
 |some (.arr e b l),V=>match (enc b (l.getD i b.j))[a]? with
  |some (.sl g f)=>if cJ<=e/\e<fh/\a=da e/\b.size=sz/\mz e<cJ/\dH P t=Y/\(P.info? t).isSome=Z/\(P.underlying t).isSome=Z then
    U ⟨.c (.own d),[(id,.hole e b l i d),(d,.arr (mz e) g f)],[i<l.length]⟩else V
  |_=>V
 |_,_=>V
def P9(P:Program)(t:TypeId)(id sz i a k:Nat)(m:aX):Option Eff:=
 match m id,m k with
 |some (.hole e b l j _),U (.arr c d f)=>match Pr b a with
  |some g=>if g=d/\c=mz e/\c<cJ/\a=da e/\b.size=sz/\(P.info? t).isSome=Z/\P.cellsOf t=1/\id≠k then
    match dec b ((enc b (l.getD i b.j)).set a (.sl d f))with
    |some (y,[])=>U ⟨.dead,[(k,.gone),(id,.arr e b (l.set i y))],[i<l.length/\i=j]⟩
    |_=>V
   else V
  |none=>V
 |_,_=>V
def Jy(P:Program)(d:Nat)(t:TypeId)(s:AV)(k:Nat)(m:aX):Option Eff:=
 match P.underlying t with
 |some (.slice e)=>match P.info? e,m k,m d with
  |some i,U (.arr a f b),V=>if cJ<=a/\a<fh/\vC a=e/\i.size=f.size/\0<f.size/\(i.zero.any λz=>z.cells.size==f.size)=Z then
   match s with
   |.c .nil=>U ⟨.c (.own d),[(k,.gone),(d,.arr a f b)],[b.length<=maxLen/\b.length*i.bytes<=140737488355328]⟩
   |.c (.own id)=>match m id with
    |some (.arr g u l)=>if h:u=f then if g=a/\id≠k then
      U ⟨.c (.own d),[(id,.gone),(k,.gone),(d,.arr a f (cY h l++b))],[(cY h l).length+b.length<=maxLen/\((cY h l).length+b.length)*i.bytes<=140737488355328]⟩else V else V
    |_=>V
   |_=>V
   else V
  |_,_,_=>V
 |_=>V
def jf(l:List (Int×α))(n:Int)(z:α):α:=match l.find? (λx=>x.1==n)with
 |some x=>x.2
 |none=>z
def eZ:List (Int×α)->Int->α->List (Int×α)
 |[],n,y=>[(n,y)]
 |x::r,n,y=>bif x.1==n then (n,y)::r else x::eZ r n y
def Cf(P:Program)(t:TypeId):Option (TypeId×Ty):=match P.underlying t with
 |some (.map k e)=>match P.underlying k,mD P 20 e with
  |some (.int .i64),U a=>if a.flat=Z/\a.wide=Y then U (e,a)else V
  |_,_=>V
 |_=>V
def NJ(P:Program)(d:Nat)(t:TypeId)(m:aX):Option Eff:=match Cf P t,m d with
 |some (_,a),V=>U ⟨.c (.own d),[(d,.arr fh (.pair (.int .i64) a) [])],[]⟩
 |_,_=>V
def NF(P:Program)(t:TypeId)(id:Nat)(n:Int)(m:aX):Option Eff:=match Cf P t,m id with
 |some (e,c),U (.arr b (.pair (.int .i64) a) l)=>match (P.info? e).bind (·.zero)with
  |some z=>match nX a (nK z)with
   |some d=>if fh<=b/\a=c then U ⟨eR a (jf l n d),[],[]⟩else V
   |none=>V
  |none=>V
 |_,_=>V
def PY(P:Program)(t:TypeId)(id:Nat)(n:Int)(v:AV)(m:aX):Option Eff:=match Cf P t,m id with
 |some (_,c),U (.arr b (.pair (.int .i64) a) l)=>match nX a v with
  |some y=>if fh<=b/\a=c then U ⟨.dead,[(id,.arr b (.pair (.int .i64) a) (eZ l n y))],[l.length<maxLen]⟩else V
  |none=>V
 |_,_=>V
def Nl(P:Program)(t:TypeId)(v:AV):Option Eff:=match P.underlying t,v with
 |some (.pointer _),.c (.ptr id 0)=>U ⟨.c (.ifp t id),[],[]⟩
 |some _,v=>match mD P 20 t with
  |some a=>match nX a v with
   |some x=>U ⟨.c (.ic [(1,t)] a (1,x)),[],[]⟩
   |none=>V
  |none=>V
 |none,_=>V
def Jz(P:Program)(b:TypeId)(ok:Bool)(a:List (Int×Nat))(t:Ty)(x:Int×t.q):Option Eff:=
 match P.underlying b,a with
 |some (.struct _),[(1,_)]=>U ⟨if ok then .tup [eR t x.2,.c (.bool Z)]else eR t x.2,[],[dd a x.1=U b]⟩
 |some (.int _),[(1,_)]=>U ⟨if ok then .tup [eR t x.2,.c (.bool Z)]else eR t x.2,[],[dd a x.1=U b]⟩
 |_,_=>V
def zao(m:aX):AV->Bool
 |.c (.own id)=>match m id with
  |some (.arr e _ _)=>J (cJ<=e)
  |_=>Y
 |_=>Y
def NE(g:Gm)(h:AV)(a:List AV)(m:aX):Option Eff:=if a.any (zao m)then match h,fe m a with
 |.c (.fn f d),U (b,_)=>match g f with
  |some e=>if e.rs.all Ty.flat then match lm g e.ps (b++d.map .c)with
    |some (x,n)=>U ⟨lq e.rs (e.f x),[],n++e.ok x⟩
    |none=>V
   else V
  |none=>V
 |_,_=>V
 else V
def KR(P:Program)(h:Gm)(d:Nat)(p:Op)(z:List AV)(m:aX):Option Eff:=
 match p,z with
 |.buildSlice t n r,[v]=>match P.underlying t with
  |some (.slice e)=>if n=1/\r.toList.map (·.1)=[0]then JI P h d e v m else V
  |_=>V
 |.makeSlice t _ _,[.c (.int _ n),.c (.int _ c)]=>NK P h d t n c m
 |.load t _,[.optr id sz i a]=>ND P d t id sz i a m
 |.store t _ _,[.optr id sz i a,.c (.own k)]=>P9 P t id sz i a k m
 |.call ⟨.builtin .append,_,w⟩,[s,.c (.own k)]=>match w.toList with
  |[t,u]=>if t=u then Jy P d t s k m else V
  |_=>V
 |.makeMap t V,[]=>NJ P d t m
 |.lookup t _ _ Y,[.c (.own id),.c (.int .i64 n)]=>NF P t id n m
 |.mapUpdate t _ _ _,[.c (.own id),.c (.int .i64 n),v]=>PY P t id n v m
 |.makeInterface t _,[v]=>Nl P t v
 |.typeAssert _ _ y ok,[.c (.ic l t x)]=>Jz P y ok l t x
 |.makeFunc (.func f) first g,[.c (.ptr id 0)]=>if first.size=1/\g.size=0 then U ⟨.c (.fb f id),[],[]⟩else V
 |.call ⟨.value _,_,_⟩,o::b=>NE h o b m
 |_,_=>V
def Fg(P:Program)(g:Gm)(d:Nat)(op:Op)(f:List AV)(m:aX):Option Eff:=
 match op with
 |.pick c _ _=>match f with
  |[.c (.bool p),a,b]=>match Cw p (Iz c Z a) (Iz c Y b)with
   |some v=>U ⟨v,[],[]⟩
   |none=>V
  |_=>V
 |op=>if f.all iL then match KR P g d op f m with
   |some e=>U e
   |none=>KQ P g d op f m
  else V
def ya(b:Op)(a:List AV)(m:aX):List Nat:=
 match b with
 |.makeFunc _ _ _=>a.flatMap xR++(a.flatMap xR).flatMap (λi=>qzl (m i))
 |.move _=>[]
 |_=>a.flatMap xR
def l9(a:List Nat)(m:aX):aX:=λi=>if a.contains i then m i else V
def pW(d:Nat->AV):Nat->Tmp->Bool->Option (List (Tmp×Bool×Bool))
 |0,_,_=>V
 |n+1,g,a=>match d g with
  |.c (.bool b)=>U [(g,a,b)]
  |.maybe e f (.c (.bool b))=>match pW d n e f with
   |some l=>U ((g,a,b)::l)
   |none=>V
  |_=>V
def sM(a:List (Tmp×Bool×Bool)):AV->AV
 |.maybe g w v=>if a.any (λx=>x.1==g&&x.2.1==w)then v else .maybe g w v
 |v=>v
def PU(a:List (Tmp×Bool×Bool))(b:List Prop):List Prop:=b.map λp=>a.foldr (λx q=>x.2.2=x.2.1->q) p
structure Ef where
 dst:Option Tmp
 v:AV
 wr:List (Nat×Ob)
 need:List Prop
 rd:List Tmp
 ks:List Nat
def zN(a:Op):List Tmp:=a.operands.toList.filterMap λ
 |.tmp t=>U t
 |_=>V
def rh(b:Nat)(o:Oper):Nat:=b+o.dst.getD 1000000
def fF(P:Program)(k:Gm)(b:Nat)(h:List Oper)(o:Oper)(i:Nat->AV)(m:aX):Option Ef:=
 match o.guard with
 |none=>
  let d:=o.op.operands.toList.map (jq i)
  let c:=rh b o::ya o.op d m
  match Fg P k (rh b o) o.op d (l9 c m)with
  |some e=>U ⟨o.dst,e.v,e.wr,e.need,zN o.op,c⟩
  |none=>V
 |some (j,a)=>
  match (h[j]?).bind (·.dst)with
  |some g=>match pW i 5 g a with
   |some f=>
    let d:=o.op.operands.toList.map λx=>sM f (jq i x)
    let c:=rh b o::ya o.op d m
    match Fg P k (rh b o) o.op d (l9 c m)with
    |some e=>match e.wr with
     |[]=>U ⟨o.dst,.maybe g a e.v,[],PU f e.need,f.map (·.1)++zN o.op,c⟩
     |_=>V
    |none=>V
   |none=>V
  |none=>V
def fX(a:Nat->AV)(d:Option Tmp)(v:AV):Nat->AV:=
 match d with
 |none=>a
 |some t=>λi=>if i=t then v else a i
def Ef.go(e:Ef)(s:St):St:=⟨s.n,fX s.sl e.dst e.v,aB s.mem e.wr,s.gs⟩
def sk(P:Program)(c:Gm)(b:Nat)(a:List Oper):List Oper->St->Option (List Ef×St)
 |[],s=>U ([],s)
 |o::r,s=>match fF P c b a o s.sl s.mem with
  |some e=>match sk P c b a r (e.go s)with
   |some (d,f)=>U (e::d,f)
   |none=>V
  |none=>V
def iK:List Nat->List Oper->List Nat
 |a,[]=>a
 |a,o::r=>iK (a++[o.after.toList.foldr (λe s=>if Region.binds .any e then 2 ^ e.on ||| a.getD e.on 0 ||| s else s) 0]) r
def ss(n:Nat):Nat->List Tmp->List Oper->Bool
 |_,_,[]=>Z
 |k,W,o::r=>
  (match o.dst with
   |some t=>J (t<n) && !W.contains t
   |none=>Z) &&
  (match o.guard with
   |some (j,_)=>J (j<k)&&o.after.toList.any λe=>e.on==j&&Region.binds .any e
   |none=>Z) &&
  (o.after.toList.all λe=>!Region.binds .any e || J (e.on<k)) &&
  ss n (k+1) (o.dst.toList++W) r
def me(e f:Ef):Bool:=
 (match e.dst with
  |some t=>!f.rd.contains t&&(f.dst != U t)
  |none=>Z) &&
 (match f.dst with
  |some t=>!e.rd.contains t
  |none=>Z) &&
 e.wr.all (λx=>!f.ks.contains x.1&&f.wr.all λy=>x.1 != y.1) &&
 f.wr.all λy=>!e.ks.contains y.1
def GW(k:Nat)(a:Nat)(f:Ef):Nat->List Ef->Bool
 |_,[]=>Z
 |i,e::r=>if i<k then (a.testBit i || me e f)&&GW k a f (i+1) r else Z
def uN(c:List Oper)(b:List Ef):Bool:=
 let d:=iK [] c
 (List.range b.length).all λk=>match b[k]?,d[k]? with
  |some f,U a=>GW k a f 0 b
  |_,_=>Y
def kx(a:Nat->AV):Nat->AV:=λi=>match a i with
 |.maybe _ _ _=>.dead
 |v=>v
inductive XE where
 |normal
 |exit (id:Nat)
 |ret
 |panic (p:PV)
 |val (v:AV)
 |jump (l:Nat)
inductive Tr where
 |leaf (e:XE) (s:St)
 |br (b:Bool) (x y:Tr)
 |need (p:Prop) (x:Tr)
 |two (p:Prop) (x y:Tr)
def Tr.bind(f:St->Option Tr):Tr->Option Tr
 |.leaf .normal s=>f s
 |.leaf e s=>U (.leaf e s)
 |.br b x y=>match x.bind f,y.bind f with
  |some a,U c=>U (.br b a c)
  |_,_=>V
 |.need p x=>match x.bind f with
  |some a=>U (.need p a)
  |none=>V
 |.two p x y=>match x.bind f,y.bind f with
  |some a,U c=>U (.two p a c)
  |_,_=>V
def Tr.bindV(f:AV->St->Option Tr):Tr->Option Tr
 |.leaf (.val v) s=>f v s
 |.leaf (.panic p) s=>U (.leaf (.panic p) s)
 |.leaf _ _=>V
 |.br b x y=>match x.bindV f,y.bindV f with
  |some a,U c=>U (.br b a c)
  |_,_=>V
 |.need p x=>match x.bindV f with
  |some a=>U (.need p a)
  |none=>V
 |.two p x y=>match x.bindV f,y.bindV f with
  |some a,U c=>U (.two p a c)
  |_,_=>V
def Tr.block(id:Nat):Tr->Tr
 |.leaf (.exit i) s=>if i=id then .leaf .normal s else .leaf (.exit i) s
 |.leaf e s=>.leaf e s
 |.br b x y=>.br b (x.block id) (y.block id)
 |.need p x=>.need p (x.block id)
 |.two p x y=>.two p (x.block id) (y.block id)
def Tr.scope:Tr->Tr
 |.leaf (.jump _) s=>.need False (.leaf .ret s)
 |.leaf (.val _) s=>.need False (.leaf .ret s)
 |.leaf e s=>.leaf e s
 |.br b x y=>.br b x.scope y.scope
 |.need p x=>.need p x.scope
 |.two p x y=>.two p x.scope y.scope
def cD:Code->Nat
 |.loop _=>1
 |.seq a b=>cD a+cD b
 |.cond _ a b=>cD a+cD b
 |.block _ c=>cD c
 |.scope c=>cD c
 |_=>0
def needL(a:List Prop)(t:Tr):Tr:=a.foldr (λp t=>.need p t) t
def NX(a:List Ef)(t:Tr):Tr:=a.foldr (λe t=>needL e.need t) t
def gS(s:St):St:=⟨s.n,kx s.sl,s.mem,s.gs⟩
def Hy(P:Program)(f:Gm)(b:Nat)(a:List Oper)(c:Bool)(s:St):Option Tr:=
 if ss s.n 0 [] a then match sk P f b a a s with
  |some (d,e)=>if c=Y\/uN a d=Z then U (NX d (.leaf .normal (gS e)))else V
  |none=>V
 else V
structure Cx where
 Γ:Gm
 Pi:FuncId->Option Pc
 K:Nat->FuncId->List AV->St->Option Tr
def NS(P:Program)(a:String)(e:TypeId):Option (FuncId×Bool):=
 match P.info? e,P.underlying e with
 |some i,U (.pointer b)=>match i.methods.find? (·.name==a)with
  |some c=>match c.func with
   |some (f,d)=>if c.path.isEmpty=Z/\(d=Z\/((P.info? b).isSome=Z/\(P.underlying b).isSome=Z/\dH P b=Y))then U (f,!d)else V
   |none=>V
  |none=>V
 |_,_=>V
def Da(P:Program)(C:Cx)(b:Nat)(o:Oper)(s:St):Option Tr:=
 match o.guard,o.op,o.op.operands.toList.map (jq s.sl)with
 |none,.call ⟨.value _,_,_⟩,.c (.fn f d)::a=>match C.Pi f with
  |some e=>match fe s.mem (a++d.map .c)with
   |some (i,u)=>match lm C.Γ e.ps i with
    |some (x,n)=>U (needL (n++e.ok x) (.br (e.bad x) (.leaf (.panic (e.pv x)) (gS ⟨s.n,s.sl,aB s.mem u,s.gs⟩)) (.leaf (.val (lq e.rs (e.f x))) (gS ⟨s.n,s.sl,aB s.mem u,s.gs⟩))))
    |none=>V
   |none=>V
  |none=>if a.all iL then C.K (rh b o) f (a++d.map .c) (gS s)else V
 |none,.call ⟨.value _,_,_⟩,.c (.fb f id)::a=>if a.all iL then C.K (rh b o) f (.c (.ptr id 0)::a) (gS s)else V
 |none,.call ⟨.invoke _ g,_,_⟩,.c (.ifp h id)::a=>match NS P g h with
  |some (f,Z)=>match s.mem id with
   |some (.box _ [.own r])=>if a.all iL then C.K (rh b o) f (.c (.own r)::a) (gS s)else V
   |_=>V
  |some (f,Y)=>if a.all iL then C.K (rh b o) f (.c (.ptr id 0)::a) (gS s)else V
  |none=>V
 |none,.binOp .eql t _ _ _,[.c (.sl _ l),.c .nil]=>if P.underlying t matches U (.slice _)then
   U (.two (l=[]) (.leaf (.val (.c (.bool Z))) (gS s)) (.leaf (.val (.c (.bool Y))) (gS s)))else V
 |_,_,_=>V
def yz(P:Program)(C:Cx)(b:Nat)(a:List Oper):List Oper->St->Option Tr
 |[],s=>U (.leaf .normal (gS s))
 |o::r,s=>match fF P C.Γ b a o s.sl s.mem with
  |some e=>match yz P C b a r (e.go s)with
   |some t=>U (needL e.need t)
   |none=>V
  |none=>match Da P C b o s with
   |some t=>t.bindV λv c=>yz P C b a r ⟨c.n,fX c.sl o.dst v,c.mem,c.gs⟩
   |none=>V
def yb(a:List (Tmp×Bool))(t:Tmp):Option Bool:=match a with
 |[]=>V
 |(x,v)::r=>if x=t then U v else yb r t
def El(a:List (Tmp×Bool)):Operand->Option Bool
 |.tmp t=>yb a t
 |.const (.bool c)=>U c
 |_=>V
def MM(a:List (Tmp×Bool)):Op->Option Operand
 |.move x=>U x
 |.pick c x y=>match El a c with
  |some Z=>U x
  |some Y=>U y
  |none=>V
 |_=>V
def Gb(o:Oper):Oper:=⟨o.dst,o.op,o.type,o.pos,o.after,V⟩
def yy(P:Program)(C:Cx)(b:Nat)(g:List Oper)(a:List (Tmp×Bool))(o:Oper)(s:St)(k:List (Tmp×Bool)->St->Option Tr):Option Tr:=
 match MM a o.op,o.dst with
 |some x,U d=>match El a x with
  |some c=>k ((d,c)::a) ⟨s.n,fX s.sl (U d) (.c (.bool c)),s.mem,s.gs⟩
  |none=>match jq s.sl x with
   |.maybe _ _ _=>V
   |v=>k a ⟨s.n,fX s.sl (U d) v,s.mem,s.gs⟩
 |_,_=>match fF P C.Γ b g (Gb o) s.sl s.mem with
  |some e=>match k a (e.go s)with
   |some t=>U (needL e.need t)
   |none=>V
  |none=>match Da P C b (Gb o) s with
   |some t=>t.bindV λv f=>k a ⟨f.n,fX f.sl o.dst v,f.mem,f.gs⟩
   |none=>V
def ni(P:Program)(C:Cx)(b:Nat)(a:List Oper):List (Tmp×Bool)->List Oper->St->Option Tr
 |_,[],s=>U (.leaf .normal (gS s))
 |e,o::r,s=>match o.guard with
  |none=>yy P C b a e o s λe s=>ni P C b a e r s
  |some (j,d)=>match (a[j]?).bind (·.dst)with
   |none=>V
   |some g=>match yb e g with
    |some v=>if v=d then yy P C b a e o s λe s=>ni P C b a e r s
     else ni P C b a e r ⟨s.n,fX s.sl o.dst .dead,s.mem,s.gs⟩
    |none=>match s.sl g with
     |.c (.bool p)=>match yy P C b a ((g,d)::e) o s λe s=>ni P C b a e r s,ni P C b a ((g,!d)::e) r ⟨s.n,fX s.sl o.dst .dead,s.mem,s.gs⟩with
      |some x,U y=>U (.br p (if d then x else y) (if d then y else x))
      |_,_=>V
     |_=>V
def Gc(m:aX)(id:Nat):aX:=match oO m (.own id)with
 |some (_,u)=>aB m u
 |none=>m
def BI(s:St):St:=⟨s.n,s.sl,((List.range s.n).flatMap λt=>match s.sl t with
 |.c (.ptr id 0)=>match s.mem id with
  |some (.box _ a)=>a.flatMap og
  |_=>[]
 |_=>[]).foldl Gc s.mem,s.gs⟩
def ztg(m:aX)(id:Nat):aX:=match m id with
 |some (.hole e a l i k)=>match m k with
  |some (.arr b c d)=>match Pr a (da e)with
   |some f=>if f=c/\b=mz e/\b<cJ/\id≠k then
     match dec a ((enc a (l.getD i a.j)).set (da e) (.sl c d))with
     |some (y,[])=>aB m [(k,.gone),(id,.arr e a (l.set i y))]
     |_=>m
    else m
   |none=>m
  |_=>m
 |_=>m
def zwb(s:St):St:=⟨s.n,s.sl,(List.range s.n).foldl ztg s.mem,s.gs⟩
def cQ(P:Program)(C:Cx)(f:Nat)(g:Nat->St->Option Tr):Code->Nat->St->Option Tr
 |.skip,_,s=>U (.leaf .normal s)
 |.ret,_,s=>U (.leaf .ret s)
 |.exit id,_,s=>U (.leaf (.exit id) s)
 |.region _ d e,_,s=>match Hy P C.Γ f d.toList e s with
  |some t=>U t
  |none=>match (if e=Y/\ss s.n 0 [] d.toList=Z then yz P C f d.toList d.toList s else V)with
   |some t=>U t
   |none=>match (if e=Y/\ss s.n 0 [] d.toList=Z then ni P C f d.toList [] d.toList s else V)with
    |some t=>U t
    |none=>match Hy P C.Γ f d.toList e (BI s)with
     |some t=>U t
     |none=>U (.need False (.leaf .ret s))
 |.seq a b,k,s=>match cQ P C f g a k s with
  |some t=>t.bind (cQ P C f g b (k+cD a))
  |none=>V
 |.cond c a b,k,s=>match jq s.sl c with
  |.c (.bool p)=>match cQ P C f g a k s,cQ P C f g b (k+cD a) s with
   |some x,U y=>U (.br p x y)
   |_,_=>V
  |_=>V
 |.block id c,k,s=>match cQ P C f g c k s with
  |some t=>U (t.block id)
  |none=>V
 |.loop _,k,s=>match g k s with
  |some t=>U t
  |none=>U (.need False (.leaf .ret s))
 |.scope c,k,s=>match cQ P C f g c k s with
  |some t=>U t.scope
  |none=>V
 |.label _,_,s=>U (.leaf .normal s)
 |.goto l,_,s=>U (.leaf (.jump l) s)
 |_,_,s=>U (.need False (.leaf .ret s))
def vL(n:Nat)(a:List AV):St:=⟨n,λi=>a.getD i .dead,λ_=>V,λ_=>.dead⟩
def St.at(s:St)(t:Nat):AV:=if t<10000 then s.sl t else s.gs (t-10000)
def ZS(P:Program)(s:St):ResultVar->Option (AV×List Prop)
 |.tmp t=>U (s.sl t,[])
 |.cell a t=>match s.sl a with
  |.c (.ptr id b)=>match GE P t (.c (.ptr id b)) s.mem with
   |some e=>U (e.v,e.need)
   |none=>V
  |_=>V
def ji(P:Program)(s:St):List ResultVar->Option (List AV×List Prop)
 |[]=>U ([],[])
 |r::a=>match ZS P s r,ji P s a with
  |some (v,n),U (b,k)=>U (v::b,n++k)
  |_,_=>V
def vB:List AV->AV
 |[v]=>v
 |vs=>.tup vs
def St.back(n:Nat)(s:St):St:=⟨n,λt=>if t<10000 then s.gs t else .dead,s.mem,λt=>s.gs (t+10000)⟩
def ja(P:Program)(a:List ResultVar)(n:Nat):Tr->Option Tr
 |.leaf .ret s=>match ji P s a with
  |some (e,d)=>U (needL d (.leaf (.val (vB e)) (s.back n)))
  |none=>V
 |.leaf .normal s=>match ji P s a with
  |some (e,d)=>U (needL d (.leaf (.val (vB e)) (s.back n)))
  |none=>V
 |.leaf (.panic p) s=>U (.leaf (.panic p) (s.back n))
 |.leaf _ _=>V
 |.br b x y=>match ja P a n x,ja P a n y with
  |some c,U f=>U (.br b c f)
  |_,_=>V
 |.need p x=>match ja P a n x with
  |some c=>U (.need p c)
  |none=>V
 |.two p x y=>match ja P a n x,ja P a n y with
  |some c,U f=>U (.two p c f)
  |_,_=>V
def iJ(P:Program)(C:Cx)(e:FuncId->Option (Func×(Nat->St->Option Tr)))(d:Nat)(f:FuncId)(a:List AV)(s:St):Option Tr:=
 match e f with
 |some (b,g)=>match b.body with
  |some c=>if a.length<=b.ntmps/\(b.name == "runtime.NumGoroutine")=Y then
    match cQ P C ((d+1)*10000) g c 0 ⟨b.ntmps,λi=>a.getD i .dead,s.mem,s.at⟩with
    |some t=>ja P b.results.toList s.n t
    |none=>V
   else V
  |none=>V
 |none=>V
section
variable (P:Program) (w:World) (F:Nat->Prop) (R:Nat->Value->Prop)
def bI:List AV->List Value->Prop
 |[],[]=>True
 |a::r,v::s=>aK P w F R a v/\bI r s
 |_,_=>False
end
def ZP:{a:List Value} -> {b:List AV}->bI P w F R b a->nG P w F R b (λj u=>a[j]?= U u)
 |[],[],_=>trivial
 |u::a,v::b,h=>⟨⟨u,rfl,h.1⟩,by simpa using ZP h.2⟩
 |[],_::_,h=>h.elim
 |_::_,[],h=>h.elim
def wz(P:Program)(B:Nat)(o:Oper)(a:Act)(w:World)(F:Nat->Prop)(f:Nat->Value)(M:aX)(v:AV)(e:List (Nat×Ob)):Prop:=
 ∀ (K:Act->World->Prop) (Q:Exit->Act->World->Prop),
  (∀ u c d b,Step B w F f M c d b (aB M e)->MemOK P B c d b (aB M e)->aK P c d (av (aB M e) b) v u->K (a.put o.dst u) c)->o.wp P a w K Q
section
variable {P:Program} {B:Nat} {o:Oper} {a:Act} {w w':World} {F F':Nat->Prop} {γ γ':Nat->Value} {M m:aX} {R:Nat->Value->Prop}
def jW{v:AV}{b:List (Nat×Ob)}(f:(execOp a.eval o).run P w=.ok (.value u) w')(g:Step B w F γ M w' F' γ' (aB M b))(e:MemOK P B w' F' γ' (aB M b))(d:aK P w' F' (av (aB M b) γ') v u):wz P B o a w F γ M v b:=by intro K Q c;unfold Oper.wp;rw[f];exact c u w' F' γ' g e d
def eo{v:AV}(e:MemOK P B w F γ M)(d:∀ b,F b->b<w.heap.size)(f:(execOp a.eval o).run P w=.ok (.value u) w)(c:aK P w F (av M γ) v u):wz P B o a w F γ M v []:=
 jW f (Step.refl d) e c
def aS.drop_{a:List AC}(h:aS P w F R a g)(n:Nat):aS P w F R (a.drop n) (λj u=>g (n+j) u):=
 mF _ λj c b=>h.at_ (by rw[<- b,ub1])
def aS.take_{a:List AC}(h:aS P w F R a g)(n:Nat):aS P w F R (a.take n) g:=
 mF _ λj c b=>h.at_ (by rw[ub2]at b;split at b<;>simp_all)
def aS.turn{a:List AC}{g':Nat->Value->Prop}(h:aS P w F R a g)(f:∀ j u,j<a.length->g j u->g' j u):aS P w F R a g':=
 mF _ λj c b=>by obtain⟨u,d,e⟩:=h.at_ b;exact⟨u,f j u (uak.1 b).1 d,e⟩
def aS.vals:(cs:List AC) -> {g:Nat->Value->Prop}->aS P w F R cs g->∃ b:List Value,b.length=cs.length/\(∀ j u,b[j]?= U u->g j u)/\aS P w F R cs (λj u=>b[j]?= U u)/\∀ u∈b,u.oneCell'=Z
 |[],_,_=>⟨[],rfl,λj u h=>by simp at h,uT,λu h=>by simp at h⟩
 |c::r,g,h=>by
  obtain⟨⟨u,l,d,m⟩,n⟩:=h;obtain⟨b,e,f,i,k⟩:=aS.vals r n;refine⟨u::b,by simp[e],λj v a=>?_,⟨⟨u,rfl,d,m⟩,by simpa using i⟩,λv a=>?_⟩;cases j with
  |zero=>simp at a;subst a;exact l
  |succ j=>exact f j v (by simpa using a)
  rcases uej.1 a with rfl|a
  exact d;exact k v a
def xL{a l:List AC}(h:jT a off n=U l)(b:aS P w F R a g):l.length=n/\aS P w F R l (λj u=>g (off+j) u):=by unfold jT at h;split at h;cases h;exact⟨by simp;omega,(b.drop_ off).take_ n⟩;cases h
def nM{id:Nat}{c:List AC}(l:MemOK P B w F γ M)(f:M id=U (.box e c))(h:bx P w F (av M γ) (.ptr id off) v):
  ∃ b arr,γ id=.pointer (U ⟨b,0,V⟩)/\v=.pointer (U ⟨b,off,V⟩)/\w.heap[b]?= U (.cells arr e (0,0))/\¬ F b/\B<=b/\arr.size=c.length/\aS P w F (av M γ) c (λj u=>arr[j]?= U u):=by
 obtain⟨b,arr,d,i⟩:=l.ob id _ f;obtain⟨g,a,k⟩:=h;unfold av at a;rw[f]at a;simp only[d,ubt,ucl,Addr.mk.injEq,and_true]at a;subst a;exact⟨g,arr,d,k,i⟩
def L4{id:Nat}{c:List AC}(k:MemOK P B w F γ M)(d:M id=U (.fbox c))(h:bx P w F (av M γ) (.ptr id off) v):
  ∃ b,v=.pointer (U ⟨b,off,V⟩)/\F b/\aS P w F (av M γ) c (λj u=>w.cell? ⟨b,j,V⟩=U u):=by
 obtain⟨b,f,g⟩:=k.ob id _ d;obtain⟨e,a,i⟩:=h;unfold av at a;rw[d]at a;simp only[f,ubt,ucl,Addr.mk.injEq,and_true]at a;subst a;exact⟨e,i,g⟩
def fV{id:Nat}{o:Ob}(a:M id=U o)(b:o ≠ .gone)(h:bx P w F (av M γ) (.own id) v):v=γ id:=by simp only[bx]at h;unfold av at h;cases o<;>simp_all
def pn(a:Addr)(i j:Nat):(a.add i).add j=a.add (i+j):=by unfold Addr.add;by_cases b:i=0<;>by_cases c:j=0<;>simp[b,uei]
def kq(b a j:Nat):(⟨b,a,V⟩:Addr).add j=⟨b,a+j,V⟩:=by unfold Addr.add;split<;>simp_all
def xg{a:Nat×Nat}(h:w.heap[b]?= U (.cells arr e a))(j:Nat):w.cell? ⟨b,j,V⟩=arr[j]? := by simp[World.cell?,h]
def zlv{t:Ty}{l:List t.q}(h:cy w F t l xs)(a:i<l.length):aS P w F R (enc t (l.getD i t.j)) (λj u=>xs[i*t.size+j]?= U u):=by have:=h i (l.getD i t.j) (by simp[uaq a]);exact aG.enc t _ this
def qbg{t:Ty}{l:List t.q}(h:aG w F (.sl t) l (λ_ u=>u=v))(f:i<l.length):
  ∃ ad c,v=.slice (U ad) l.length c/\F ad.block/\aS P w F R (enc t (l.getD i t.j)) (λj u=>w.cell? ((ad.add (i*t.size)).add j)=U u):=by
 obtain⟨A,c,a,k,m,b⟩:=h;have g:l[i]?= U (l.getD i t.j):=by simp[uaq f]
 obtain⟨ad,rfl,e,d⟩:=b i _ g;exact⟨ad,c,a.symm,e,(aG.enc t _ d).turn λj u _ h=>by rw[pn];exact h⟩
def Sg{id:Nat}{t:Ty}{l:List t.q}(v:MemOK P B w F γ M)(n:M id=U (.arr ety t l))(p:ety<cJ)(s:i<l.length):
  ∃ b c arr,γ id=.slice (U ⟨b,0,V⟩) l.length c/\w.heap[b]?= U (.cells arr ety (0,0))/\¬ F b/\B<=b/\(i+1)*t.size<=arr.size /\
   aS P w F (av M γ) (enc t (l.getD i t.j)) (λj u=>arr[i*t.size+j]?= U u):=by
 obtain⟨E,h,k,m,z⟩:=iT.of (v.ob id _ n) p;obtain⟨C,D|⟨b,d,e,g,o,r,x,_,f,y⟩⟩:=h;omega;refine⟨b,d,e,g,r,k b (by rw[g];rfl),o,?_,(zlv m s).turn λj u A a=>?_⟩;rw[f];exact ube _ (by omega);rw[<- y,ub2]at a;split at a;simpa using a;cases a
def Gx:{d:List AC} -> {a:List Int}->rD k d=U a->d=a.map (.int k)
 |[],a,h=>by simp[rD]at h;subst h;rfl
 |c::r,a,h=>by
  unfold rD at h;split at h
  simp_all
  rename_i g n l e;cases e;split at h;rename_i f;subst f;cases b:rD k r with
  |none=>rw[b]at h;simp at h
  |some i=>rw[b]at h;simp at h;subst h;rw[Gx b];rfl
  cases h;cases h
def Vj{i:Int}{p:Int×Nat}:{cs:List AC} -> {k:Int}->(lv k cs).find? (λx=>x.1==i)=U p->k<=i/\cs[(i-k).toNat]?= U (.fn p.2 [])
 |[],_,h=>by simp[lv]at h
 |c::r,k,h=>by
  have a:(lv (k+1) r).find? (λx=>x.1==i)=U p->k<=i/\(c::r)[(i-k).toNat]?= U (.fn p.2 []):=λb=>by obtain⟨o,l⟩:=Vj b;refine⟨by omega,?_⟩;rw[show(i-k).toNat=(i-(k+1)).toNat+1 by omega];simpa using l
  by_cases g:∃ f,c=.fn f [];obtain⟨f,rfl⟩:=g;have b:((k,f)::lv (k+1) r).find? (λx=>x.1==i)=U p:=h;rw[List.find?_cons]at b;split at b;rename_i n;have e:k=i:=by simpa using n
  cases b;rw[e];exact⟨ufc _,by simp⟩;exact a b;have m:lv k (c::r)=lv (k+1) r:=by
   cases c with
   |fn f d=>cases d with
    |nil=>exact absurd ⟨f,rfl⟩ g
    |cons _ _=>rfl
   |_=>rfl
  rw[m]at h;exact a h
def O4{m b:List AC}{i:Int}{v:List Prop}(h:AS.pickI m n i=U (b,v))(E:az v)(t:aS P w F R m (λj u=>w.cell? (ad.add j)=U u))(G:0<=i)(H:i<n):
  aS P w F R b (λj u=>w.cell? ((ad.add i.toNat).add j)=U u):=by
 unfold AS.pickI at h;split at h;rename_i k bz D a;split at h;rename_i y l;obtain⟨rfl,_⟩:=h;obtain⟨r,g⟩:=xL a t;have B:=Gx l;subst B;have C:i.toNat<y.length:=by simp at r;omega
 obtain⟨u,d,e,f⟩:=g.at_ (j:=i.toNat) (c:=.int k (y.getD i.toNat 0)) (by simp[uaq C]);exact⟨⟨u,by show w.cell? ((ad.add i.toNat).add 0)=U u;rw[pn];simpa using d,e,f⟩,uT⟩;cases h;rename_i bz D a;split at h<;>try trivial
 cases h;obtain⟨p,s⟩:=uar.1 E;obtain⟨r,g⟩:=xL a t;obtain⟨K,o⟩:=Vj s;rw[ues]at o;obtain⟨u,d,e,L,f,z,_⟩:=g.at_ o;have A:=Array.size_eq_zero_iff.mp z;subst A;refine⟨⟨u,by show w.cell? ((ad.add i.toNat).add 0)=U u;rw[pn];simpa using d,e,?_⟩,uT⟩;show u=jS ((lv 0 bz).find? (λx=>x.1==i));rw[s,f];rfl;cases h
def Te{x:AV}{R:List AC}{n:List Prop}(C:MemOK P B w F γ M)(d:∀ i y,m i=U y->M i=U y)(h:AS m x=U (R,n))(E:az n)(G:aK P w F (av M γ) x v):
  ∃ ad,v=.pointer (U ad)/\aS P w F (av M γ) R (λj u=>w.cell? (ad.add j)=U u):=by
 unfold AS at h;split at h;rename_i id f;split at h;rename_i e r a;cases h;obtain⟨b,D,_,g,N,_,_,_,s⟩:=nM C (d _ _ a) G.2;exact⟨_,g,(s.drop_ f).turn λj u _ p=>by rw[kq,xg N];exact p⟩;rename_i r a;cases h;obtain⟨b,g,_,s⟩:=L4 C (d _ _ a) G.2;exact⟨_,g,(s.drop_ f).turn λj u _ p=>by rw[kq];exact p⟩;cases h;rename_i r;cases h;obtain⟨_,ad,g,_,s⟩:=G;exact⟨ad,g,s⟩;rename_i id sz i f;obtain⟨A,n0,c0,o,T⟩:=G;split at h;rename_i e t l a;split at h;rename_i z;cases h;obtain⟨b,c,D,H,S,_,_,_,e6⟩:=Sg C (d _ _ a) z.1 E;unfold av at o;rw[d _ _ a]at o;simp only[H,ucl]at o;obtain⟨rfl,_,_⟩:=o;refine⟨_,T,(e6.drop_ f).turn λj u _ p=>?_⟩;rw[pn,kq,xg S,<- p,<- z.2];congr 1;omega;cases h;rename_i t l a;split at h;rename_i z;cases h;have O:=C.ob id _ (d _ _ a);obtain⟨ad,c,H,S,e3⟩:=qbg O E;unfold av at o;rw[d _ _ a]at o;simp only[H,ucl]at o;obtain⟨rfl,_,_⟩:=o;refine⟨_,T,(e3.drop_ f).turn λj u _ p=>?_⟩;rw[pn]at p |-;rw[<- p,<- z];congr 2;omega;cases h;cases h;rename_i Q k i;obtain⟨ad,K,L,o,rfl⟩:=G;refine⟨_,rfl,?_⟩;split at h;rename_i id f;split at h;rename_i e r a;obtain⟨b,D,_,g,N,_,_,_,s⟩:=nM C (d _ _ a) K;simp at g;subst g;exact O4 h E ((s.drop_ f).turn λj u _ p=>by rw[kq,xg N];exact p) L o;rename_i r a;obtain⟨b,g,_,s⟩:=L4 C (d _ _ a) K;simp at g;subst g;exact O4 h E ((s.drop_ f).turn λj u _ p=>by rw[kq];exact p) L o;cases h;rename_i r;obtain⟨W,g,_,s⟩:=K;simp at g;subst g;exact O4 h E s L o;cases h;cases h
def CV{d:TypeDesc}(h:P.underlying t=U d):(isAgg t).run P w=.ok (dH P t) w:=by unfold isAgg dH;rw[uet,ud6 h];cases d<;>simp[h]
def jj{i:TypeInfo}(h:P.info? t=U i):(sizeOf t).run P w=.ok (P.cellsOf t) w:=by simp[sizeOf,typeInfo,h,Program.cellsOf]
def XF{x:AV}{e:Eff}(H:MemOK P B w F γ M)(b:∀ i y,m i=U y->M i=U y)(h:GE P t x m=U e)(K:az e.need)(L:aK P w F (av M γ) x v):
  e.wr=[]/\∃ u,(Instr.loadAt t v).run P w=.ok u w/\aK P w F (av M γ) e.v u:=by
 unfold GE at h;split at h;rename_i W n c;split at h;rename_i G;obtain⟨i,p⟩:=uar.1 G.1;obtain⟨d,E⟩:=uar.1 G.2;split at h;rename_i z;split at h;rename_i l S;cases h;obtain⟨f,rfl,R⟩:=Te H b c K L;obtain⟨g,o⟩:=xL S R;obtain⟨C,D,O,Q,_⟩:=o.vals;refine⟨rfl,.agg C.toArray,?_,C.toArray,rfl,by simpa using D,by simpa using Q⟩;have s:=run_loadCells_list (P:=P) w f C (λj u T=>by have:=O j u T;simpa using this);simp[Instr.loadAt,Instr.sureAddr,loadVar,CV E,z,jj p,<- g,<- D,s];cases h;rename_i z;split at h;rename_i a r;cases h;obtain⟨f,rfl,⟨u,g,o,N⟩,_⟩:=Te H b c K L;refine⟨rfl,u,?_,o,N⟩;have k:w.cell? f=U u:=by simpa[Addr.add]using g
 have A:dH P t=false:=by simpa using z
 simp[Instr.loadAt,Instr.sureAddr,loadVar,CV E,A,Sem.run,k];cases h;cases h;cases h
end
def iQ(k:IntKind)(n:Int):inR k (k.wrap n):=by unfold inR IntKind.wrap IntKind.min IntKind.max;cases k<;>simp[IntKind.signed,IntKind.bits]<;>first|omega|(split<;>omega)
def DE(k:IntKind):k.min<=0/\0<=k.max:=by cases k<;>simp[IntKind.min,IntKind.max,IntKind.signed,IntKind.bits]
def zqc(k:IntKind){b:Int}(d:inR k a):inR k (a.tmod b):=by
 have f:=DE k;have e:(a.tmod b).natAbs<=a.natAbs:=by rw[Int.natAbs_tmod];exact Nat.mod_le _ _
 unfold inR at *;rcases Int.le_total 0 a with h|h
 have c:=Int.tmod_nonneg b h;omega;have c:0<=(-a).tmod b:=Int.tmod_nonneg b (by omega);rw[Int.neg_tmod]at c;omega
def qsn(k:IntKind)(n:Nat)(g:inR k a):inR k (a.fdiv (2 ^ n)):=by
 have i:=DE k;have d:(0:Int)<2 ^ n:=Int.pow_pos (by omega);rw[uag _ (by omega)];unfold inR at *;rcases Int.le_total 0 a with h|h
 have e:=udl h (ueu d);have f:=Int.ediv_le_self (2 ^ n) h;omega;have e:=Int.ediv_nonpos_of_nonpos_of_neg h (by omega);have f:a<=a/2 ^ n:=by refine Int.le_ediv_of_mul_le d ?_;have:=Int.mul_le_mul_of_nonpos_left (b:=2 ^ n) (c:=1) h (by omega);omega
 omega
section
variable {P:Program} {B:Nat} {o:Oper} {a:Act} {w w':World} {F F':Nat->Prop} {γ γ':Nat->Value} {M m:aX} {R:Nat->Value->Prop}
def zv{i:TypeInfo}{d:TypeDesc}(b:P.underlying t=U d)(c:P.info? t=U i)(a:off+(if dH P t then P.cellsOf t else 1)<=cs.size):
  (part t cs off).run P w=.ok (if dH P t then .agg (cs.extract off (off+P.cellsOf t))else cs.getD off undef) w:=by
 unfold part;rw[uet,CV b];cases e:dH P t;simp only[e]at a;have:off<cs.size:=by simp at a;omega
 simp[this];simp[jj c]
def Cv{a l:List AC}(f:n=if dH P t then P.cellsOf t else 1)(p:cs.size=a.length)(g:aS P w F R a (λj u=>cs[j]?= U u))(h:jT a off n=U l):
  off+n<=cs.size/\∃ b:List Value,b.length=l.length/\aS P w F R l (λj u=>b[j]?= U u)/\(if dH P t then .agg (cs.extract off (off+P.cellsOf t))else cs.getD off undef)=(if dH P t then .agg b.toArray else b.headD undef)/\l.length=n:=by
 have e:off+n<=a.length:=by unfold jT at h;split at h;assumption;cases h
 obtain⟨c,d⟩:=xL h g;refine⟨by omega,(cs.toList.drop off).take n,by rw[uc5,uc6,c,ubu];omega,d.turn λj u o i=>?_,?_,c⟩;have:j<n:=by omega
 rw[ub2,ufw this,ub1];simpa using i;subst f;split;congr 1;rw[<- uc7];simp[List.extract];rename_i k;have m:off+1<=a.length:=by simpa[k]using e
 have:off<cs.size:=by omega
 simp[Array.getD,this];rw[ual (by simpa using this)];simp
def xw(d:Nat)(e:TypeId)(n:Nat)(c f:Array Value):List Nat->Sem Bool
 |[]=>pure Z
 |i::r=>do
  let a <- part e c (i*n)
  let b <- part e f (i*n)
  let q <- Op.equalIn d e a b
  if (!q)=Z then pure Y else xw d e n c f r
def zl0(d:Nat)(t e:TypeId)(c:Nat){v:TypeInfo}(f g:Array Value)(n:P.underlying t=U (.array c e))(m:P.info? e=U v):
  (Op.equalIn (d+1) t (.agg f) (.agg g)).run P w=(xw d e (P.cellsOf e) f g (List.range c)).run P w:=by
 simp only[Op.equalIn,uet,ud6 n,ucm,jj m];rw[Std.Legacy.Range.forIn_eq_forIn_range'];have:List.range' 0 c 1=List.range c:=ubm.symm;simp;rw[this];generalize List.range c=l
 induction l generalizing w with
 |nil=>simp[xw]
 |cons i l o=>
  simp only[List.forIn_cons,xw,uet];generalize (part e f (i*P.cellsOf e)).run P w=p;cases p with
  |ok a h=>
   simp only[ucm];generalize (part e g (i*P.cellsOf e)).run P h=s;cases s with
   |ok b k=>
    simp only[ucm];generalize (Op.equalIn d e a b).run P k=u;cases u with
    |ok r y=>cases r;simp;simp only[ucm,Bool.not_true,uft,uev];exact o
    |halt x y=>simp
   |halt x k=>simp
  |halt x h=>simp
def Pj:(n:Nat) -> {t:TypeId} -> {xs M:List AC} -> {r:Bool}->tV P n t xs M=U r->(d:Nat)->n<=d->(c vs:List Value)->c.length=xs.length->vs.length=M.length ->
  aS P w F R xs (λj u=>c[j]?= U u)->aS P w F R M (λj u=>vs[j]?= U u) ->
  (Op.equalIn d t (if dH P t then .agg c.toArray else c.headD undef) (if dH P t then .agg vs.toArray else vs.headD undef)).run P w=.ok r w
 |0,t,xs,M,r,h,d,hd,c,vs,hu,hv,H,K=>by simp[tV]at h
 |n+1,t,xs,M,r,h,d,hd,c,vs,hu,hv,H,K=>by
  obtain⟨d,rfl⟩:∃ d',d=d'+1:=⟨d-1,by omega⟩;unfold tV at h;split at h;rename_i m;split at h;rename_i a b;cases h;obtain⟨⟨u,e1,_,rfl⟩,_⟩:=H;obtain⟨⟨v,f1,_,rfl⟩,_⟩:=K;have B:dH P t=false:=by simp[dH,m]
  have e2:c.headD undef=.bool a:=by cases c<;>simp_all
  have f2:vs.headD undef=.bool b:=by cases vs<;>simp_all
  simp only[B,e2,f2];exact ucn w d t a b m;cases h;rename_i k0 m;split at h;rename_i k a k' b;split at h;rename_i hk;cases h;obtain⟨⟨u,e1,_,rfl,_⟩,_⟩:=H;obtain⟨⟨v,f1,_,rfl,_⟩,_⟩:=K;have B:dH P t=false:=by simp[dH,m]
  have e2:c.headD undef=.int k a:=by cases c<;>simp_all
  have f2:vs.headD undef=.int k b:=by cases vs<;>simp_all
  simp only[B,e2,f2];exact run_equalIn_int w d t k k0 a b m;cases h;cases h;rename_i fs m;split at h;cases h;rename_i hst;have B:dH P t=true:=by simp[dH,m]
  simp only[B,if_true];have E:P.fieldsOf t=fs:=by simp[Program.fieldsOf,m]
  rw[run_equalIn_struct w d t c.toArray vs.toArray (by rw[E];exact m) (by simpa using hst),E];generalize fs.toList=l at h
  induction l generalizing r with
  |nil=>simp at h;subst h;simp[Op.eqFields]
  |cons f l N=>simp at h;split at h;rename_i hf;simp only[Op.eqFields,hf];simpa using N _ h;rename_i hf;split at h;rename_i G;obtain⟨di,o⟩:=uar.1 G.1;obtain⟨ti,g⟩:=uar.1 G.2;split at h;rename_i x y z A;split at h;rename_i p q hp hq;cases h;obtain⟨O,C,Q,S,T,b5⟩:=Cv (cs:=c.toArray) rfl (by simpa using hu) (by simpa using H) z;obtain⟨W,D,c2,c3,c4,c5⟩:=Cv (cs:=vs.toArray) rfl (by simpa using hv) (by simpa using K) A;have s:=Pj n hp d (by omega) C D Q c2 S c3;simp only[Op.eqFields,ufw hf,uet,zv o g O,zv o g W,ucm,T,c4,s];cases p;simp;simpa using N _ hq;cases h;cases h;cases h
  rename_i L e m;split at h;rename_i G;obtain⟨di,o⟩:=uar.1 G.1;obtain⟨ti,g⟩:=uar.1 G.2;have B:dH P t=true:=by simp[dH,m]
  simp only[B,if_true];rw[zl0 d t e L c.toArray vs.toArray m g];generalize List.range L=l at h
  induction l generalizing r with
  |nil=>simp at h;subst h;simp[xw]
  |cons i l N=>simp at h;split at h;rename_i x y z A;split at h;rename_i p q hp hq;cases h;obtain⟨O,C,Q,S,T,b5⟩:=Cv (cs:=c.toArray) rfl (by simpa using hu) (by simpa using H) z;obtain⟨W,D,c2,c3,c4,c5⟩:=Cv (cs:=vs.toArray) rfl (by simpa using hv) (by simpa using K) A;have s:=Pj n hp d (by omega) C D Q c2 S c3;simp only[xw,uet,zv o g O,zv o g W,ucm,T,c4,s];cases p;simp;simpa using N _ hq;cases h;cases h
  cases h;cases h
def qow{a:BinOp}{r:Bool}(h:KL a x y=U r)(t:TypeId)(X b:Operand):
  (do eqGuard a t X b (.int k x) (.int k y);binOp a t (.int k x) (.int k y):Sem Value).run P w=.ok (.bool r) w:=by
 unfold KL at h;split at h<;>simp at h<;>subst h<;>simp[ud7,binOp,Op.intCmp]
def ql8{m:BinOp}{x y:AV}{D:Value}{c:AC}{n:List Prop}(h:J5 P m t x y=U (c,n))(f:az n)(z:aK P w F R x vx)(A:aK P w F R y D)(X W:Operand):
  ∃ u,(do eqGuard m t X W vx D;binOp m t vx D:Sem Value).run P w=.ok u w/\u.oneCell'=Z/\bx P w F R c u:=by
 unfold J5 at h;split at h;rename_i k a M b;obtain⟨_,rfl,E⟩:=z;obtain⟨_,rfl,Q⟩:=A;split at h;rename_i l;have e:∀ g,g=m->(g ≠ .shl/\g ≠ .shr)->k=M:=by
  rintro g rfl ⟨N,O⟩;rcases l with l|l
  exact l;cases g<;>simp_all[WZ]
 unfold Sw at h;split at h;obtain rfl:=e _ rfl (by simp);cases h;exact⟨_,by simp[ud7,binOp,Op.intArith],rfl,rfl,iQ _ _⟩;obtain rfl:=e _ rfl (by simp);cases h;exact⟨_,by simp[ud7,binOp,Op.intArith],rfl,rfl,iQ _ _⟩;obtain rfl:=e _ rfl (by simp);cases h;exact⟨_,by simp[ud7,binOp,Op.intArith],rfl,rfl,iQ _ _⟩;obtain rfl:=e _ rfl (by simp);cases h;exact⟨_,by have f:=f;simp only[az]at f;simp[ud7,binOp,Op.intDiv,f],rfl,rfl,iQ _ _⟩;obtain rfl:=e _ rfl (by simp);cases h;exact⟨_,by have f:=f;simp only[az]at f;simp[ud7,binOp,Op.intDiv,f],rfl,rfl,zqc _ E⟩;obtain rfl:=e _ rfl (by simp);cases h;exact⟨_,by simp[ud7,binOp,Op.intBits],rfl,rfl,iQ _ _⟩;obtain rfl:=e _ rfl (by simp);cases h;exact⟨_,by simp[ud7,binOp,Op.intBits],rfl,rfl,iQ _ _⟩;obtain rfl:=e _ rfl (by simp);cases h;exact⟨_,by simp[ud7,binOp,Op.intBits],rfl,rfl,iQ _ _⟩;obtain rfl:=e _ rfl (by simp);cases h;exact⟨_,by simp[ud7,binOp,Op.intBits],rfl,rfl,iQ _ _⟩;cases h;exact⟨_,by have f:=f;simp only[az]at f;simp[ud7,binOp,Op.shift,f],rfl,rfl,iQ _ _⟩;cases h;exact⟨_,by have f:=f;simp only[az]at f;simp[ud7,binOp,Op.shift,f],rfl,rfl,qsn _ _ E⟩;obtain rfl:=e _ rfl ⟨by assumption,by assumption⟩;split at h;rename_i r s;cases h;exact⟨_,qow s t X W,rfl,rfl⟩;cases h;cases h;rename_i a b;obtain⟨_,rfl⟩:=z;obtain⟨_,rfl⟩:=A;split at h;split at h;rename_i v;simp only at h;obtain⟨rfl,rfl⟩:=h;have i:P.underlying t=U .bool:=by revert v;cases P.underlying t with
  |none=>simp
  |some d=>cases d<;>simp
 exact⟨_,by simp[eqGuard_at_bool,binOp,Op.equal,Op.maxDepth,ucn w 9999 t a b i],rfl,rfl⟩;cases h;split at h;rename_i v;simp only at h;obtain⟨rfl,rfl⟩:=h;have i:P.underlying t=U .bool:=by revert v;cases P.underlying t with
  |none=>simp
  |some d=>cases d<;>simp
 exact⟨_,by simp[eqGuard_at_bool,binOp,Op.equal,Op.maxDepth,ucn w 9999 t a b i],rfl,rfl⟩;cases h;cases h;rename_i S T;obtain⟨B,rfl,G,H⟩:=z;obtain⟨C,rfl,K,L⟩:=A;split at h;rename_i o;split at h;rename_i r s;have p:=Pj 20 s 10000 (by omega) B.toList C.toList (by simpa using G) (by simpa using K) (by simpa using H) (by simpa using L);simp only[o.2,if_true]at p;split at h;cases h;exact⟨_,by simp[run_eqGuard_agg w _ t X W B C o.1,run_eql_struct,p],rfl,rfl⟩;cases h;exact⟨_,by simp[run_eqGuard_agg w _ t X W B C o.1,run_neq_struct,p],rfl,rfl⟩;cases h;cases h;cases h;cases h
end
section
variable {P:Program} {B:Nat} {o:Oper} {a:Act} {w w':World} {F F':Nat->Prop} {γ γ':Nat->Value} {M m:aX} {R:Nat->Value->Prop}
def RS(v:Value):bx P w F R (Ar v) v:=by unfold Ar;split;split;rename_i h;exact⟨rfl,h⟩;trivial;rfl;split;rename_i h;exact⟨rfl,h⟩;trivial;rfl;trivial
def qkh(b:List Value)(h:∀ v∈b,v.oneCell'=Z):aS P w F R (b.map Ar) (λj u=>b[j]?= U u):=
 mF _ λj c a=>by
  rw[uco]at a;cases d:b[j]? with
  |none=>rw[d]at a;simp at a
  |some v=>rw[d]at a;simp at a;subst a;exact⟨v,rfl,h v (ubg d),RS v⟩
def wC(v:Value):aK P w F R (nK v) v:=by unfold nK;split;rename_i a;split;rename_i h;refine⟨a,rfl,by simp,?_⟩;have:=qkh (P:=P) (w:=w) (F:=F) (R:=R) a.toList (λv d=>uc8.1 h v d);simpa using this;trivial;trivial;rename_i b c;refine⟨?_,RS v⟩;cases v<;>first|rfl|(exact absurd rfl (b _))|(exact absurd rfl (c _))
def rf{x:AV}{d:List AC}(h:nS x=U d)(a:aK P w F R x v):v.cells.size=d.length/\aS P w F R d (λj u=>v.cells[j]?= U u)/\(∀ u∈v.cells,u.oneCell'=Z):=by
 unfold nS at h;split at h;cases h;have m:v.cells = #[v]:=by have:=a.1;cases v<;>first|rfl|simp[Value.oneCell']at this
 rw[m];exact⟨rfl,⟨⟨v,rfl,a.1,a.2⟩,uT⟩,by simpa using a.1⟩;cases h;obtain⟨c,rfl,k,f⟩:=a;refine⟨k,f,λu l=>?_⟩;obtain⟨e,n,g,o,i⟩:=f.vals;have:e=c.toList:=by
  apply List.ext_getElem?;intro j;rcases ueq j e.length with b|b
  have:=g j e[j] (uaq b);rw[uaq b,<- this];simp;rw[ua4 b,ua4 (by simp;omega)]
 subst this;exact i u (ubh.2 l);cases h
def Mp(b:List Value)(a:Nat):∀ (k:Nat) (cs:Array Value),
  ((b.zipIdx k).foldl (λcs (x:Value×Nat)=>cs.setIfInBounds (a+x.2) x.1) cs).size=cs.size /\
  ∀ j,((b.zipIdx k).foldl (λcs (x:Value×Nat)=>cs.setIfInBounds (a+x.2) x.1) cs)[j]?= if a+k<=j/\j<a+k+b.length/\j<cs.size then b[j-(a+k)]? else cs[j]? := by
 induction b with
 |nil=>intro k cs;refine⟨rfl,λj=>?_⟩;simp only[List.zipIdx_nil,List.foldl_nil,udm];rw[ufx (by omega)]
 |cons v b h=>intro k cs;obtain⟨e,f⟩:=h (k+1) (cs.setIfInBounds (a+k) v);simp;refine⟨by rw[e];simp,λj=>?_⟩;rw[f];simp;by_cases c:a+(k+1)<=j/\j<a+(k+1)+b.length/\j<cs.size;rw[ufw c,ufw (by omega)];rw[show j-(a+k)=(j-(a+(k+1)))+1 from by omega,List.getElem?_cons_succ];rw[ufx c];by_cases g:j=a+k;subst g;by_cases d:a+k<cs.size;rw[ufw (by omega)];simp[d];rw[ufx (by omega)];simp[d];rw[uaa (by omega),ufx (by omega)]
def Hv{e b new:List AC}{g':Nat->Value->Prop}(h:ql e off new=U b)(l:aS P w F R e g)(n:aS P w F R new (λj u=>g' (off+j) u))(m:∀ j u,(j<off\/off+new.length<=j)->g j u->g' j u):b.length=e.length/\aS P w F R b g':=by
 unfold ql at h;split at h;rename_i o;cases h;refine⟨by simp;omega,mF _ λj c a=>?_⟩;rcases ueq j off with i|i
 rw[uaj (by simp;omega),uaj (by simp;omega),ub2,ufw i]at a;obtain⟨u,d,f⟩:=l.at_ a;exact⟨u,m j u (.inl i) d,f⟩;rcases ueq j (off+new.length)with k|k
 rw[uaj (by simp;omega),uae (by simp;omega)]at a;simp at a;rw[show j-min off e.length=j-off from by omega]at a;obtain⟨u,d,f⟩:=n.at_ a;rw[show off+(j-off)=j from by omega]at d;exact⟨u,d,f⟩;rw[uae (by simp;omega),ub1]at a;rw[show off+new.length+(j-(e.take off++new).length)=j from by simp;omega]at a;obtain⟨u,d,f⟩:=l.at_ a;exact⟨u,m j u (.inr k) d,f⟩;cases h
def UZ{z:Nat->Option (Nat×Nat)}:{b:List (Nat×AV)} -> {ps:List (Nat×Value)} -> {cs d:List AC} -> {arr:Array Value}->Bq z cs b=U d->ps.length=b.length ->
  (∀ (k i:Nat) (x:AV) (v:Nat×Value),b[k]?= U (i,x)->ps[k]?= U v->v.1=i/\aK P w F R x v.2)->arr.size=cs.length->aS P w F R cs (λj u=>arr[j]?= U u) ->
  ∃ a,Instr.fill z arr ps=U a/\a.size=d.length/\aS P w F R d (λj u=>a[j]?= U u)
 |[],[],cs,d,arr,h,_,_,o,l=>by simp only[Bq,ucl]at h;subst h;exact⟨arr,rfl,o,l⟩
 |(i,x)::r,(L,v)::ps,cs,d,arr,h,f,t,o,l=>by
  obtain⟨rfl,y⟩:=t 0 i x (L,v) rfl rfl;simp only at y;simp only[Bq]at h;split at h;rename_i e n new m g;split at h;rename_i T;split at h;rename_i A c;obtain⟨Q,B,_⟩:=rf g y;have S:e+new.length<=cs.length:=by unfold ql at c;split at c;assumption;cases c
  obtain⟨C,s⟩:=Mp v.cells.toList e 0 arr;have W:v.cells.zipIdx.foldl (λcs (x:Value×Nat)=>cs.setIfInBounds (e+x.2) x.1) arr=(v.cells.toList.zipIdx 0).foldl (λcs (x:Value×Nat)=>cs.setIfInBounds (e+x.2) x.1) arr:=by rw[<- Array.foldl_toList,Array.toList_zipIdx]
  obtain⟨D,E⟩:=Hv (g':=λj u=>((v.cells.toList.zipIdx 0).foldl (λcs (x:Value×Nat)=>cs.setIfInBounds (e+x.2) x.1) arr)[j]?= U u) c l
   (B.turn λj u K p=>by simp only[s];rw[ufw (by simp;omega)];simpa using p)
   (λj u K p=>by simp only[s];rw[ufx (by simp;omega)];exact p)
  obtain⟨a,M,N,O⟩:=UZ h (by simpa using f) (λk i x v G H=>t (k+1) i x v (by simpa using G) (by simpa using H)) (by rw[C,o,D]) E;refine⟨a,?_,N,O⟩;simp only[Instr.fill,m];rw[ufx (by simp;omega)];rw[<- M];congr 1;cases h;cases h;cases h
 |[],_::_,_,_,_,_,f,_,_,_=>by simp at f
 |_::_,[],_,_,_,_,f,_,_,_=>by simp at f
def zl2(a:List Field)(h:∀ f∈a,(P.info? f.type).isSome=Z):
  (a.mapM (m:=Sem) λf=>(do pure (f.offset,<- sizeOf f.type):Sem (Nat×Nat))).run P w=.ok (a.map λf=>(f.offset,P.cellsOf f.type)) w:=by
 induction a with
 |nil=>simp
 |cons f a e=>obtain⟨i,d⟩:=uar.1 (h f (by simp));rw[List.mapM_cons];have b:=e (λg c=>h g (by simp[c]));rw[uet,uet,jj d];simp only[ucm,uev];rw[uet,b];simp
def qmd{b:List (Nat×AV)}{ps:Array (Nat×Value)}{x:AV}(h:JH P t b=U x)(M:ps.size=b.length)(O:∀ (k i:Nat) (x:AV) (v:Nat×Value),b[k]?= U (i,x)->ps[k]?= U v->v.1=i/\aK P w F R x v.2):
  ∃ u,(Instr.build t ps).run P w=.ok u w/\aK P w F R x u:=by
 unfold JH at h;split at h;rename_i z pl A a;split at h;rename_i W o;split at h;rename_i D d;cases h;cases r:P.info? t with
 |none=>simp[r]at A
 |some ti=>
  simp only[r,uda]at A;have B:=wC (P:=P) (w:=w) (F:=F) (R:=R) z;obtain⟨E,G,_⟩:=rf o B;have n:(zeroValue t).run P w=.ok z w:=by simp[zeroValue,typeInfo,r,A]
  obtain⟨c,C,Q,S⟩:=UZ (ps:=ps.toList) d (by simpa using M) (λk i x v H K=>O k i x v H (by simpa using K)) E G;refine⟨.agg c,?_,c,rfl,Q,S⟩;unfold Zw at a;split at a;rename_i l g;split at a;rename_i m;cases a;have N:=zl2 (w:=w) l.toList (λf L=>uc8.1 m f L);have y:(l.mapM λ(f:Field)=>(do pure (f.offset,<- sizeOf f.type):Sem (Nat×Nat))).run P w=.ok (l.map λ(f:Field)=>(f.offset,P.cellsOf f.type)) w:=by rw[Array.mapM_eq_mapM_toList];rw[Sem.run_map,N];simp only[ucm];congr 1;rw[<- uc7];simp
  have:(λ(i:Nat)=>(l.map λ(f:Field)=>(f.offset,P.cellsOf f.type))[i]?)=(λi=>(l[i]?).map λf=>(f.offset,P.cellsOf f.type)):=by simp
  simp only[Instr.build,uet,n,ucm,ud6 g];rw[y];simp only[ucm,this,C];rfl;cases a;rename_i T e g;split at a;rename_i s;obtain⟨ei,p⟩:=uar.1 s;cases a;simp[Instr.build,n,ud6 g,jj p,C];cases a;cases a
 cases h;cases h;cases h
end
section
variable {P:Program} {B:Nat} {o:Oper} {a:Act} {w w':World} {F F':Nat->Prop} {γ γ':Nat->Value} {M m:aX} {R:Nat->Value->Prop}
def UV{s:TypeId}{f:Nat}{a:Field}(h:xF P s f=U a):∃ b,P.underlying s=U (.struct b)/\b[f]?= U a:=by unfold xF at h;split at h;exact⟨_,by assumption,h⟩;cases h
def zl1{a:Field}{i:TypeInfo}(b:P.info? a.type=U i)(c:P.cellsOf a.type≠0):(fieldPlace ad a).run P w=.ok (ad.add a.offset) w:=by simp[fieldPlace,jj b,c]
def Pk{s:TypeId}{f:Nat}{a:Field}(h:xF P s f=U a)(e:(P.info? a.type).isSome=Z)(g:P.cellsOf a.type≠0):
  (Instr.fieldAt s (.pointer (U ad)) f).run P w=.ok (.pointer (U (ad.add a.offset))) w:=by
 obtain⟨k,c,d⟩:=UV h;obtain⟨i,b⟩:=uar.1 e;simp[Instr.fieldAt,ud6 c,d,Instr.sureAddr,zl1 b g]
def th(a:Addr)(n:Nat):(a.add n).block=a.block:=by unfold Addr.add;split<;>rfl
def qv9{s:TypeId}{f:Nat}{x y:AV}(h:Mj P s x f=U y)(g:aK P w F R x v):
  ∃ u,(Instr.fieldAt s v f).run P w=.ok u w/\aK P w F R y u:=by
 unfold Mj at h;split at h;rename_i t e;split at h;rename_i a;split at h<;>try trivial
 rename_i id k;cases h;obtain⟨_,b,d,rfl⟩:=g;exact⟨_,Pk e a.1 a.2,rfl,b,d,by rw[kq]⟩;rename_i r;cases h;obtain⟨_,p,rfl,l,m⟩:=g;exact⟨_,Pk e a.1 a.2,rfl,_,rfl,by rw[th];exact l,(m.drop_ _).turn λj u _ o=>by rw[pn];exact o⟩;rename_i id sz i k;cases h;obtain⟨A,n,c,d,rfl⟩:=g;exact⟨_,Pk e a.1 a.2,A,n,c,d,by rw[pn,uei]⟩;cases h;cases h
def zg1{wide:Bool}{b:List AC}{x:AV}{a:List Value}(h:GN wide b=U x)(g:a.length=b.length)(d:aS P w F R b (λj u=>a[j]?= U u)):
  aK P w F R x (if wide then .agg a.toArray else a.headD undef):=by
 unfold GN at h;cases wide;simp only[ub3,uft]at h |-;split at h;rename_i c;cases h;obtain⟨⟨u,i,e,f⟩,_⟩:=d;have:a.headD undef=u:=by cases a<;>simp_all
 rw[this];exact⟨e,f⟩;cases h;simp at h |-;subst h;exact⟨a.toArray,rfl,by simpa using g,by simpa using d⟩
def qwa{s:TypeId}{f:Nat}{a:Field}{e l:List AC}{x:AV}(z:xF P s f=U a)(g:(P.info? a.type).isSome=Z/\(P.underlying a.type).isSome=Z)(A:jT e a.offset (if dH P a.type then P.cellsOf a.type else 1)=U l)(C:GN (dH P a.type) l=U x)(B:aK P w F R (.agg e) v):
  ∃ u,(Instr.field s v f).run P w=.ok u w/\aK P w F R x u:=by
 obtain⟨D,t,y⟩:=UV z;obtain⟨i,b⟩:=uar.1 g.1;obtain⟨d,c⟩:=uar.1 g.2;obtain⟨h,rfl,p,r⟩:=B;obtain⟨k,E,m,n,o,_⟩:=Cv rfl p r A;refine⟨_,?_,zg1 C m n⟩;simp only[Instr.field,uet,ud6 t,ucm,y,asAgg,uev,zv c b k,o]
def WA{d:TypeInfo}{i:Int}(b:P.underlying t=U (.slice e))(a:P.info? e=U d)(h:0<=i/\i<n):
  (Instr.indexAt t (.slice (U ad) n c) (.int k i)).run P w=.ok (.pointer (U (ad.add (i.toNat*P.cellsOf e)))) w:=by
 simp[Instr.indexAt,ud6 b,asIntOf,h,jj a]
def Gs{c:TypeInfo}{i:Int}(b:P.underlying t=U (.array n e))(a:P.info? e=U c)(h:0<=i/\i<n):
  (Instr.indexAt t (.pointer (U ad)) (.int k i)).run P w=.ok (.pointer (U (ad.add (i.toNat*P.cellsOf e)))) w:=by
 simp[Instr.indexAt,ud6 b,asIntOf,Instr.sureAddr,h,jj a]
def Py{a:Ty}{l:List a.q}{v:Value}{t e:TypeId}{p:TypeInfo}{k:IntKind}{i:Int}(h:aG w F (.sl a) l (λ_ u=>u=v))(n:P.underlying t=U (.slice e))(f:P.info? e=U p)(m:a.size=P.cellsOf e)(g:0<=i/\i<l.length):∃ u,(Instr.indexAt t v (.int k i)).run P w=.ok u w/\aK P w F R (.c (.sptr (enc a (l.getD i.toNat a.j)))) u:=by obtain⟨r,c,rfl,b,d⟩:=qbg (i:=i.toNat) h (by omega);exact⟨_,WA n f g,rfl,_,rfl,by rw[th];exact b,d.turn λj u _ o=>by rw[<- m];exact o⟩
def Ze{id sz:Nat}{g:TypeId}{o:Ob}{z:TypeInfo}{i:Int}(h:w.ownsRow B g sz (γ id) n xs)(l:M id=U o)(r:o ≠ .gone)(s:sz=P.cellsOf e)(x:P.underlying t=U (.slice e))(m:P.info? e=U z)(p:0<=i/\i<n)(d:aK P w F (av M γ) (.c (.own id)) v):
  ([]:List (Nat×Ob))=[]/\∃ u,(Instr.indexAt t v (.int k i)).run P w=.ok u w/\aK P w F (av M γ) (.optr id sz i.toNat 0) u:=by
 have y:=fV l r d.2;subst y;obtain⟨_,⟨_,rfl⟩|⟨b,c,f,a,_⟩⟩:=h;omega;refine⟨rfl,_,by rw[a];exact WA x m p,⟨b,0,V⟩,n,c,?_,by rw[<- s];rfl⟩;have:=d.2;simp only[bx]at this;rw[a]at this;exact this
def qzw{x:AV}{i:Int}{e:Eff}(L:MemOK P B w F γ M)(c:∀ i y,m i=U y->M i=U y)(h:Nn P t x i m=U e)(d:az e.need)(p:aK P w F (av M γ) x v):
  e.wr=[]/\∃ u,(Instr.indexAt t v (.int k i)).run P w=.ok u w/\aK P w F (av M γ) e.v u:=by
 unfold Nn at h;split at h;rename_i R o;split at h;rename_i r;obtain⟨ti,f⟩:=uar.1 r;split at h<;>try trivial
 rename_i id;split at h<;>try trivial
 rename_i E C l a;split at h<;>try trivial
 rename_i g;cases h;obtain⟨e',xs,s,_⟩:=qag (L.ob id _ (c _ _ a)) g.1;exact Ze s (c _ _ a) (by simp) g.2 o f d p;rename_i E C l j a;split at h<;>try trivial
 rename_i g;cases h;obtain⟨_,_,xs,s⟩:=L.ob id _ (c _ _ a);exact Ze s.1.own (c _ _ a) (by simp) g o f d p;rename_i C l a;split at h<;>try trivial
 rename_i g;cases h;have hv:=fV (c _ _ a) (by simp) p.2;subst hv;exact⟨rfl,Py (L.ob id _ (c _ _ a)) o f g d⟩;rename_i C l;split at h<;>try trivial
 rename_i g;cases h;exact⟨rfl,Py (by simpa only[bx]using p.2) o f g d⟩;rename_i C l;split at h<;>try trivial
 rename_i g;cases h;obtain⟨_,A,_,S⟩:=p;exact⟨rfl,Py S o f g d⟩;cases h;rename_i n R o;split at h;rename_i r;obtain⟨ti,f⟩:=uar.1 r;split at h;rename_i s;split at h<;>try trivial
 rename_i id z;cases h;obtain⟨_,b,G,rfl⟩:=p;exact⟨rfl,_,Gs o f d,⟨b,z,V⟩,⟨b,G,rfl⟩,d.1,d.2,by rw[s,Nat.mul_one]⟩;rename_i Q;cases h;obtain⟨_,D,rfl,H,K⟩:=p;exact⟨rfl,_,Gs o f d,D,⟨D,rfl,H,K⟩,d.1,d.2,by rw[s,Nat.mul_one]⟩;split at h<;>try trivial
 rename_i O;split at h<;>try trivial
 rename_i T;have N:(0:Int)<=Int.ofNat O/\Int.ofNat O<(n:Int):=⟨ub4 _,Int.ofNat_lt.2 T⟩;split at h<;>try trivial
 rename_i id z;cases h;obtain⟨_,b,G,rfl⟩:=p;exact⟨rfl,_,Gs o f N,rfl,b,G,by rw[kq];rfl⟩;rename_i Q;cases h;obtain⟨_,D,rfl,H,K⟩:=p;exact⟨rfl,_,Gs o f N,rfl,_,rfl,by rw[th];exact H,(K.drop_ _).turn λj u _ W=>by rw[pn];exact W⟩;cases h;cases h
def Pv{a:Ty}{l:List a.q}(d:aG w F (.sl a) l (λ_ u=>u=v)):∃ A c,v=.slice A l.length c/\l.length<=maxLen:=by obtain⟨A,c,b,e,f,_⟩:=d;exact⟨A,c,b.symm,by omega⟩
def Zf{id:Nat}{t:Ty}{l:List t.q}(k:MemOK P B w F γ M)(h:M id=U (.arr ety t l))(i:ety<fh):∃ A c,γ id=.slice A l.length c/\l.length<=maxLen:=by
 obtain⟨_,o,⟨m,f⟩,_⟩:=qag (k.ob id _ h) i;rcases f with ⟨a,b⟩|⟨g,d,e,a,_,_,b,n,_⟩
 exact⟨V,0,by rw[a,b],by omega⟩;exact⟨_,_,a,by omega⟩
def zct{c:AC}{k:Ty}{l:List k.q}(g:MemOK P B w F γ M)(b:∀ i y,m i=U y->M i=U y)(h:uD m c=U ⟨k,l⟩)(d:bx P w F (av M γ) c v):
  ∃ A e,v=.slice A l.length e/\l.length<=maxLen:=by
 unfold uD at h;split at h<;>try trivial
 cases h;exact Pv d;cases h;obtain⟨A,_,o⟩:=d;exact Pv o;rename_i id;split at h<;>try trivial
 rename_i n s r a;split at h<;>try trivial
 rename_i p;cases h;have f:=fV (b _ _ a) (by simp) d;subst f;exact Zf g (b _ _ a) (Nat.lt_trans p (by decide));rename_i s r a;cases h;have f:=fV (b _ _ a) (by simp) d;subst f;exact Pv (g.ob id _ (b _ _ a))
def zcs{x:AV}{e:Eff}(p:MemOK P B w F γ M)(b:∀ i y,m i=U y->M i=U y)(h:uC P t x m=U e)(k:aK P w F (av M γ) x v)(ty:TypeId):
  e.wr=[]/\∃ u,(Builtin.len_ #[t] ty #[v]).run P w=.ok u w/\aK P w F (av M γ) e.v u:=by
 have a:∀ n:Nat,n<=maxLen->inR .i64 (n:Int):=λn D=>by simp only[maxLen]at D;unfold inR;simp[IntKind.min,IntKind.max,IntKind.bits];omega
 unfold uC at h;split at h;rename_i H g;split at h<;>try trivial
 cases h;obtain⟨_,rfl⟩:=k;exact⟨rfl,_,by simp[Builtin.len_,ud6 g,goInt],rfl,rfl,a 0 (by simp)⟩;rename_i c _;split at h<;>try trivial
 rename_i G l C;cases h;obtain⟨A,o,rfl,f⟩:=zct p b C k.2;exact⟨rfl,_,by simp[Builtin.len_,ud6 g,goInt],rfl,rfl,a _ f⟩;split at h<;>try trivial
 split at h<;>try trivial
 rename_i id _ s G l d;split at h<;>try trivial
 rename_i z;cases h;have E:=fV (b _ _ d) (by simp) k.2;subst E;obtain⟨A,o,r,f⟩:=Zf p (b _ _ d) z;exact⟨rfl,_,by simp[Builtin.len_,ud6 g,goInt,r],rfl,rfl,a _ f⟩;rename_i g;split at h<;>try trivial
 cases h;obtain⟨_,rfl,f⟩:=k;exact⟨rfl,_,by simp[Builtin.len_,ud6 g,goInt],rfl,rfl,a _ f⟩;cases h
def qzv{x:AV}{i:Int}{e:Eff}(h:Np P t x i=U e)(B:az e.need)(C:aK P w F R x v):
  e.wr=[]/\∃ u,(Instr.index t v (.int k i)).run P w=.ok u w/\aK P w F R e.v u:=by
 unfold Np at h;split at h;rename_i p;split at h<;>try trivial
 rename_i b;cases h;obtain⟨g,A⟩:=B;obtain⟨_,Q⟩:=C;refine⟨rfl,?_⟩;have m:i.toNat<b.size:=by omega
 have H:b[i.toNat]?= U (b[i.toNat]):=by simp
 have l:b.data.getD i.toNat 0=b[i.toNat]:=by exact dif_pos m
 refine⟨.int .u8 b[i.toNat].toNat,?_,?_⟩;rw[Q.1];simp[Instr.index,ud6 p,asIntOf,g,H];refine⟨rfl,?_⟩;simp only[bx,l];have M:=b[i.toNat].toNat_lt;have y:IntKind.u8.min=0:=by decide
 have z:IntKind.u8.max=255:=by decide
 simp;constructor<;>omega
 rename_i n el p;split at h<;>try trivial
 rename_i K;obtain⟨D,E,G,s⟩:=K;obtain⟨ti,f⟩:=uar.1 D;obtain⟨d,l⟩:=uar.1 E;split at h<;>try trivial
 split at h<;>try trivial
 rename_i S _;split at h<;>try trivial
 rename_i r o;split at h<;>try trivial
 cases h;obtain⟨g,A⟩:=B;obtain⟨a,rfl,y,z⟩:=C;have L:=Gx o;subst L;have m:i.toNat<r.length:=by omega
 obtain⟨u,q1,T,W⟩:=z.at_ (j:=i.toNat) (c:=.int S (r.getD i.toNat 0)) (by simp[uaq m]);refine⟨rfl,u,?_,T,W⟩;have O:a.size=r.length:=by simpa using y
 have N:=zv (w:=w) (cs:=a) (off:=i.toNat) l f (by rw[s];simp;omega);simp only[Instr.index,uet,ud6 p,ucm,asIntOf,uev,g,true_and,A,if_true,jj f,G,Nat.mul_one,N,s,uft]
 simp_all
 cases h
end
section
variable {P:Program} {B:Nat} {o:Oper} {a:Act} {w w':World} {F F':Nat->Prop} {γ γ':Nat->Value} {M m:aX} {R:Nat->Value->Prop}
def mN:(t:Ty) -> {cs:List AC} -> {x:t.q} -> {r:List AC}->dec t cs=U (x,r)->cs.length=t.size+r.length
 |.int k,cs,x,r,h=>by simp only[dec]at h;unfold rk at h;split at h;split at h;simp at h;obtain⟨_,rfl⟩:=h;simp[Ty.size,uer];cases h;cases h
 |.bool,cs,x,r,h=>by simp only[dec]at h;unfold rj at h;split at h;simp at h;obtain⟨_,rfl⟩:=h;simp[Ty.size,uer];cases h
 |.str,cs,x,r,h=>by simp only[dec]at h;unfold rm at h;split at h;simp at h;obtain⟨_,rfl⟩:=h;simp[Ty.size,uer];cases h
 |.sl e,cs,x,r,h=>by simp only[dec]at h;unfold rl at h;split at h;split at h;simp at h;obtain⟨_,rfl⟩:=h;simp[Ty.size,uer];cases h;split at h;simp at h;obtain⟨_,rfl⟩:=h;simp[Ty.size,uer];cases h;simp at h;obtain⟨_,rfl⟩:=h;simp[Ty.size,uer];cases h
 |.unit,cs,x,r,h=>by obtain⟨_,rfl⟩:=h;simp[Ty.size]
 |.pair a b,cs,x,r,h=>by simp only[dec]at h;split at h;rename_i o m d;split at h;rename_i p n g;obtain⟨_,rfl⟩:=h;have i:=mN a d;have l:=mN b g;simp only[Ty.size];omega;cases h;cases h
 |.fm c,cs,x,r,h=>by
  simp only[dec]at h;unfold tQ at h;split at h<;>try trivial
  split at h<;>try trivial
  obtain⟨_,rfl⟩:=h;simp[Ty.size,uer]
 |.ic c t,cs,x,r,h=>by
  simp only[dec]at h;unfold tP at h;split at h<;>try trivial
  split at h<;>try trivial
  split at h<;>try trivial
  obtain⟨_,rfl⟩:=h;simp[Ty.size,uer]
 |.fc f,cs,x,r,h=>by
  simp only[dec]at h;unfold tO at h;split at h<;>try trivial
  all_goals
   split at h<;>try trivial
   obtain⟨_,rfl⟩:=h;simp[Ty.size,uer]
def aG.cell:(t:Ty) -> {x:t.q} -> {g:Nat->Value->Prop}->aG w F t x g->∀ j,j<t.size->∃ u,g j u/\u.oneCell'=Z
 |.int _,_,_,h,j,d=>by
  have:j=0:=by simp[Ty.size]at d;omega
  subst this;exact⟨_,h.1,rfl⟩
 |.bool,_,_,h,j,d=>by
  have:j=0:=by simp[Ty.size]at d;omega
  subst this;exact⟨_,h,rfl⟩
 |.str,_,_,h,j,d=>by
  have:j=0:=by simp[Ty.size]at d;omega
  subst this;exact⟨_,h.1,rfl⟩
 |.sl e,_,_,h,j,d=>by
  have:j=0:=by simp[Ty.size]at d;omega
  subst this;obtain⟨A,c,i,_⟩:=h;exact⟨_,i,rfl⟩
 |.unit,_,_,_,j,d=>by simp[Ty.size]at d
 |.pair a b,x,g,h,j,d=>by
  rcases ueq j a.size with i|i
  exact aG.cell a h.1 j i;obtain⟨u,l,n⟩:=aG.cell b h.2 (j-a.size) (by simp only[Ty.size]at d;omega);rw[show a.size+(j-a.size)=j from by omega]at l;exact⟨u,l,n⟩
 |.fm o,_,_,h,j,d=>by
  have:j=0:=by simp[Ty.size]at d;omega
  subst this;obtain⟨r,m,p,i,_⟩:=h;exact⟨_,i,rfl⟩
 |.ic o t,_,_,h,j,d=>by
  have:j=0:=by simp[Ty.size]at d;omega
  subst this;rcases h with ⟨s,u,_,k,_⟩|⟨_,k⟩
  exact⟨_,k,rfl⟩;exact⟨_,k,rfl⟩
 |.fc f,_,_,h,j,d=>by
  have:j=0:=by simp[Ty.size]at d;omega
  subst this;obtain⟨u,i,k,_⟩:=h;exact⟨u,i,k⟩
def CO{t:Ty}{l:List t.q}(h:cy w F t l xs)(g:xs.length=l.length*t.size):∀ u∈xs,u.oneCell'=true:=by
 intro u i;obtain⟨k,f,rfl⟩:=List.getElem_of_mem i;have a:0<t.size:=by
  rcases ub5 t.size with b|b
  rw[b]at g;omega;exact b
 have e:k/t.size<l.length:=(Nat.div_lt_iff_lt_mul a).2 (by omega);have:=h (k/t.size) l[k/t.size] (uaq e);obtain⟨v,c,d⟩:=aG.cell t this (k%t.size) (ufi _ a);rw[uew,Nat.div_add_mod,uaq f]at c;cases c;exact d
def iH{t:Ty}{x:t.q}(h:bJ w F t x v):aK P w F R (eR t x) v:=by
 obtain⟨l,e,m⟩:=h;have d:=aG.enc (P:=P) (R:=R) t x m;unfold eR;cases g:t.wide
 ·simp;have o:v.cells = #[v]:=by cases v<;>first|rfl|(exact absurd (e.2 ⟨_,rfl⟩) (by simp[g]))
  have:∃ c,enc t x=[c]:=by cases t<;>first|(simp_all[Ty.wide,enc];done)|(rename_i f;cases f<;>simp_all[Ty.wide,enc])
  obtain⟨c,n⟩:=this;rw[n]at d |-;obtain⟨⟨u,b,i,k⟩,_⟩:=d;rw[o]at b;simp at b;subst b;exact⟨i,k⟩
 simp;obtain⟨a,rfl⟩:=e.1 g;exact⟨a,rfl,by rw[gV];exact l,d⟩
def Ui:{a:List Ty} -> {x:aa a} -> {b:List Value}->fi w F a x b->bI P w F R (Fo a x) b
 |[],_,_,h=>by cases h;trivial
 |_::_,_,_,⟨v,f,c,d,e⟩=>by subst c;exact⟨iH d,Ui e⟩
def bI.length:{b:List AV} -> {a:List Value}->bI P w F R b a->a.length=b.length
 |[],[],_=>rfl
 |_::_,_::_,h=>by simp[bI.length h.2]
 |[],_::_,h=>h.elim
 |_::_,[],h=>h.elim
def Uh{a:List Ty}{x:aa a}(h:∃ vs:Array Value,v=.tuple vs/\fi w F a x vs.toList):aK P w F R (.tup (Fo a x)) v:=by obtain⟨vs,rfl,c⟩:=h;have b:=Ui (P:=P) (R:=R) c;exact⟨vs,rfl,by have:=b.length;simpa using this,by simpa using ZP b⟩
def xq:{a:List Ty} -> {x:aa a} -> {v:Value}->jF w F a x v->aK P w F R (lq a x) v
 |[],_,_,h=>Uh h
 |[_],_,_,h=>iH h
 |t::b::r,_,_,h=>Uh h
def DD(a:∀ b,F b->F' b)(d:∀ b,F b->w'.heap[b]?= w.heap[b]?)(c:∀ id v,R id v->R' id v):{f:List AV} -> {e:List Value}->bI P w F R f e->bI P w' F' R' f e
 |[],[],_=>trivial
 |_::_,_::_,h=>⟨aK.mono a d c _ h.1,DD a d c h.2⟩
 |[],_::_,h=>h.elim
 |_::_,[],h=>h.elim
def tR{t:Ty}{x:AV}{d:t.q}(h:nX t x=U d)(b:aK P w F R x v):bJ w F t d v:=by
 unfold nX at h;split at h;rename_i c;split at h;cases h;rename_i i;split at h<;>try trivial
 rename_i y e;cases h;have l:v.cells = #[v]:=by have:=b.1;cases v<;>first|rfl|simp[Value.oneCell']at this
 obtain⟨f,_⟩:=aG.dec (g:=λj u=>v.cells[j]?= U u) t e ⟨⟨v,by simp[l],b.1,b.2⟩,uT⟩;refine⟨?_,⟨λm=>absurd m i,λ⟨k,o⟩=>?_⟩,f⟩;rw[l];cases t<;>simp_all[Ty.size,Ty.wide]
 have:=b.1;rw[o]at this;simp[Value.oneCell']at this;rename_i k;split at h;rename_i i;split at h<;>try trivial
 rename_i y e;cases h;obtain⟨a,rfl,p,n⟩:=b;have r:k.length=t.size:=by simpa using mN t e
 obtain⟨f,_⟩:=aG.dec t e n;exact⟨by show a.size=_;omega,⟨λ_=>⟨a,rfl⟩,λ_=>i⟩,f⟩;cases h;cases h
def nY:{d:List Ty} -> {e:List AV} -> {x:aa d} -> {c:List Value}->jp d e=U x->bI P w F R e c->fi w F d x c
 |[],[],_,[],_,_=>rfl
 |t::r,a::s,x,v::c,h,b=>by simp only[jp]at h;split at h;rename_i y z f g;cases h;exact⟨v,c,rfl,tR f b.1,nY g b.2⟩;cases h
 |[],[],_,_::_,_,b=>b.elim
 |_::_,_::_,_,[],_,b=>b.elim
 |[],_::_,_,_,h,_=>by simp[jp]at h
 |_::_,[],_,_,h,_=>by simp[jp]at h
def iP(M:aX)(u v:List (Nat×Ob)):aB M (u++v)=aB (aB M u) v:=by
 induction u generalizing M with
 |nil=>rfl
 |cons x u a=>exact a _
def dM(m M:aX):Prop:=∀ i y,m i=U y->M i=U y \/ ∃ e t l,y=.arr e t l/\M i=U (.frz t l)
def dM.of(h:∀ i y,m i=U y->M i=U y):dM m M:=λi y a=>.inl (h i y a)
def zrd{id:Nat}{o:Ob}(h:M id=U o):upd M id o=M:=by funext i;unfold upd;split;rename_i a;subst a;exact h.symm;rfl
def OZ{t:Ty}{l:List t.q}(d:w.ownsRow B e t.size v l.length xs)(a:cy w F t l xs)(s:∀ b,v.ownBlock=U b->F b):aG w F (.sl t) l (λ_ u=>u=v):=by
 obtain⟨K,C|⟨g,f,p,o,y,A,m,k,z,D⟩⟩:=d;obtain⟨r,n⟩:=C;refine⟨V,0,?_,by omega,by simp,λi x c=>?_⟩;rw[r,n];rw[uab n]at c;simp at c;refine⟨U ⟨g,0,V⟩,f,o.symm,m,k,λi x c=>⟨_,rfl,s g (by rw[o];rfl),?_⟩⟩;refine(a i x c).mono (λb h=>h) (λ_ _=>rfl) λj u H E=>?_;rw[kq,xg A,<- E,<- D,ub2];have:i<l.length:=(uak.1 c).1;have G:i*t.size+t.size<=l.length*t.size:=by rw[<- uex];exact ube _ this
 rw[ufw (by omega)];simp
def RwOK.rep{e:Nat}{t:Ty}{l:List t.q}(h:RwOK P B w F v e t l (λ_=>False) xs)(y:cJ<=e){x:t.q}(d:l[i]?= U x):
  aG w (λb=>F b\/cg w (.arr e t l) v b) t x (λj u=>xs[i*t.size+j]?= U u):=by
 refine Qf (P:=P) (R:=λ_ _=>False) t x (mF _ λk c m=>?_);by_cases n:k=da e;subst n;obtain⟨D,C,u,E,f,a,o,p,z,A⟩:=h.inn i x d (λh=>h);rw[m]at f;cases f;refine⟨u,a,h.one u (ubg a),?_⟩;simp only[bx];exact OZ o (p.mono (λ_ h=>.inl h) (λ_ _=>rfl)) λb s=>.inr (.inr (.inl ⟨y,i,u,(uak.1 d).1,λh=>h,uv h.own a,s⟩));obtain⟨u,g,r⟩:=h.cells i x k c d m n;exact⟨u,g,h.one u (ubg g),bx.mono (λ_ h=>.inl h) (λ_ _=>rfl) (λ_ _ h=>h) c r⟩
def qxz{id:Nat}{t:Ty}{l:List t.q}(p:MemOK P B w F γ M)(d:∀ b,F b->b<w.heap.size)(g:M id=U (.arr e t l))(r:e<fh):
  ∃ F',Step B w F γ M w F' γ (upd M id (.frz t l))/\MemOK P B w F' γ (upd M id (.frz t l)):=by
 have a:=p.ob id _ g;refine⟨λb=>F b\/cg w (.arr e t l) (γ id) b,?_,?_⟩;refine⟨λb h=>.inl h,λ_ _=>rfl,qm g (by simp),λ_ _=>rfl,rfl,rfl,rfl,ufb _,λb h=>?_,λb h=>?_⟩;rcases h with h|h
 exact d b h;exact(jN a h).1;rcases h with h|h
 exact .inl h;exact .inr (jN a h).2.2;refine p.change g (by simp) (λb h=>.inl h) (λ_ _=>rfl) (λb h=>h.elim) (λb _ n=>⟨rfl,λh=>h.resolve_right n⟩) ?_;simp only[iA];rcases a with ⟨_,u,f,_,c,_⟩|⟨m,_,u,o⟩|⟨k,_⟩
 exact OZ f (c.mono (λb h=>.inl h) (λ_ _=>rfl)) λb d=>.inr (.inl d);exact OZ o.own (λi x s=>o.rep m s) λb d=>.inr (.inl d);exact absurd r (Nat.not_lt.2 k)
def H6{c x:AC}{u:List (Nat×Ob)}(g:MemOK P B w F γ M)(o:∀ b,F b->b<w.heap.size)(k:dM m M)(h:oO m c=U (x,u))(p:bx P w F (av M γ) c v):
  ∃ F',Step B w F γ M w F' γ (aB M u)/\MemOK P B w F' γ (aB M u)/\dM m (aB M u)/\bx P w F' (av (aB M u) γ) x v:=by
 unfold oO at h;split at h;rename_i id;split at h<;>try trivial
 rename_i e t l f;split at h<;>try trivial
 rename_i s;cases h;rcases k id _ f with d|⟨D,H,E,r,d⟩
 obtain⟨F',G,C⟩:=qxz g o d s;have n:=fV d (by simp) p;subst n;refine⟨F',G,C,λi y z=>?_,?_⟩;by_cases A:i=id;subst A;rw[f]at z;cases z;exact .inr ⟨e,t,l,rfl,kX _ _ _⟩;simp only[aB];rw[gL _ _ A];exact k i y z;simp only[bx];exact C.ob id _ (kX _ _ _);cases r;have n:=fV d (by simp) p;subst n;have a:aB M [(id,Ob.frz t l)]=M:=zrd d;refine⟨F,by rw[a];exact Step.refl o,by rw[a];exact g,by rw[a];exact k,?_⟩;exact g.ob id _ d;rename_i t l f;cases h;rcases k id _ f with d|⟨D,H,E,r,d⟩
 have n:=fV d (by simp) p;subst n;refine⟨F,Step.refl o,g,k,?_⟩;exact g.ob id _ d;cases r;cases h;exact⟨F,Step.refl o,g,k,p⟩
def CR:{cs xs:List AC} -> {u:List (Nat×Ob)} -> {M:aX} -> {F:Nat->Prop} -> {g:Nat->Value->Prop}->MemOK P B w F γ M->(∀ b,F b->b<w.heap.size)->dM m M->lB m cs=U (xs,u)->aS P w F (av M γ) cs g ->
  ∃ F',Step B w F γ M w F' γ (aB M u)/\MemOK P B w F' γ (aB M u)/\dM m (aB M u)/\xs.length=cs.length/\aS P w F' (av (aB M u) γ) xs g
 |[],xs,u,M,F,g,e,d,f,h,k=>by obtain⟨rfl,rfl⟩:=h;exact⟨F,Step.refl d,e,f,rfl,uT⟩
 |c::r,xs,u,M,F,g,e,d,f,h,k=>by simp only[lB]at h;split at h;rename_i x N y O t z;cases h;obtain⟨⟨v,n,o,p⟩,s⟩:=k;obtain⟨L,i,C,H,E⟩:=H6 e d f t p;obtain⟨l,a,D,K,A,G⟩:=CR C i.bd H z (i.repCL s);rw[iP];exact⟨l,i.trans a,D,K,by simp[A],⟨⟨v,n,o,bx.mono a.hF a.hw a.hR _ E⟩,G⟩⟩;cases h
def qam{x y:AV}{u:List (Nat×Ob)}(n:MemOK P B w F γ M)(l:∀ b,F b->b<w.heap.size)(o:dM m M)(h:sj m x=U (y,u))(e:aK P w F (av M γ) x v):
  ∃ F',Step B w F γ M w F' γ (aB M u)/\MemOK P B w F' γ (aB M u)/\dM m (aB M u)/\aK P w F' (av (aB M u) γ) y v:=by
 unfold sj at h;split at h;split at h<;>try trivial
 rename_i d;cases h;obtain⟨a,i,f,k,g⟩:=H6 n l o d e.2;exact⟨a,i,f,k,e.1,g⟩;split at h<;>try trivial
 rename_i d;cases h;obtain⟨c,p,r,s⟩:=e;obtain⟨a,i,f,k,t,g⟩:=CR n l o d s;exact⟨a,i,f,k,c,p,by rw[r,t],g⟩;cases h
def ke:{cs xs:List AV} -> {u:List (Nat×Ob)} -> {M:aX} -> {F:Nat->Prop} -> {vs:List Value}->MemOK P B w F γ M->(∀ b,F b->b<w.heap.size)->dM m M->fe m cs=U (xs,u)->bI P w F (av M γ) cs vs ->
  ∃ F',Step B w F γ M w F' γ (aB M u)/\MemOK P B w F' γ (aB M u)/\dM m (aB M u)/\bI P w F' (av (aB M u) γ) xs vs
 |[],xs,u,M,F,vs,f,e,g,h,a=>by obtain⟨rfl,rfl⟩:=h;exact⟨F,Step.refl e,f,g,a⟩
 |c::r,xs,u,M,F,[],f,e,g,h,a=>a.elim
 |c::r,xs,u,M,F,v::vs,f,e,g,h,a=>by simp only[fe]at h;split at h;rename_i x E y G n o;cases h;obtain⟨D,d,p,A,t⟩:=qam f e g n a.1;have i:=DD d.hF d.hw d.hR a.2;obtain⟨l,k,s,C,z⟩:=ke p d.bd A o i;rw[iP];exact⟨l,d.trans k,s,C,k.repA t,z⟩;cases h
def aG.flat:{t:Ty}->t.flat=Z -> {x:t.q} -> {g:Nat->Value->Prop}->aG w F t x g->aG w' F' t x g
 |.int _,_,_,_,h=>h
 |.bool,_,_,_,h=>h
 |.str,_,_,_,h=>h
 |.unit,_,_,_,h=>h
 |.sl _,c,_,_,_=>by simp[Ty.flat]at c
 |.fm _,c,_,_,_=>by simp[Ty.flat]at c
 |.ic _ t,c,_,_,h=>by
  simp only[Ty.flat]at c;rcases h with ⟨l,u,d,e,f,i,k⟩|h
  exact .inl ⟨l,u,d,e,f,i,k.flat c⟩;exact .inr h
 |.fc _,c,_,_,_=>by simp[Ty.flat]at c
 |.pair a b,c,_,_,h=>by simp only[Ty.flat,udc]at c;exact⟨aG.flat c.1 h.1,aG.flat c.2 h.2⟩
def bJ.flat{t:Ty}(a:t.flat=Z){x:t.q}(h:bJ w F t x v):bJ w' F' t x v:=⟨h.1,h.2.1,h.2.2.flat a⟩
def fi.flat:{a:List Ty}->a.all Ty.flat=Z -> {x:aa a} -> {d:List Value}->fi w F a x d->fi w' F' a x d
 |[],_,_,_,h=>h
 |t::r,b,_,_,⟨v,c,e,f,g⟩=>by simp only[uek,udc]at b;exact⟨v,c,e,f.flat b.1,fi.flat b.2 g⟩
def jF.flat:{b:List Ty}->b.all Ty.flat=Z -> {x:aa b} -> {v:Value}->jF w F b x v->jF w' F' b x v
 |[],a,_,_,⟨e,c,d⟩=>⟨e,c,fi.flat a d⟩
 |[t],a,_,_,h=>by simp only[uek,udc]at a;exact bJ.flat a.1 h
 |t::f::r,a,_,_,⟨e,c,d⟩=>⟨e,c,fi.flat a d⟩
def cy.flat{t:Ty}(a:t.flat=Z){l:List t.q}(h:cy w F t l xs):cy w' F' t l xs:=λi x b=>(h i x b).flat a
end
section
variable {P:Program} {B:Nat} {o:Oper} {a:Act} {w w':World} {F F':Nat->Prop} {γ γ':Nat->Value} {M m:aX} {R:Nat->Value->Prop}
def zos{e:Ob}{x:Obj}(a:∀ b,F b->b<w.heap.size)(f:B<=w.heap.size)(c:M d=V):Step B w F γ M (w.alloc x) F (dG γ d v) (upd M d e):=
 ⟨λ_ h=>h,λb h=>udb _ _ _ (a b h),CK c,λb h=>udb _ _ _ (by omega),rfl,rfl,rfl,by simp,λb h=>by have:=a b h;simp;omega,λb h=>.inl h⟩
def Yn{c:List AC}(m:MemOK P B w F γ M)(g:∀ b,F b->b<w.heap.size)(f:B<=w.heap.size)(i:M d=V)(l:arr.size=c.length)(n:aS P w F (av M γ) c (λj u=>arr[j]?= U u)):
  Step B w F γ M (w.alloc (.cells arr ty)) F (dG γ d (.pointer (U ⟨w.heap.size,0,V⟩))) (upd M d (.box ty c)) /\
  MemOK P B (w.alloc (.cells arr ty)) F (dG γ d (.pointer (U ⟨w.heap.size,0,V⟩))) (upd M d (.box ty c)):=by
 have e:Step B w F γ M (w.alloc (.cells arr ty)) F (dG γ d (.pointer (U ⟨w.heap.size,0,V⟩))) (upd M d (.box ty c)):=zos g f i;refine⟨e,m.new i e.hF e.hw (λb h=>?_) (λb h=>⟨udb _ _ _ h,λh=>h⟩) ?_⟩;obtain⟨a,k,rfl⟩:=h;cases k;exact ufb _;exact⟨w.heap.size,arr,rfl,ud8 w _,λh=>by have:=g _ h;omega,f,l,e.repCL n⟩
def Z5{a:List AC}:aK P w F (av (upd M d (.box ty a)) (dG γ d (.pointer (U ⟨b,0,V⟩)))) (.c (.ptr d 0)) (.pointer (U ⟨b,0,V⟩)):=by refine⟨rfl,b,?_,rfl⟩;unfold av;rw[kX];exact(ig _ _ _).symm
def yv{t:Ty}{l:List t.q}(s:MemOK P B w F γ M)(k:∀ b,F b->b<w.heap.size)(u:B<=w.heap.size)(o:M d=V)(i:w.grownBy w' V)(c:w'.ownsRow B ety t.size v l.length xs)(f:∀ g,v.ownBlock=U g->w.heap.size<=g)(e:cy w' F t l xs)(p:ety<cJ):
  Step B w F γ M w' F (dG γ d v) (upd M d (.arr ety t l))/\MemOK P B w' F (dG γ d v) (upd M d (.arr ety t l)):=by
 have a:=λb h=>i.block b h (by simp);have n:Step B w F γ M w' F (dG γ d v) (upd M d (.arr ety t l)):=
  ⟨λ_ h=>h,λb h=>a b (k b h),CK o,λb h=>a b (by omega),i.os,i.tape,i.output,i.size,λb h=>by have:=k b h;have:=i.size;omega,λb h=>.inl h⟩
 refine⟨n,s.new o n.hF n.hw (λb h=>f b ((oa p (qg c)).1 h)) (λb h=>⟨a b h,λh=>h⟩) ?_⟩;refine .inl ⟨p,xs,c,λg m r=>?_,e,CO e c.1⟩;have:=k g r;have:=f g m;omega
def o7{t:Ty}{l:List t.q}(a:v.oneCell'=Z):aK P w F (av (upd M d (.arr ety t l)) (dG γ d v)) (.c (.own d)) v:=by refine⟨a,?_⟩;simp only[bx];unfold av;rw[kX];exact(ig _ _ _).symm
def MemOK.re(h:MemOK P B w F γ M)(S:Nat->Prop){p:aX}(A:∀ i,¬ S i->p i=M i)(r:∀ i,¬ S i->γ' i=γ i)(T:∀ b,F b->w'.heap[b]?= w.heap[b]?)(Q:∀ i v,av M γ i v->av p γ' i v)(y:∀ b,b<w.heap.size->(∀ i o,S i->M i=U o->¬ cg w o (γ i) b)->w'.heap[b]?= w.heap[b]?)(K:∀ i o,S i->p i=U o->iA P B w' F (av p γ') (γ' i) o)(E:∀ i o b,S i->p i=U o->cg w' o (γ' i) b->(∃ j o0,S j/\M j=U o0/\cg w o0 (γ j) b)\/w.heap.size<=b)(D:∀ i j a m b,S i->S j->i≠j->p i=U a->p j=U m->cg w' a (γ' i) b->¬ cg w' m (γ' j) b):MemOK P B w' F γ' p:=by
 have L:∀ i a,¬ S i->M i=U a->∀ b,cg w a (γ i) b->w'.heap[b]?= w.heap[b]? /\ ¬ F b:=λi a l d b C=>by obtain⟨N,O,_⟩:=jN (h.ob i a d) C;exact⟨y b N (λj o n G R=>h.apart i j a o b (λe=>l (e ▸ n)) d G C R),O⟩
 have t:∀ i a,¬ S i->M i=U a->∀ b,cg w' a (γ i) b->cg w a (γ i) b:=λi a l d b=>xy (λb C=>(L i a l d b C).1);have z:∀ i j a m b,S i->¬ S j->p i=U a->M j=U m->cg w' a (γ' i) b->¬ cg w' m (γ j) b:=λi j a m b d n H u g f=>by
  have s:=t j m n u b f;rcases E i a b d H g with ⟨k,o0,W,k2,k3⟩|k
  exact h.apart k j o0 m b (λe=>n (e ▸ W)) k2 u k3 s;have:=(jN (h.ob j m u) s).1;omega
 refine⟨λi o d=>?_,λi j a m b x d n g f=>?_⟩;by_cases l:S i;exact K i o l d;rw[A i l]at d;rw[r i l];exact(h.ob i o d).keep (λ_ h=>h) T Q (L i o l d);by_cases l:S i;by_cases c:S j;exact D i j a m b l c x d n g f;rw[A j c]at n;rw[r j c]at f;exact z i j a m b l c d n g f;rw[A i l]at d;rw[r i l]at g;by_cases c:S j;exact z j i m a b c l n d f g;rw[A j c]at n;rw[r j c]at f;exact h.apart i j a m b x d n (t i a l d b g) (t j m c n b f)
def MemOK.moved(h:MemOK P B w F γ M){id:Nat}{o0 o:Ob}(f:M id=U o0)(y:M d=V)(E:∀ b,F b->w'.heap[b]?= w.heap[b]?)(t:∀ b,cg w' o v b->cg w o0 (γ id) b\/w.heap.size<=b)(n:∀ b,b<w.heap.size->¬ cg w o0 (γ id) b->w'.heap[b]?= w.heap[b]?)(x:iA P B w' F (av (upd (upd M id .gone) d o) (dG γ d v)) v o):MemOK P B w' F (dG γ d v) (upd (upd M id .gone) d o):=by
 have m:d≠id:=by rintro rfl;rw[y]at f;cases f
 have p:∀ c,upd (upd M id .gone) d o id=U c->c=.gone:=λc a=>by rw[gL _ _ m.symm,kX]at a;exact(ud4 a).symm
 have k:∀ c,upd (upd M id .gone) d o d=U c->c=o:=λc a=>by rw[kX]at a;exact(ud4 a).symm
 refine h.re (λi=>i=id\/i=d) (λi a=>?_) (λi a=>ga _ _ (λe=>a (.inr e))) E (λi u D=>CK (by rw[gL _ _ m];exact y) i u (qm f (λ_=>rfl) i u D))
  (λb g C=>n b g (C id o0 (.inl rfl) f)) ?_ ?_ ?_
 rw[gL _ _ (λe=>a (.inr e)),gL _ _ (λe=>a (.inl e))];rintro i c (rfl|rfl) a;obtain rfl:=p c a;trivial;obtain rfl:=k c a;rw[ig];exact x;rintro i c b (rfl|rfl) a g;obtain rfl:=p c a;exact g.elim;obtain rfl:=k c a;rw[ig]at g;exact(t b g).imp (λz=>⟨id,o0,.inl rfl,f,z⟩) (λh=>h);rintro i j c G b (rfl|rfl) (rfl|rfl) l a A r s;exact l rfl;obtain rfl:=p c a;exact r;obtain rfl:=p G A;exact s;exact l rfl
def GM{id:Nat}{k:TypeId}{t H:Ty}{l:List t.q}{O:List H.q}(D:MemOK P B w F γ M)(r:∀ b,F b->b<w.heap.size)(S:B<=w.heap.size)(p:M id=U (.arr k H O))(x:M d=V)(n:w.grownBy w' (γ id).ownBlock)(e:w'.ownsRow B ety t.size v l.length xs)(o:v.ownBlock=(γ id).ownBlock\/v.ownBlock=U w.heap.size\/v.ownBlock=V)(f:cy w' F t l xs)(y:k<cJ)(m:ety<cJ):
  Step B w F γ M w' F (dG γ d v) (upd (upd M id .gone) d (.arr ety t l))/\MemOK P B w' F (dG γ d v) (upd (upd M id .gone) d (.arr ety t l)):=by
 have A:d≠id:=by rintro rfl;rw[x]at p;cases p
 obtain⟨R,Q,G,_⟩:=iT.of (D.ob id _ p) y;have z:∀ b,F b->U b≠(γ id).ownBlock:=λb s m=>G b m.symm s;have E:Step B w F γ M w' F (dG γ d v) (upd (upd M id .gone) d (.arr ety t l)):=
  ⟨λ_ h=>h,λb h=>n.block b (r b h) (z b h),
   λi u N=>CK (by rw[gL _ _ A];exact x) i u (qm p (λ_=>rfl) i u N),
   λb h=>n.block b (by omega) (λm=>by have:=(Q.lt b m.symm).1;omega),n.os,n.tape,n.output,n.size,λb h=>by have:=r b h;have:=n.size;omega,λb h=>.inl h⟩
 refine⟨E,D.moved p x E.hw (λb h=>?_) (λb K L=>n.block b K (λm=>L (.inl m.symm))) ?_⟩;replace h:=(oa m (qg e)).1 h;refine(λh=>h.imp (.inl:(γ id).ownBlock=U b->_) (λh=>h):_\/_->_) ?_;rcases o with c|c|c
 rw[c]at h;exact .inl h;rw[c]at h;simp at h;exact .inr (by omega);rw[c]at h;cases h;refine .inl ⟨m,xs,e,λg a C=>?_,f,CO f e.1⟩;rcases o with c|c|c
 rw[c]at a;exact G g a C;rw[c]at a;simp at a;have:=r g C;omega;rw[c]at a;cases a
end
end Go.Ab
