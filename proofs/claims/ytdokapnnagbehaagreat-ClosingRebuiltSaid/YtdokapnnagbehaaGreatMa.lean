/-
  Parts of the proof, one behind the other.
-/
import Derived.Calls
import Derived.Below
import Derived.Laws.AppendOwn
import Derived.OwnWalk
import Derived.Maps.AppendAt
import Derived.Deep.Draws
import Derived.Deep.MidRow
import Derived.Laws.StructEq
import Derived.Laws.MakeOwn
set_option linter.all false
set_option maxRecDepth 100000
set_option maxHeartbeats 4000000
noncomputable section
abbrev uaa:=@Array.getElem?_setIfInBounds_ne
abbrev uab:=@List.eq_nil_of_length_eq_zero
abbrev uac:=@Array.getD_eq_getD_getElem?
abbrev uad:=@Array.getElem?_append_right
abbrev uae:=@List.getElem?_append_right
abbrev uaf:=@Array.getElem?_eq_some_iff
abbrev uag:=@Int.fdiv_eq_ediv_of_nonneg
abbrev uah:=@List.getD_eq_getElem?_getD
abbrev uai:=@Array.getElem?_append_left
abbrev uaj:=@List.getElem?_append_left
abbrev uak:=@List.getElem?_eq_some_iff
abbrev ual:=@List.drop_eq_getElem_cons
abbrev uam:=@Array.getElem?_eq_getElem
abbrev uan:=@List.pairwise_iff_getElem
abbrev uao:=@List.getLast?_eq_getElem?
abbrev uap:=@List.mem_or_eq_of_mem_set
abbrev uaq:=@List.getElem?_eq_getElem
abbrev uar:=@Option.isSome_iff_exists
abbrev uas:=@Array.getElem?_replicate
abbrev uat:=@List.take_append_getElem
abbrev uau:=@List.getElem?_cons_zero
abbrev uav:=@decide_eq_false_iff_not
abbrev uaw:=@List.pairwise_lt_range'
abbrev uax:=@Nat.add_sub_cancel_left
abbrev uay:=@List.pairwise_singleton
abbrev uaz:=@List.length_eq_zero_iff
abbrev ua0:=@List.getElem?_set_self
abbrev ua1:=@Array.getElem?_eq_none
abbrev ua2:=@List.drop_eq_nil_of_le
abbrev ua3:=@List.take_of_length_le
abbrev ua4:=@List.getElem?_eq_none
abbrev ua5:=@Array.getElem?_toList
abbrev ua6:=@List.mem_append_right
abbrev ua7:=@List.length_singleton
abbrev ua8:=@List.mem_of_mem_erase
abbrev ua9:=@List.mem_iff_getElem?
abbrev uba:=@List.take_append_drop
abbrev ubb:=@Bool.cond_false_right
abbrev ubc:=@List.length_replicate
abbrev ubd:=@Go.World.cell?_of_block
abbrev ube:=@Nat.mul_le_mul_right
abbrev ubf:=@Array.toArray_toList
abbrev ubg:=@List.mem_of_getElem?
abbrev ubh:=@Array.mem_toList_iff
abbrev ubi:=@List.getElem?_set_ne
abbrev ubj:=@List.mem_cons_of_mem
abbrev ubk:=@List.mem_append_left
abbrev ubl:=@List.erase_cons_head
abbrev ubm:=@List.range_eq_range'
abbrev ubn:=@Array.replicate_succ
abbrev ubo:=@Array.replicate_zero
abbrev ubp:=@List.pairwise_append
abbrev ubq:=@List.mem_of_mem_take
abbrev ubr:=@List.mem_of_mem_drop
abbrev ubs:=@List.getElem?_of_mem
abbrev ubt:=@Go.Value.pointer.injEq
abbrev ubu:=@Array.length_toList
abbrev ubv:=@Go.World.grownBy_alloc
abbrev ubw:=@beq_eq_false_iff_ne
abbrev ubx:=@List.append_toArray
abbrev uby:=@Bool.cond_true_left
abbrev ubz:=@List.length_pos_iff
abbrev ub0:=@Nat.add_sub_cancel
abbrev ub1:=@List.getElem?_drop
abbrev ub2:=@List.getElem?_take
abbrev ub3:=@Bool.false_eq_true
abbrev ub4:=@Int.natCast_nonneg
abbrev ub5:=@Nat.eq_zero_or_pos
abbrev ub6:=@List.length_append
abbrev ub7:=@Go.grownCap_le_maxLen
abbrev ub8:=@Go.World.grownBy.refl
abbrev ub9:=@List.mem_filterMap
abbrev uca:=@List.pairwise_cons
abbrev ucb:=@Nat.lt_of_lt_of_le
abbrev ucc:=@List.mem_cons_self
abbrev ucd:=@Nat.lt_of_le_of_lt
abbrev uce:=@Go.calls_of_wp_defers
abbrev ucf:=@List.mem_singleton
abbrev ucg:=@Go.World.size_setCell
abbrev uch:=@of_decide_eq_false
abbrev uci:=@Array.ext_getElem?
abbrev ucj:=@List.filter_append
abbrev uck:=@Go.heap_setCell_other
abbrev ucl:=@Option.some.injEq
abbrev ucm:=@Go.Result.andThen_ok
abbrev ucn:=@Go.run_equalIn_bool'
abbrev uco:=@List.getElem?_map
abbrev ucp:=@Array.size_append
abbrev ucq:=@List.size_toArray
abbrev ucr:=@List.append_assoc
abbrev ucs:=@Go.World.ownsRow_nil
abbrev uct:=@Nat.lt_trichotomy
abbrev ucu:=@decide_eq_true_eq
abbrev ucv:=@Bool.not_eq_true'
abbrev ucw:=@List.mem_range'_1
abbrev ucx:=@of_decide_eq_true
abbrev ucy:=@List.push_toArray
abbrev ucz:=@Bool.eq_false_iff
abbrev uc0:=@Int.toNat_natCast
abbrev uc1:=@Go.heap_setCell_same
abbrev uc2:=@Go.setCell_eq_setRow
abbrev uc3:=@List.any_eq_false
abbrev uc4:=@Nat.le_succ_of_le
abbrev uc5:=@List.cons_append
abbrev uc6:=@List.length_take
abbrev uc7:=@List.length_drop
abbrev uc8:=@Array.toList_inj
abbrev uc9:=@List.all_eq_true
abbrev uda:=@List.length_cons
abbrev udb:=@Option.bind_some
abbrev udc:=@Go.RowKit.Below.heap_alloc
abbrev udd:=@Bool.and_eq_true
abbrev ude:=@Option.getD_some
abbrev udf:=@List.range'_succ
abbrev udg:=@Go.IntKind.wrap_i64
abbrev udh:=@Go.World.size_alloc
abbrev udi:=@decide_eq_decide
abbrev udj:=@List.getElem_mem
abbrev udk:=@Nat.succ_le_succ
abbrev udl:=@Int.ediv_nonneg
abbrev udm:=@List.length_nil
abbrev udn:=@List.nil_append
abbrev udo:=@List.all_append
abbrev udp:=@List.length_set
abbrev udq:=@Nat.min_eq_left
abbrev udr:=@List.cons.injEq
abbrev uds:=@List.append_nil
abbrev udt:=@List.mem_append
abbrev udu:=@Bool.or_eq_true
abbrev udv:=@Nat.zero_lt_one
abbrev udw:=@decide_eq_false
abbrev udx:=@List.map_append
abbrev udy:=@Bool.eq_iff_iff
abbrev udz:=@List.length_zip
abbrev ud0:=@List.take_left'
abbrev ud1:=@List.drop_left'
abbrev ud2:=@List.range_succ
abbrev ud3:=@List.length_map
abbrev ud4:=@Option.some.inj
abbrev ud5:=@ne_of_beq_false
abbrev ud6:=@Go.run_underlying
abbrev ud7:=@Go.eqGuard_at_int
abbrev ud8:=@Go.heap_alloc_new
abbrev ud9:=@List.take_take
abbrev uea:=@List.mem_range
abbrev ueb:=@decide_eq_true
abbrev uec:=@Int.mul_nonneg
abbrev ued:=@Bool.and_assoc
abbrev uee:=@Bool.and_false
abbrev uef:=@Nat.mul_le_mul
abbrev ueg:=@List.drop_zero
abbrev ueh:=@Prod.mk.injEq
abbrev uei:=@Nat.add_assoc
abbrev uej:=@List.mem_cons
abbrev uek:=@List.all_cons
abbrev uel:=@List.map_cons
abbrev uem:=@Bool.true_and
abbrev uen:=@Bool.and_true
abbrev ueo:=@Nat.mul_assoc
abbrev uep:=@Int.lt_irrefl
abbrev ueq:=@Nat.le_trans
abbrev uer:=@Nat.lt_or_ge
abbrev ues:=@Nat.add_comm
abbrev uet:=@Int.sub_zero
abbrev ueu:=@Go.Sem.run_bind
abbrev uev:=@Int.le_of_lt
abbrev uew:=@Go.Sem.run_pure
abbrev uex:=@Nat.mul_comm
abbrev uey:=@Nat.succ_mul
abbrev uez:=@Nat.zero_add
abbrev ue0:=@Nat.add_zero
abbrev ue1:=@Go.setRow_other
abbrev ue2:=@Int.mul_comm
abbrev ue3:=@Int.lt_trans
abbrev ue4:=@Go.bodyPost_ret
abbrev ue5:=@Go.results_none
abbrev ue6:=@Int.le_trans
abbrev ue7:=@Int.le_of_eq
abbrev ue8:=@Int.add_zero
abbrev ue9:=@Nat.le_of_lt
abbrev ufa:=@List.mem_map
abbrev ufb:=@Go.Addr.add_lit
abbrev ufc:=@Go.bodyPost_end
abbrev ufd:=@Nat.le_refl
abbrev ufe:=@Int.le_refl
abbrev uff:=@Nat.add_mul
abbrev ufg:=@Go.setRow_heap
abbrev ufh:=@Go.calls_of_wp
abbrev ufi:=@Go.leaves_cons
abbrev ufj:=@Nat.zero_le
abbrev ufk:=@Nat.le_succ
abbrev ufl:=@Nat.mod_lt
abbrev ufm:=@beq_iff_eq
abbrev ufn:=@Go.RowKit.Below.refl
abbrev ufo:=@Int.not_le
abbrev ufp:=@Int.not_lt
abbrev ufq:=@bne_iff_ne
abbrev ufr:=@Go.info_parts
abbrev ufs:=@Array.ext
abbrev uft:=@Go.mem_ready
abbrev ufu:=@Go.wp_region
abbrev ufv:=@eq_of_beq
abbrev ufw:=@and_self
abbrev ufx:=@if_false
abbrev ufy:=@congrArg
abbrev ufz:=@Prod.ext
abbrev uf0:=@if_pos
abbrev uf1:=@if_neg
abbrev I6:=Go.IntKind.i64
abbrev U6:=Go.IntKind.u64
theorem uT:True:=⟨⟩
open Option renaming some->U,none->V
open Bool renaming true->Z,false->Y
open Decidable renaming decide->J
open List renaming replicate->Lrp
open BitVec renaming ofInt->Bvo
open Go Go.RowKit
variable {T α σ ρ β:Type} {P:Program} {ad:Addr} {arr cs cur:Array Value} {f:FuncId} {p x a y r day:Int} {k:IntKind} {l:List Int} {xs vs news:List Value} {off i n b c d B m len:Nat} {F F' K:Nat->Prop} {R g R':Nat->Value->Prop} {o:Oper} {e ety t ty el:TypeId} {v u vx:Value} {w w' W' W:World}
namespace Go.Ab
open Go Go.RowKit
inductive Ty where
 |int (k:IntKind)
 |bool
 |str
 |sl (e:Ty)
 |unit
 |pair (a b:Ty)
 |fm (es:List (Int×Nat))
 |ic (es:List (Int×Nat)) (t:Ty)
 |fc (f:Option Nat)
 deriving DecidableEq
@[reducible] def Ty.q:Ty->Type
 |.int _=>Int
 |.bool=>Bool
 |.str=>ByteArray
 |.sl e=>List e.q
 |.unit=>Unit
 |.pair a b=>a.q×b.q
 |.fm _=>Unit
 |.ic _ t=>Int×t.q
 |.fc _=>Unit
def Ty.size:Ty->Nat
 |.unit=>0
 |.pair a b=>a.size+b.size
 |_=>1
def Ty.wide:Ty->Bool
 |.unit | .pair _ _=>Z
 |_=>Y
def Ty.flat:Ty->Bool
 |.sl _=>Y
 |.fm _=>Y
 |.ic _ t=>t.flat
 |.fc _=>Y
 |.pair a b=>a.flat&&b.flat
 |_=>Z
def Ty.j:(t:Ty)->t.q
 |.int _=>(0:Int)
 |.bool=>Y
 |.str=>ByteArray.empty
 |.sl _=>[]
 |.unit=>()
 |.pair a b=>(a.j,b.j)
 |.fm _=>()
 |.ic _ t=>(0,t.j)
 |.fc _=>()
def dd(a:List (Int×Nat))(k:Int):Option Nat:=(a.find? (λx=>x.1==k)).map (·.2)
def inR(k:IntKind)(n:Int):Prop:=k.min<=n/\n<=k.max
def aG(w:World)(F:Nat->Prop):(t:Ty)->t.q->(Nat->Value->Prop)->Prop
 |.int k,n,g=>g 0 (.int k n)/\inR k n
 |.bool,b,g=>g 0 (.bool b)
 |.str,s,g=>g 0 (.string s)/\s.size<=maxLen
 |.sl e,l,g=>∃ A c,g 0 (.slice A l.length c)/\l.length<=c/\c<=maxLen /\
   ∀ i x,l[i]?= U x->∃ m,A=U m/\F m.block/\aG w F e x (λj u=>w.cell? (m.add (i*e.size+j))=U u)
 |.unit,_,_=>True
 |.pair a b,x,g=>aG w F a x.1 g/\aG w F b x.2 (λj u=>g (a.size+j) u)
 |.fm h,_,g=>∃ r d p,g 0 (.map (U r))/\F r/\w.heap[r]?= U (.map d p)/\d.toList.map (λe=>(e.key,e.val))=h.map (λx=>(Value.int .i64 x.1,Value.func (.func x.2) #[] #[]))
 |.ic h t,x,g=>(∃ o u,dd h x.1=U o/\g 0 (.iface o u)/\u.cells.size=t.size/\(t.wide=Z↔∃ y,u=.agg y)/\aG w F t x.2 (λj v=>u.cells[j]?= U v))\/(dd h x.1=V/\g 0 .nilIface)
 |.fc f,_,g=>∃ u,g 0 u/\u.oneCell'=Z/\∀ k,f=U k->u=.func (.func k) #[] #[]
def Wf:(t:Ty)->t.q->Prop
 |.int k,n=>inR k n
 |.bool,_=>True
 |.str,s=>s.size<=maxLen
 |.sl e,l=>l.length<=maxLen/\∀ (i:Nat) (x:e.q),l[i]?= U x->Wf e x
 |.unit,_=>True
 |.pair a b,x=>Wf a x.1/\Wf b x.2
 |.fm _,_=>True
 |.ic _ _,_=>True
 |.fc _,_=>True
def aG.wf:{t:Ty} -> {x:t.q} -> {g:Nat->Value->Prop}->aG w F t x g->Wf t x
 |.int _,_,_,h=>h.2
 |.bool,_,_,_=>trivial
 |.str,_,_,h=>h.2
 |.sl _,_,_,h=>by obtain⟨A,c,_,a,b,d⟩:=h;exact⟨ueq a b,λi x f=>by obtain⟨k,_,_,e⟩:=d i x f;exact aG.wf e⟩
 |.unit,_,_,_=>trivial
 |.pair _ _,_,_,h=>⟨aG.wf h.1,aG.wf h.2⟩
 |.fm _,_,_,_=>trivial
 |.ic _ _,_,_,_=>trivial
 |.fc _,_,_,_=>trivial
def aG.mono(n:∀ b,F b->F' b)(o:∀ b,F b->w'.heap[b]?= w.heap[b]?):
  {t:Ty} -> {x:t.q} -> {g z:Nat->Value->Prop}->(∀ j u,j<t.size->g j u->z j u)->aG w F t x g->aG w' F' t x z
 |.int _,_,_,_,d,h=>⟨d _ _ (by simp[Ty.size]) h.1,h.2⟩
 |.bool,_,_,_,d,h=>d _ _ (by simp[Ty.size]) h
 |.str,_,_,_,d,h=>⟨d _ _ (by simp[Ty.size]) h.1,h.2⟩
 |.sl e,_,_,_,d,h=>by
  obtain⟨A,c,D,l,k,m⟩:=h;refine⟨A,c,d _ _ (by simp[Ty.size]) D,l,k,λi x K=>?_⟩;obtain⟨s,G,B,p⟩:=m i x K;refine⟨s,G,n _ B,aG.mono n o (λj u _ H=>?_) p⟩;rw[<- H];refine ubd ?_;have:(s.add (i*e.size+j)).block=s.block:=by unfold Addr.add;split<;>rfl
  rw[this];exact o _ B
 |.unit,_,_,_,_,_=>trivial
 |.pair a b,_,_,_,d,h=>
  ⟨aG.mono n o (λj u L y=>d j u (by simp only[Ty.size];omega) y) h.1,
   aG.mono n o (λj u L y=>d _ u (by simp only[Ty.size];omega) y) h.2⟩
 |.fm _,_,_,_,d,h=>by obtain⟨r,v,C,l,k,m,p⟩:=h;exact⟨r,v,C,d _ _ (by simp[Ty.size]) l,n r k,(o r k).trans m,p⟩
 |.ic N t,_,_,_,d,h=>by
  rcases h with ⟨M,u,l,k,m,p,E⟩|⟨l,k⟩
  exact .inl ⟨M,u,l,d _ _ (by simp[Ty.size]) k,m,p,aG.mono n o (λ_ _ _ h=>h) E⟩;exact .inr ⟨l,d _ _ (by simp[Ty.size]) k⟩
 |.fc f,_,_,_,d,h=>by obtain⟨u,l,k,m⟩:=h;exact⟨u,d _ _ (by simp[Ty.size]) l,k,m⟩
def bJ(w:World)(F:Nat->Prop)(t:Ty)(x:t.q)(v:Value):Prop:=
 v.cells.size=t.size/\(t.wide=Z↔∃ a,v=.agg a)/\aG w F t x (λj u=>v.cells[j]?= U u)
def bJ.mono(a:∀ b,F b->F' b)(c:∀ b,F b->w'.heap[b]?= w.heap[b]?){t:Ty}{x:t.q}(h:bJ w F t x v):bJ w' F' t x v:=⟨h.1,h.2.1,h.2.2.mono a c (λ_ _ _ h=>h)⟩
@[reducible] def aa:List Ty->Type
 |[]=>Unit
 |t::r=>t.q×aa r
def fi(w:World)(F:Nat->Prop):(c:List Ty)->aa c->List Value->Prop
 |[],_,b=>b=[]
 |t::r,x,b=>∃ v a,b=v::a/\bJ w F t x.1 v/\fi w F r x.2 a
def fi.mono(d:∀ b,F b->F' b)(e:∀ b,F b->w'.heap[b]?= w.heap[b]?):{a:List Ty} -> {x:aa a} -> {f:List Value}->fi w F a x f->fi w' F' a x f
 |[],_,_,h=>h
 |_::_,_,_,⟨v,c,g,i,k⟩=>⟨v,c,g,i.mono d e,fi.mono d e k⟩
def gN:(a:List Ty)->aa a->Prop
 |[],_=>True
 |t::r,x=>Wf t x.1/\gN r x.2
def fi.wf:{a:List Ty} -> {x:aa a} -> {d:List Value}->fi w F a x d->gN a x
 |[],_,_,_=>trivial
 |_::_,_,_,⟨_,_,_,b,c⟩=>⟨b.2.2.wf,fi.wf c⟩
def jF(w:World)(F:Nat->Prop):(a:List Ty)->aa a->Value->Prop
 |[t],x,v=>bJ w F t x.1 v
 |a,x,v=>∃ b:Array Value,v=.tuple b/\fi w F a x b.toList
def iB(w:World)(F:Nat->Prop)(d:List Ty)(y:aa d)(e:Ending)(c:World):Prop:=
 ∃ v a,e=.returned v/\Below w.heap.size w c/\(∀ b,F b->a b)/\(∀ b,a b->(F b\/w.heap.size<=b)/\b<c.heap.size)/\jF c a d y v
def lL(P:Program)(w:World)(F:Nat->Prop)(h i:List Ty)(g:aa h->aa i)(v:Value):Prop:=
 ∃ f c,v=.func (.func f) #[] c/\(∀ a l,(callFunc f a).run P l=.ok (.enter f a) l)/\∀ (d:World) (e:Nat->Prop),(∀ b,F b->e b/\d.heap[b]?= w.heap[b]?)->(∀ b,e b->b<d.heap.size) ->
  ∀ m k,fi d e h m k->Calls P f (k.toArray++c) d (iB d e i (g m))
def lL.mono(e:∀ b,F b->F' b)(r:∀ b,F b->w'.heap[b]?= w.heap[b]?){ps d:List Ty}{g:aa ps->aa d}(h:lL P w F ps d g v):lL P w' F' ps d g v:=by obtain⟨f,c,l,n,m⟩:=h;exact⟨f,c,l,n,λt k i o u s p=>m t k (λb a=>⟨(i b (e b a)).1,(i b (e b a)).2.trans (r b a)⟩) o u s p⟩
def nH(P:Program)(w:World)(F:Nat->Prop)(h k:List Ty)(g:aa h->aa k)(D:aa h->Prop)(v:Value):Prop:=
 ∃ f c,v=.func (.func f) #[] c/\(∀ a m,(callFunc f a).run P m=.ok (.enter f a) m)/\∀ (d:World) (e:Nat->Prop),(∀ b,F b->e b/\d.heap[b]?= w.heap[b]?)->(∀ b,e b->b<d.heap.size) ->
  ∀ i l,D i->fi d e h i l->Calls P f (l.toArray++c) d (iB d e k (g i))
def nH.mono(e:∀ b,F b->F' b)(s:∀ b,F b->w'.heap[b]?= w.heap[b]?){ps d:List Ty}{g:aa ps->aa d}{D:aa ps->Prop}(h:nH P w F ps d g D v):nH P w' F' ps d g D v:=by obtain⟨f,c,l,n,m⟩:=h;exact⟨f,c,l,n,λu k i o x t p r=>m u k (λb a=>⟨(i b (e b a)).1,(i b (e b a)).2.trans (s b a)⟩) o x t p r⟩
inductive AC where
 |dead
 |int (k:IntKind) (n:Int)
 |bool (b:Bool)
 |str (s:ByteArray)
 |nil
 |sl (t:Ty) (l:List t.q)
 |slx (t:Ty) (l:List t.q)
 |own (id:Nat)
 |ptr (id off:Nat)
 |sptr (cs:List AC)
 |fn (f:FuncId) (caps:List AC)
 |fv (ps rs:List Ty) (g:aa ps->aa rs)
 |pv (ps rs:List Ty) (g:aa ps->aa rs) (D:aa ps->Prop)
 |mp (es:List (Int×Nat))
 |fs (es:List (Int×Nat)) (n:Int)
 |ic (es:List (Int×Nat)) (t:Ty) (x:Int×t.q)
 |ifp (ty:TypeId) (id:Nat)
 |fb (f:FuncId) (id:Nat)
inductive AV where
 |dead
 |c (a:AC)
 |agg (cs:List AC)
 |tup (vs:List AV)
 |optr (id sz i off:Nat)
 |aptr (base:AC) (n:Nat) (i:Int)
 |maybe (g:Tmp) (want:Bool) (v:AV)
inductive Ob where
 |gone
 |box (ty:TypeId) (cs:List AC)
 |fbox (cs:List AC)
 |arr (ety:TypeId) (t:Ty) (l:List t.q)
 |frz (t:Ty) (l:List t.q)
 |hole (ety:TypeId) (t:Ty) (l:List t.q) (i:Nat)
def enc:(t:Ty)->t.q->List AC
 |.int k,n=>[.int k n]
 |.bool,b=>[.bool b]
 |.str,s=>[.str s]
 |.sl e,l=>[.sl e l]
 |.unit,_=>[]
 |.pair a b,x=>enc a x.1++enc b x.2
 |.fm c,_=>[.mp c]
 |.ic c t,x=>[.ic c t x]
 |.fc (U f),_=>[.fn f []]
 |.fc V,_=>[.dead]
def gV:{t:Ty}->(x:t.q)->(enc t x).length=t.size
 |.int _,_ | .bool,_ | .str,_ | .sl _,_ | .unit,_ | .fm _,_ | .ic _ _,_ | .fc (U _),_ | .fc V,_=>rfl
 |.pair a b,x=>by simp[enc,Ty.size,gV x.1,gV x.2]
def cY{t u:Ty}(h:t=u)(l:List t.q):List u.q:=h ▸ l
def rk(k:IntKind):List AC->Option (Int×List AC)
 |.int a n::r=>if k=a then U (n,r)else V
 |_=>V
def rj:List AC->Option (Bool×List AC)
 |.bool b::r=>U (b,r)
 |_=>V
def rm:List AC->Option (ByteArray×List AC)
 |.str s::r=>U (s,r)
 |_=>V
def rl(e:Ty):List AC->Option (List e.q×List AC)
 |.sl t l::r=>if h:t=e then U (cY h l,r)else V
 |.slx t l::r=>if h:t=e then U (cY h l,r)else V
 |.nil::r=>U ([],r)
 |_=>V
def tQ(b:List (Int×Nat)):List AC->Option (Unit×List AC)
 |.mp a::r=>if a=b then U ((),r)else V
 |_=>V
def qnt{t u:Ty}(h:t=u)(x:Int×t.q):Int×u.q:=h ▸ x
def tP(b:List (Int×Nat))(t:Ty):List AC->Option ((Int×t.q)×List AC)
 |.ic a c x::r=>if h:c=t then if a=b then U (qnt h x,r)else V else V
 |_=>V
def tO(f:Option Nat):List AC->Option (Unit×List AC)
 |.fn a []::r=>if f=U a then U ((),r)else V
 |.dead::r=>if f=V then U ((),r)else V
 |_=>V
def dec:(t:Ty)->List AC->Option (t.q×List AC)
 |.int k,c=>rk k c
 |.bool,c=>rj c
 |.str,c=>rm c
 |.sl e,c=>rl e c
 |.unit,c=>U ((),c)
 |.pair a b,c=>match dec a c with
  |some (x,h)=>match dec b h with
   |some (y,g)=>U ((x,y),g)
   |none=>V
  |none=>V
 |.fm d,c=>tQ d c
 |.ic d t,c=>tP d t c
 |.fc f,c=>tO f c
inductive PT where
 |d (t:Ty)
 |ptr (t:Ty)
 |fn (ps rs:List Ty)
 |pf (ps rs:List Ty)
 |pfn (ps rs:List Ty)
 |pk (f:Nat)
 deriving DecidableEq
@[reducible] def PT.q:PT->Type
 |.d t=>t.q
 |.ptr t=>t.q
 |.fn a b=>aa a->aa b
 |.pf a b=>(aa a->aa b)×(aa a->Prop)
 |.pfn a b=>aa a->aa b
 |.pk _=>Unit
@[reducible] def ap:List PT->Type
 |[]=>Unit
 |t::r=>t.q×ap r
def Jk(P:Program)(w:World)(F:Nat->Prop):(p:PT)->p.q->Value->Prop
 |.d t,x,v=>bJ w F t x v
 |.ptr t,x,v=>∃ a,v=.pointer (U a)/\F a.block/\aG w F t x (λj u=>w.cell? (a.add j)=U u)
 |.fn b c,g,v=>lL P w F b c g v
 |.pf b c,g,v=>nH P w F b c g.1 g.2 v
 |.pfn b c,g,v=>∃ a u,v=.pointer (U a)/\F a.block/\w.cell? (a.add 0)=U u/\lL P w F b c g u
 |.pk f,_,v=>∃ a,v=.pointer (U a)/\F a.block/\w.cell? (a.add 0)=U (.func (.func f) #[] #[])
def dm(P:Program)(w:World)(F:Nat->Prop):(c:List PT)->ap c->List Value->Prop
 |[],_,b=>b=[]
 |t::r,x,b=>∃ v a,b=v::a/\Jk P w F t x.1 v/\dm P w F r x.2 a
def az:List Prop->Prop
 |[]=>True
 |[p]=>p
 |p::r=>p/\az r
def lk{p:Prop}{r:List Prop}:az (p::r)↔p/\az r:=by
 cases r with
 |nil=>exact⟨λh=>⟨h,uT⟩,λh=>h.1⟩
 |cons q r=>exact Iff.rfl
def lj{a b:List Prop}:az (a++b)↔az a/\az b:=by
 induction a with
 |nil=>exact⟨λh=>⟨uT,h⟩,λh=>h.2⟩
 |cons p a c=>rw[uc5,lk,lk,c,and_assoc]
structure Ct where
 ps:List PT
 rs:List Ty
 f:ap ps->aa rs
 ok:ap ps->List Prop
def ag(P:Program)(c:FuncId)(d:Ct):Prop:=
 (∀ a w,(callFunc c a).run P w=.ok (.enter c a) w) /\
 ∀ (w:World) (F:Nat->Prop) e g,(∀ b,F b->b<w.heap.size)->dm P w F d.ps e g->az (d.ok e)->Calls P c g.toArray w (iB w F d.rs (d.f e))
structure PV where
 ty:TypeId
 k:IntKind
 n:Int
def PV.val(p:PV):Value:=if p.ty<1000000 then .iface p.ty (.int p.k p.n)else .iface (p.ty-1000000) (.agg #[.int p.k p.n])
def qd9{p:PV}(h:p.ty<1000000):p.val=.iface p.ty (.int p.k p.n):=uf0 h
def qd8{p:PV}{T:TypeId}(h:p.ty=T+1000000):p.val=.iface T (.agg #[.int p.k p.n]):=by
 unfold PV.val;have b:¬ p.ty<1000000:=by rw[h];exact Nat.not_lt.2 (Nat.le_add_left _ _)
 have a:p.ty-1000000=T:=by rw[h];exact ub0 T 1000000
 rw[uf1 b,a]
structure Pc where
 ps:List PT
 rs:List Ty
 f:ap ps->aa rs
 bad:ap ps->Bool
 pv:ap ps->PV
 ok:ap ps->List Prop
def lM(P:Program)(d:FuncId)(c:Pc):Prop:=
 (∀ a w,(callFunc d a).run P w=.ok (.enter d a) w) /\
 ∀ (w:World) (F:Nat->Prop) g h,(∀ b,F b->b<w.heap.size)->dm P w F c.ps g h->az (c.ok g)->Calls P d h.toArray w λe i=>(c.bad g=Y/\iB w F c.rs (c.f g) e i)\/(c.bad g=Z/\e=.panicked [{ v:=(c.pv g).val,recovered:=Y }]/\Below w.heap.size w i)
structure St where
 n:Nat
 sl:Nat->AV
 mem:Nat->Option Ob
 gs:Nat->AV
def av(mem:Nat->Option Ob)(γ:Nat->Value)(id:Nat)(v:Value):Prop:=
 match mem id with
 |none=>False
 |some .gone=>True
 |some _=>v=γ id
def jS:Option (Int×Nat)->Value
 |some x=>.func (.func x.2) #[] #[]
 |none=>.nilFunc
section
variable (P:Program) (w:World) (F:Nat->Prop) (R:Nat->Value->Prop)
mutual
def bx:AC->Value->Prop
 |.dead,_=>True
 |.int k n,v=>v = .int k n/\inR k n
 |.bool b,v=>v = .bool b
 |.str s,v=>v = .string s/\s.size<=maxLen
 |.nil,v=>v = .slice none 0 0
 |.sl t l,v=>aG w F (.sl t) l (λ_ u=>u=v)
 |.slx t l,v=>∃ A,v = .slice A l.length l.length/\aG w F (.sl t) l (λ_ u=>u=v)
 |.own id,v=>R id v
 |.ptr id off,v=>∃ b,R id (.pointer (some ⟨b,0,none⟩))/\v = .pointer (some ⟨b,off,none⟩)
 |.sptr cs,v=>∃ ad,v = .pointer (some ad)/\F ad.block/\aS cs (λj u=>w.cell? (ad.add j)=some u)
 |.fn f caps,v=>∃ vs:Array Value,v = .func (.func f) #[] vs/\vs.size=caps.length/\aS caps (λj u=>vs[j]? = some u)
 |.fv ps rs g,v=>lL P w F ps rs g v
 |.pv ps rs g D,v=>nH P w F ps rs g D v
 |.mp es,v=>∃ r arr ck,v = .map (some r)/\F r/\w.heap[r]? = some (.map arr ck)/\arr.toList.map (λe=>(e.key,e.val))=es.map (λx=>(Value.int .i64 x.1,Value.func (.func x.2) #[] #[]))
 |.fs es n,v=>v=jS (es.find? (λx=>x.1==n))
 |.ic es t x,v=>aG w F (.ic es t) x (λ_ u=>u=v)
 |.ifp ty id,v=>∃ b,R id (.pointer (some ⟨b,0,none⟩))/\v = .iface ty (.pointer (some ⟨b,0,none⟩))
 |.fb f id,v=>∃ b,R id (.pointer (some ⟨b,0,none⟩))/\v = .func (.func f) #[.pointer (some ⟨b,0,none⟩)] #[]
def aS:List AC->(Nat->Value->Prop)->Prop
 |[],_=>True
 |c::r,g=>(∃ u,g 0 u/\u.oneCell'=true/\bx c u)/\aS r (λj u=>g (j+1) u)
end
mutual
def aK:AV->Value->Prop
 |.dead,_=>True
 |.c a,v=>v.oneCell'=true/\bx P w F R a v
 |.agg cs,v=>∃ arr:Array Value,v = .agg arr/\arr.size=cs.length/\aS P w F R cs (λj u=>arr[j]? = some u)
 |.tup vs,v=>∃ arr:Array Value,v = .tuple arr/\arr.size=vs.length/\nG vs (λj u=>arr[j]? = some u)
 |.optr id sz i off,v=>∃ A n c,R id (.slice (some A) n c)/\v = .pointer (some (A.add (i*sz+off)))
 |.aptr base n i,v=>∃ ad,bx P w F R base (.pointer (some ad))/\0<=i/\i<n/\v = .pointer (some (ad.add i.toNat))
 |.maybe _ _ _,_=>False
def nG:List AV->(Nat->Value->Prop)->Prop
 |[],_=>True
 |c::r,g=>(∃ u,g 0 u/\aK c u)/\nG r (λj u=>g (j+1) u)
end
end
section
variable {P:Program} {w w':World} {F F':Nat->Prop} {R R':Nat->Value->Prop}
mutual
def bx.mono (hF:∀ b,F b->F' b) (hw:∀ b,F b->w'.heap[b]? = w.heap[b]?) (hR:∀ id v,R id v->R' id v):(c:AC) -> {v:Value}->bx P w F R c v->bx P w' F' R' c v
 |.dead,_,_=>trivial
 |.int _ _,_,h=>h
 |.bool _,_,h=>h
 |.str _,_,h=>h
 |.nil,_,h=>h
 |.sl _ _,_,h=>by
  simp only[bx] at h |-;exact aG.mono (t:=.sl _) hF hw (λ_ _ _ h=>h) h
 |.slx _ _,_,⟨A,h1,h2⟩=>⟨A,h1,aG.mono (t:=.sl _) hF hw (λ_ _ _ h=>h) h2⟩
 |.own id,_,h=>hR id _ h
 |.ptr id off,_,⟨u,h1,h2⟩=>⟨u,hR _ _ h1,h2⟩
 |.sptr cs,_,⟨ad,h1,h2,h3⟩=>⟨ad,h1,hF _ h2,aS.mono hF hw hR cs (λj u hu=>by
   rw[<- hu];refine ubd ?_;have:(ad.add j).block=ad.block:=by unfold Addr.add; split<;>rfl
   rw[this];exact hw _ h2) h3⟩
 |.fn f caps,_,⟨vs,h1,h2,h3⟩=>⟨vs,h1,h2,aS.mono hF hw hR caps (λ_ _ h=>h) h3⟩
 |.fv _ _ _,_,h=>by
  simp only[bx] at h |-;exact lL.mono hF hw h
 |.pv _ _ _ _,_,h=>by
  simp only[bx] at h |-;exact nH.mono hF hw h
 |.mp _,_,h=>by
  obtain⟨r,arr,ck,h1,h2,h3,h4⟩:=h;exact⟨r,arr,ck,h1,hF r h2,(hw r h2).trans h3,h4⟩
 |.fs _ _,_,h=>h
 |.ic _ _ _,_,h=>by
  simp only[bx] at h |-;exact aG.mono (t:=.ic _ _) hF hw (λ_ _ _ h=>h) h
 |.ifp _ _,_,⟨b,h1,h2⟩=>⟨b,hR _ _ h1,h2⟩
 |.fb _ _,_,⟨b,h1,h2⟩=>⟨b,hR _ _ h1,h2⟩
def aS.mono (hF:∀ b,F b->F' b) (hw:∀ b,F b->w'.heap[b]? = w.heap[b]?) (hR:∀ id v,R id v->R' id v) :
  (cs:List AC) -> {g g':Nat->Value->Prop}->(∀ j u,g j u->g' j u)->aS P w F R cs g->aS P w' F' R' cs g'
 |[],_,_,_,_=>trivial
 |c::r,_,_,hg,⟨⟨u,h1,h2,h3⟩,h4⟩=>⟨⟨u,hg _ _ h1,h2,bx.mono hF hw hR c h3⟩,aS.mono hF hw hR r (λ_ _ h=>hg _ _ h) h4⟩
end
mutual
def aK.mono (hF:∀ b,F b->F' b) (hw:∀ b,F b->w'.heap[b]? = w.heap[b]?) (hR:∀ id v,R id v->R' id v):(c:AV) -> {v:Value}->aK P w F R c v->aK P w' F' R' c v
 |.dead,_,_=>trivial
 |.c a,_,h=>⟨h.1,bx.mono hF hw hR a h.2⟩
 |.agg cs,_,⟨arr,h1,h2,h3⟩=>⟨arr,h1,h2,aS.mono hF hw hR cs (λ_ _ h=>h) h3⟩
 |.tup vs,_,⟨arr,h1,h2,h3⟩=>⟨arr,h1,h2,nG.mono hF hw hR vs (λ_ _ h=>h) h3⟩
 |.optr _ _ _ _,_,⟨A,n,c,h1,h2⟩=>⟨A,n,c,hR _ _ h1,h2⟩
 |.aptr base _ _,_,⟨ad,h1,h2⟩=>⟨ad,bx.mono hF hw hR base h1,h2⟩
 |.maybe _ _ _,_,h=>h
def nG.mono (hF:∀ b,F b->F' b) (hw:∀ b,F b->w'.heap[b]? = w.heap[b]?) (hR:∀ id v,R id v->R' id v) :
  (cs:List AV) -> {g g':Nat->Value->Prop}->(∀ j u,g j u->g' j u)->nG P w F R cs g->nG P w' F' R' cs g'
 |[],_,_,_,_=>trivial
 |c::r,_,_,hg,⟨⟨u,h1,h3⟩,h4⟩=>⟨⟨u,hg _ _ h1,aK.mono hF hw hR c h3⟩,nG.mono hF hw hR r (λ_ _ h=>hg _ _ h) h4⟩
end
end
def aS.at_:{b:List AC} -> {g:Nat->Value->Prop}->aS P w F R b g ->
  ∀ {j:Nat} {c:AC},b[j]?= U c->∃ u,g j u/\u.oneCell'=Z/\bx P w F R c u
 |[],_,_,_,_,h=>by simp at h
 |_::_,_,h,0,_,a=>by simp at a;subst a;exact h.1
 |_::_,_,h,j+1,_,a=>aS.at_ h.2 (by simpa using a)
def mF:(a:List AC) -> {g:Nat->Value->Prop} ->
  (∀ (j:Nat) (c:AC),a[j]?= U c->∃ u,g j u/\u.oneCell'=Z/\bx P w F R c u)->aS P w F R a g
 |[],_,_=>trivial
 |c::r,_,h=>⟨h 0 c rfl,mF r (λj b d=>h (j+1) b (by simpa using d))⟩
def aS.append(a b:List AC)(i:aS P w F R a g)(k:aS P w F R b (λj u=>g (a.length+j) u)):aS P w F R (a++b) g:=by
 refine mF _ λj c d=>?_;rcases uer j a.length with h|h
 rw[uaj h]at d;exact i.at_ d;rw[uae h]at d;obtain⟨u,e,f⟩:=k.at_ d;rw[show a.length+(j-a.length)=j from by omega]at e;exact⟨u,e,f⟩
def aG.enc:(t:Ty)->(x:t.q) -> {g:Nat->Value->Prop}->aG w F t x g->aS P w F R (Ab.enc t x) g
 |.int k,n,g,h=>⟨⟨_,h.1,rfl,rfl,h.2⟩,uT⟩
 |.bool,b,g,h=>⟨⟨_,h,rfl,rfl⟩,uT⟩
 |.str,b,g,h=>⟨⟨_,h.1,rfl,rfl,h.2⟩,uT⟩
 |.sl e,l,g,h=>by obtain⟨A,c,v,d,f,i⟩:=h;exact⟨⟨_,v,rfl,⟨A,c,rfl,d,f,i⟩⟩,uT⟩
 |.unit,_,_,_=>trivial
 |.pair a b,x,g,h=>aS.append _ _ (aG.enc a x.1 h.1) (by rw[gV];exact aG.enc b x.2 h.2)
 |.fm s,_,g,h=>by obtain⟨r,m,p,d,f,i,o⟩:=h;exact⟨⟨_,d,rfl,⟨r,m,p,rfl,f,i,o⟩⟩,uT⟩
 |.ic s t,x,g,h=>by
  rcases h with ⟨z,u,d,f,i,o,y⟩|⟨d,f⟩
  exact⟨⟨_,f,rfl,.inl ⟨z,u,d,rfl,i,o,y⟩⟩,uT⟩;exact⟨⟨_,f,rfl,.inr ⟨d,rfl⟩⟩,uT⟩
 |.fc (U k),_,g,h=>by obtain⟨u,d,f,i⟩:=h;exact⟨⟨u,d,f,#[],i k rfl,rfl,uT⟩,uT⟩
 |.fc V,_,g,h=>by obtain⟨u,d,f,_⟩:=h;exact⟨⟨u,d,f,uT⟩,uT⟩
def aS.split(a b:List AC)(h:aS P w F R (a++b) g):aS P w F R a g/\aS P w F R b (λj u=>g (a.length+j) u):=
 ⟨mF _ λj c d=>h.at_ (by rw[uaj (uak.1 d).1];exact d),
  mF _ λj c d=>h.at_ (j:=a.length+j) (by rw[uae (Nat.le_add_right _ _),uax];exact d)⟩
def Qf:(t:Ty)->(x:t.q) -> {g:Nat->Value->Prop}->aS P w F R (Ab.enc t x) g->aG w F t x g
 |.int k,n,g,⟨⟨u,d,_,i,m⟩,_⟩=>⟨i ▸ d,m⟩
 |.bool,b,g,⟨⟨u,d,_,i⟩,_⟩=>by obtain rfl:u=.bool b:=i;exact d
 |.str,b,g,⟨⟨u,d,_,i,m⟩,_⟩=>⟨i ▸ d,m⟩
 |.sl e,l,g,⟨⟨u,d,_,A,c,i,m⟩,_⟩=>⟨A,c,i ▸ d,m⟩
 |.unit,_,_,_=>trivial
 |.pair a b,x,g,h=>by obtain⟨d,o⟩:=aS.split _ _ h;rw[gV]at o;exact⟨Qf a x.1 d,Qf b x.2 o⟩
 |.fm D,_,g,⟨⟨u,d,_,r,y,C,i,m⟩,_⟩=>⟨r,y,C,i ▸ d,m⟩
 |.ic D t,x,g,⟨⟨u,d,_,i⟩,_⟩=>by
  rcases i with ⟨G,v,p,s,B⟩|⟨p,s⟩
  exact .inl ⟨G,v,p,s ▸ d,B⟩;exact .inr ⟨p,s ▸ d⟩
 |.fc (U k),_,g,⟨⟨u,d,o,H,i,m,_⟩,_⟩=>by have E:=Array.size_eq_zero_iff.mp m;subst E;exact⟨u,d,o,λf z=>by cases z;exact i⟩
 |.fc V,_,g,⟨⟨u,d,o,_⟩,_⟩=>⟨u,d,o,λf z=>nomatch z⟩
section
variable {P:Program} {w:World} {F:Nat->Prop} {R:Nat->Value->Prop}
def zku{a:List AC}{r:List AC}(h:rk k a=U (x,r))(f:aS P w F R a g):
  (g 0 (.int k x)/\inR k x)/\aS P w F R r (λj u=>g (1+j) u):=by
 unfold rk at h;split at h;split at h;rename_i e;subst e;cases h;obtain⟨⟨u,b,_,rfl,c⟩,d⟩:=f;exact⟨⟨b,c⟩,by simpa[ues]using d⟩;cases h;cases h
def zkt{a:List AC}{x:Bool}{r:List AC}(h:rj a=U (x,r))(d:aS P w F R a g):
  g 0 (.bool x)/\aS P w F R r (λj u=>g (1+j) u):=by
 unfold rj at h;split at h;cases h;obtain⟨⟨u,b,_,rfl⟩,c⟩:=d;exact⟨b,by simpa[ues]using c⟩;cases h
def zkw{a:List AC}{x:ByteArray}{r:List AC}(h:rm a=U (x,r))(e:aS P w F R a g):
  (g 0 (.string x)/\x.size<=maxLen)/\aS P w F R r (λj u=>g (1+j) u):=by
 unfold rm at h;split at h;cases h;obtain⟨⟨u,b,_,rfl,c⟩,d⟩:=e;exact⟨⟨b,c⟩,by simpa[ues]using d⟩;cases h
def zkv{e:Ty}{o:List AC}{x:List e.q}{r:List AC}(h:rl e o=U (x,r))(m:aS P w F R o g):
  aG w F (.sl e) x g/\aS P w F R r (λj u=>g (1+j) u):=by
 unfold rl at h;split at h;split at h;rename_i t l s n;subst n;cases h;obtain⟨⟨u,a,_,b⟩,d⟩:=m;refine⟨?_,by simpa[ues]using d⟩;obtain⟨A,c,f,k⟩:=b;subst f;exact⟨A,c,a,k⟩;cases h;split at h;rename_i t l s n;subst n;cases h;obtain⟨⟨u,a,_,b⟩,d⟩:=m;refine⟨?_,by simpa[ues]using d⟩;obtain⟨_,_,A,c,f,k⟩:=b;subst f;exact⟨A,c,a,k⟩;cases h;cases h;obtain⟨⟨u,a,_,b⟩,d⟩:=m;subst b;exact⟨⟨V,0,a,ufd _,by simp,λi x p=>by simp at p⟩,by simpa[ues]using d⟩;cases h
def aG.dec:(t:Ty) -> {cs:List AC} -> {x:t.q} -> {r:List AC} -> {g:Nat->Value->Prop}->Ab.dec t cs=U (x,r)->aS P w F R cs g ->
  aG w F t x g/\aS P w F R r (λj u=>g (t.size+j) u)
 |.int _,_,_,_,_,h,c=>zku h c
 |.bool,_,_,_,_,h,c=>zkt h c
 |.str,_,_,_,_,h,c=>zkw h c
 |.sl _,_,_,_,_,h,c=>zkv h c
 |.unit,_,_,_,_,h,c=>by obtain⟨_,rfl⟩:=h;exact⟨uT,by simpa[Ty.size]using c⟩
 |.pair a b,cs,x,r,g,h,c=>by simp only[Ab.dec]at h;split at h;rename_i Q M d;split at h;rename_i S N o;cases h;obtain⟨l,e⟩:=aG.dec a d c;obtain⟨m,n⟩:=aG.dec b o e;exact⟨⟨l,m⟩,by simpa[Ty.size,uei]using n⟩;cases h;cases h
 |.fm D,cs,x,r,g,h,c=>by
  simp only[Ab.dec]at h;unfold tQ at h;split at h<;>try trivial
  split at h<;>try trivial
  rename_i y;subst y;obtain⟨_,rfl⟩:=h;obtain⟨⟨u,d,_,p⟩,i⟩:=c;obtain⟨K,s,B,rfl,e,m,n⟩:=p;exact⟨⟨K,s,B,d,e,m,n⟩,by simpa[Ty.size,ues]using i⟩
 |.ic D t,cs,x,r,g,h,c=>by
  simp only[Ab.dec]at h;unfold tP at h;split at h<;>try trivial
  split at h<;>try trivial
  rename_i H;subst H;split at h<;>try trivial
  rename_i y;subst y;cases h;obtain⟨⟨u,d,_,p⟩,i⟩:=c;refine⟨?_,by simpa[Ty.size,ues]using i⟩;rcases p with ⟨L,v,l,e,m,n,C⟩|⟨l,e⟩
  exact .inl ⟨L,v,l,by rw[e];exact d,m,n,C⟩;exact .inr ⟨l,by rw[e];exact d⟩
 |.fc f,cs,x,r,g,h,c=>by
  simp only[Ab.dec]at h;unfold tO at h;split at h<;>try trivial
  split at h<;>try trivial
  rename_i z;subst z;obtain⟨_,rfl⟩:=h;obtain⟨⟨u,d,o,p⟩,i⟩:=c;obtain⟨O,rfl,E,_⟩:=p;have G:=Array.size_eq_zero_iff.mp E;subst G;exact⟨⟨_,d,o,λk A=>by cases A;rfl⟩,by simpa[Ty.size,ues]using i⟩;split at h<;>try trivial
  rename_i z;subst z;obtain⟨_,rfl⟩:=h;obtain⟨⟨u,d,o,_⟩,i⟩:=c;exact⟨⟨u,d,o,λk A=>nomatch A⟩,by simpa[Ty.size,ues]using i⟩
end
def cJ:Nat:=1099511627776
def fh:Nat:=1208925819614629174706176
def fJ(b c a:Nat):Nat:=b+cJ*(1+c+1024*a)
def vC(e:Nat):Nat:=e%cJ
def da(e:Nat):Nat:=(e/cJ-1)%1024
def mz(e:Nat):Nat:=(e/cJ-1)/1024
def Nr(w:World)(sz a:Nat)(v:Value)(i:Nat)(u:Value):Prop:=∃ A n c,v=.slice (U A) n c/\w.cell? (A.add (i*sz+a))=U u
def innB(w:World)(e sz n:Nat)(K:Nat->Prop)(v:Value)(b:Nat):Prop:=∃ i u,i<n/\¬ K i/\Nr w sz (da e) v i u/\u.ownBlock=U b
def cg(w:World):Ob->Value->Nat->Prop
 |.box _ _,v,b=>∃ a,v=.pointer (U a)/\a.block=b
 |.arr e t l,v,b=>v.ownBlock=U b\/(cJ<=e/\innB w e t.size l.length (λ_=>False) v b)\/v=.map (U b)
 |.hole e t l i,v,b=>v.ownBlock=U b\/innB w e t.size l.length (· = i) v b
 |_,_,_=>False
section
variable (P:Program) (B:Nat) (w:World) (F:Nat->Prop) (R:Nat->Value->Prop)
def cy(t:Ty)(l:List t.q)(a:List Value):Prop:=
 ∀ i x,l[i]?= U x->aG w F t x (λj u=>a[i*t.size+j]?= U u)
structure RwOK (v:Value) (e:Nat) (t:Ty) (l:List t.q) (K:Nat->Prop) (xs:List Value):Prop where
 own:w.ownsRow B (vC e) t.size v l.length xs
 nf:∀ g,v.ownBlock=some g->¬ F g
 one:∀ u∈xs,u.oneCell'=true
 cells:∀ (i:Nat) x k c,l[i]?= some x->(enc t x)[k]?= some c->k≠da e->∃ u,xs[i*t.size+k]?= some u/\bx P w F (λ_ _=>False) c u
 inn:∀ (i:Nat) x,l[i]?= some x->¬ K i->∃ t' li u ys,(enc t x)[da e]?= some (.sl t' li)/\xs[i*t.size+da e]?= some u/\w.ownsRow B (mz e) t'.size u li.length ys/\cy w F t' li ys/\(∀ y∈ys,y.oneCell'=true) /\
  ∀ b,u.ownBlock=some b->v.ownBlock≠some b/\¬ F b
 disj:∀ i j ui uj b,i<l.length->j<l.length->¬ K i->¬ K j->i≠j->xs[i*t.size+da e]?= some ui->xs[j*t.size+da e]?= some uj->ui.ownBlock=some b->uj.ownBlock≠some b
def Aq(t:Ty)(l:List t.q)(v:Value):Prop:=
 ∃ b a c,v=.map (U b)/\w.heap[b]?= U (.map a c)/\¬ F b/\B<=b/\t.flat=Z/\a.size=l.length/\l.length<=maxLen /\
  ∀ (i:Nat) x,l[i]?= U x->∃ e,a[i]?= U e/\e.key.oneCell'=Z/\e.val.oneCell'=Z/\aG w (λ_=>False) t x (λj u=>[e.key,e.val][j]?= U u)
def iT(v:Value)(a:Nat)(t:Ty)(l:List t.q):Prop:=
 ∃ b,w.ownsRow B a t.size v l.length b/\(∀ g,v.ownBlock=U g->¬ F g)/\cy w F t l b/\(∀ u∈b,u.oneCell'=Z)
def iA(v:Value):Ob->Prop
 |.gone=>True
 |.box f d=>∃ b c,v=.pointer (U ⟨b,0,V⟩)/\w.heap[b]?= U (.cells c f (0,0))/\¬ F b/\B<=b/\c.size=d.length/\aS P w F R d (λj u=>c[j]?= U u)
 |.fbox d=>∃ b,v=.pointer (U ⟨b,0,V⟩)/\F b/\aS P w F R d (λj u=>w.cell? ⟨b,j,V⟩=U u)
 |.arr a t l=>(a<cJ/\iT B w F v a t l)\/(cJ<=a/\a<fh/\∃ e,RwOK P B w F v a t l (λ_=>False) e)\/(fh<=a/\Aq B w F t l v)
 |.frz t l=>aG w F (.sl t) l (λ_ u=>u=v)
 |.hole a t l i=>cJ<=a/\a<fh/\∃ e,RwOK P B w F v a t l (· = i) e
end
structure MemOK (P:Program) (B:Nat) (w:World) (F:Nat->Prop) (γ:Nat->Value) (m:Nat->Option Ob):Prop where
 ob:∀ id o,m id=some o->iA P B w F (av m γ) (γ id) o
 apart:∀ i j oi oj b,i≠j->m i=some oi->m j=some oj->cg w oi (γ i) b->¬ cg w oj (γ j) b
structure Step (B:Nat) (w:World) (F:Nat->Prop) (γ:Nat->Value) (m:Nat->Option Ob) (w':World) (F':Nat->Prop) (γ':Nat->Value) (m':Nat->Option Ob):Prop where
 hF:∀ b,F b->F' b
 hw:∀ b,F b->w'.heap[b]?= w.heap[b]?
 hR:∀ id v,av m γ id v->av m' γ' id v
 old:∀ b,b<B->w'.heap[b]?= w.heap[b]?
 os:w'.os=w.os
 tape:w'.tape=w.tape
 output:w'.output=w.output
 size:w.heap.size<=w'.heap.size
 bd:∀ b,F' b->b<w'.heap.size
 new:∀ b,F' b->F b\/B<=b
section
variable {P:Program} {B:Nat} {w w' w'':World} {F F' F'':Nat->Prop} {γ γ' γ'':Nat->Value} {m m' m'':Nat->Option Ob}
def Step.refl(a:∀ b,F b->b<w.heap.size):Step B w F γ m w F γ m:=
 ⟨λ_ h=>h,λ_ _=>rfl,λ_ _ h=>h,λ_ _=>rfl,rfl,rfl,rfl,ufd _,a,λ_ h=>.inl h⟩
def Step.trans(h:Step B w F γ m w' F' γ' m')(k:Step B w' F' γ' m' w'' F'' γ'' m''):Step B w F γ m w'' F'' γ'' m'':=
 ⟨λb a=>k.hF b (h.hF b a),λb a=>(k.hw b (h.hF b a)).trans (h.hw b a),λi v d=>k.hR i v (h.hR i v d),λb a=>(k.old b a).trans (h.old b a),
  k.os.trans h.os,k.tape.trans h.tape,k.output.trans h.output,ueq h.size k.size,k.bd,λb a=>(k.new b a).elim (λc=>h.new b c) .inr⟩
def Step.repA{a:AV}(h:Step B w F γ m w' F' γ' m')(b:aK P w F (av m γ) a v):aK P w' F' (av m' γ') a v:=aK.mono h.hF h.hw h.hR a b
def Step.repCL{a:List AC}(h:Step B w F γ m w' F' γ' m')(b:aS P w F (av m γ) a g):aS P w' F' (av m' γ') a g:=
 aS.mono h.hF h.hw h.hR a (λ_ _ h=>h) b
def cy.mono{t:Ty}{l:List t.q}(a:∀ b,F b->F' b)(d:∀ b,F b->w'.heap[b]?= w.heap[b]?)(h:cy w F t l xs):cy w' F' t l xs:=
 λi x c=>(h i x c).mono a d (λ_ _ _ h=>h)
def uv{sz:Nat}(h:w.ownsRow B e sz v n xs)(a:xs[i*sz+off]?= U u):Nr w sz off v i u:=by
 have d:=λ{g}=>h.cells (g:=g);rcases h.2 with ⟨_,rfl⟩|⟨g,b,c,rfl,_⟩
 have:=h.1;simp only[Nat.zero_mul,uaz]at this;subst this;simp at a;exact⟨_,_,_,rfl,d rfl _ u a⟩
def WD{sz:Nat}{b:Value}(h:w.ownsRow B e sz v n xs)(g:xs[i*sz+off]?= U b)(l:Nr w sz off v i u):u=b:=by obtain⟨A,k,c,rfl,d⟩:=l;obtain⟨m,p,o,f,a⟩:=uv h g;cases f;rw[d]at a;exact(ud4 a)
def WC{e:Nat}{t:Ty}{l:List t.q}(d:RwOK P B w F v e t l K xs)(h:innB w e t.size l.length K v b):b<w.heap.size/\¬ F b/\B<=b:=by obtain⟨i,u,k,m,n,a⟩:=h;obtain⟨p,o,r,s,_,f,c,_,_,g⟩:=d.inn i _ (uaq k) m;obtain rfl:=WD d.own f n;exact⟨(c.lt b a).2,(g b a).2,(c.lt b a).1⟩
def jN{id:Nat}{o:Ob}(h:iA P B w F R (γ id) o)(d:cg w o (γ id) b):b<w.heap.size/\¬ F b/\B<=b:=by
 cases o with
 |gone=>exact d.elim
 |fbox z=>exact d.elim
 |frz t l=>exact d.elim
 |box E z=>obtain⟨y,arr,e,g,p,r,_⟩:=h;obtain⟨a,v,rfl⟩:=d;rw[e]at v;cases v;exact⟨(uaf.1 g).1,p,r⟩
 |arr m t l=>
  rcases h with ⟨s,x,e,g,_⟩|⟨f,_,x,e⟩|⟨f,y,D,C,e,g,p,r,_⟩
  rcases d with d|⟨f,_⟩|d
  exact⟨(e.lt b d).2,g b d,(e.lt b d).1⟩;exact absurd s (Nat.not_lt.2 f);rcases e.2 with ⟨k,_⟩|⟨_,_,_,k,_⟩<;>(rw[d]at k;cases k)
  rcases d with d|⟨_,d⟩|d
  exact⟨(e.own.lt b d).2,e.nf b d,(e.own.lt b d).1⟩;exact WC e d;rcases e.own.2 with ⟨k,_⟩|⟨_,_,_,k,_⟩<;>(rw[d]at k;cases k)
  rw[e]at d;rcases d with d|⟨_,i,u,_,_,⟨A,n,c,d,_⟩,_⟩|d
  cases d;cases d;cases d;exact⟨(uaf.1 g).1,p,r⟩
 |hole m t l i=>
  obtain⟨_,_,x,e⟩:=h;rcases d with d|d
  exact⟨(e.own.lt b d).2,e.nf b d,(e.own.lt b d).1⟩;exact WC e d
def iT.of{e:Nat}{t:Ty}{l:List t.q}(h:iA P B w F R v (.arr e t l))(a:e<cJ):iT B w F v e t l:=by
 rcases h with ⟨_,h⟩|⟨k,_⟩|⟨k,_⟩
 exact h;exact absurd a (Nat.not_lt.2 k);exact absurd a (Nat.not_lt.2 (ueq (by decide) k))
def oa{e:Nat}{t:Ty}{l:List t.q}(a:e<cJ)(c:∀ b,v ≠ .map (U b)):cg w (.arr e t l) v b↔v.ownBlock=U b:=
 ⟨λh=>by
  rcases h with h|⟨h,_⟩|h
  exact h;exact absurd a (Nat.not_lt.2 h);exact absurd h (c b),.inl⟩
def qag{e:Nat}{t:Ty}{l:List t.q}(h:iA P B w F R v (.arr e t l))(d:e<fh):∃ b xs,w.ownsRow B b t.size v l.length xs/\∀ g,v.ownBlock=U g->¬ F g:=by
 rcases h with ⟨_,xs,a,c,_⟩|⟨_,_,xs,a⟩|⟨k,_⟩
 exact⟨_,xs,a,c⟩;exact⟨_,xs,a.own,a.nf⟩;exact absurd d (Nat.not_lt.2 k)
def qg{sz:Nat}(h:w.ownsRow B e sz v n xs)(b:Nat):v ≠ .map (U b):=by rintro rfl;rcases h.2 with ⟨k,_⟩|⟨_,_,_,k,_⟩<;>cases k
def rS{sz:Nat}(h:w.ownsRow B e sz v n xs)(i:∀ b,v.ownBlock=U b->w'.heap[b]?= w.heap[b]?):w'.ownsRow B e sz v n xs:=by
 refine⟨h.1,?_⟩;rcases h.2 with l|⟨g,c,d,rfl,f,k,a⟩
 exact .inl l;exact .inr ⟨g,c,d,rfl,f,(i g rfl).trans k,a⟩
def WB{e sz:Nat}(d:∀ b,v.ownBlock=U b->w'.heap[b]?= w.heap[b]?):innB w' e sz n K v b->innB w e sz n K v b:=by
 rintro⟨i,u,f,g,⟨A,k,c,rfl,h⟩,a⟩;refine⟨i,u,f,g,⟨A,k,c,rfl,?_⟩,a⟩;rw[<- h];refine(ubd ?_).symm;have:(A.add (i*sz+da e)).block=A.block:=by unfold Addr.add;split<;>rfl
 rw[this];exact d _ rfl
def xy{o:Ob}(e:∀ b,cg w o v b->w'.heap[b]?= w.heap[b]?):cg w' o v b->cg w o v b:=by
 intro c;cases o with
 |gone=>exact c
 |fbox f=>exact c
 |frz t l=>exact c
 |box g f=>exact c
 |hole d t l i=>exact c.imp id (WB (λb a=>e b (.inl a)))
 |arr d t l=>exact c.imp id (.imp (λh=>⟨h.1,WB (λb a=>e b (.inl a)) h.2⟩) id)
def RwOK.innB{e:Nat}{t:Ty}{l:List t.q}(h:RwOK P B w F v e t l K xs)(c:i<l.length)(d:¬ K i)(f:xs[i*t.size+da e]?= U u)(a:u.ownBlock=U b):Ab.innB w e t.size l.length K v b:=
 ⟨i,u,c,d,uv h.own f,a⟩
def RwOK.keep{e:Nat}{t:Ty}{l:List t.q}(h:RwOK P B w F v e t l K xs)(p:∀ b,F b->F' b)(r:∀ b,F b->w'.heap[b]?= w.heap[b]?)(n:∀ b,v.ownBlock=U b\/Ab.innB w e t.size l.length K v b->w'.heap[b]?= w.heap[b]? /\ ¬ F' b):RwOK P B w' F' v e t l K xs:=
 ⟨rS h.own (λb d=>(n b (.inl d)).1),λg H=>(n g (.inl H)).2,h.one,λi x k c f G m=>by
   obtain⟨u,D,E⟩:=h.cells i x k c f G m;exact⟨u,D,bx.mono p r (λ_ _ h=>h) c E⟩,
  λi x f m=>by obtain⟨M,L,u,N,s,o,y,z,A,C⟩:=h.inn i x f m;have d:=λb d=>n b (.inr (h.innB (uak.1 f).1 m o d));exact⟨M,L,u,N,s,o,rS y (λb a=>(d b a).1),z.mono p r,A,λb a=>⟨(C b a).1,(d b a).2⟩⟩,
  h.disj⟩
def iA.keep{o:Ob}(h:iA P B w F R v o)(k:∀ b,F b->F' b)(n:∀ b,F b->w'.heap[b]?= w.heap[b]?)(H:∀ id v,R id v->R' id v)(p:∀ b,cg w o v b->w'.heap[b]?= w.heap[b]? /\ ¬ F' b):iA P B w' F' R' v o:=by
 cases o with
 |gone=>trivial
 |fbox z=>obtain⟨b,a,f,r⟩:=h;exact⟨b,a,k b f,aS.mono k n H z (λj u Q=>by rw[<- Q];exact ubd (n b f)) r⟩
 |frz t l=>simp only[iA]at h |-;exact aG.mono k n (λ_ _ _ h=>h) h
 |box ty z=>obtain⟨b,arr,a,f,r,s,E,G⟩:=h;obtain⟨A,C⟩:=p b ⟨_,a,rfl⟩;exact⟨b,arr,a,A.trans f,C,s,E,aS.mono k n H z (λ_ _ h=>h) G⟩
 |arr D t l=>
  rcases h with ⟨d,y,a,f,r,s⟩|⟨c,d,y,a⟩|⟨c,b,L,K,a,f,r,s,E,G,M,N⟩
  exact .inl ⟨d,y,rS a (λb m=>(p b (.inl m)).1),λg O=>(p g (.inl O)).2,r.mono k n,s⟩;exact .inr (.inl ⟨c,d,y,a.keep k n (λb m=>p b (m.imp id (λh=>.inl ⟨c,h⟩)))⟩);obtain⟨A,C⟩:=p b (.inr (.inr a));exact .inr (.inr ⟨c,b,L,K,a,A.trans f,C,s,E,G,M,λi x S=>by obtain⟨e,T,W,k3,k4⟩:=N i x S;exact⟨e,T,W,k3,k4.mono (λ_ h=>h) (λ_ h=>h.elim) (λ_ _ _ h=>h)⟩⟩)
 |hole D t l i=>obtain⟨c,d,y,a⟩:=h;exact⟨c,d,y,a.keep k n p⟩
def MemOK.keep(h:MemOK P B w F γ m)(r:∀ b,F b->F' b)(s:∀ b,F b->w'.heap[b]?= w.heap[b]?)(c:∀ id o b,m id=U o->cg w o (γ id) b->w'.heap[b]?= w.heap[b]? /\ ¬ F' b):MemOK P B w' F' γ m:=
 ⟨λid o l=>(h.ob id o l).keep r s (λ_ _ h=>h) (λb a=>c id o b l a),λi j n p b f g k d e=>h.apart i j n p b f g k (xy (λb a=>(c i n b g a).1) d) (xy (λb a=>(c j p b k a).1) e)⟩
def Step.below(f:MemOK P B w F γ m)(n:B<=w.heap.size)(d:∀ b,F b->b<w.heap.size)(a:Below w.heap.size w w')(e:∀ b,F b->F' b)(c:∀ b,F' b->(F b\/w.heap.size<=b)/\b<w'.heap.size):
  Step B w F γ m w' F' γ m/\MemOK P B w' F' γ m:=by
 refine⟨⟨e,λb h=>a.block b (d b h),λ_ _ h=>h,λb h=>a.block b (by omega),a.os,a.tape,a.output,a.size,λb h=>(c b h).2,λb h=>(c b h).1.elim .inl (λh=>.inr (by omega))⟩,?_⟩;refine f.keep e (λb h=>a.block b (d b h)) λid o b l k=>?_;obtain⟨g,i,_⟩:=jN (f.ob id o l) k;exact⟨a.block b g,λh=>(c b h).1.elim i (by omega)⟩
def upd(m:Nat->Option Ob)(id:Nat)(o:Ob):Nat->Option Ob:=λi=>if i=id then U o else m i
def aB(m:Nat->Option Ob):List (Nat×Ob)->Nat->Option Ob
 |[]=>m
 |(id,o)::r=>aB (upd m id o) r
def dG(γ:Nat->Value)(id:Nat)(v:Value):Nat->Value:=λi=>if i=id then v else γ i
def kX(m:Nat->Option Ob)(id:Nat)(o:Ob):upd m id o id=U o:=by simp[upd]
def gL(m:Nat->Option Ob){id:Nat}(o:Ob)(h:i≠id):upd m id o i=m i:=by simp[upd,h]
def ig(γ:Nat->Value)(id:Nat)(v:Value):dG γ id v id=v:=by simp[dG]
def ga(γ:Nat->Value){id:Nat}(v:Value)(h:i≠id):dG γ id v i=γ i:=by simp[dG,h]
def qm{id:Nat}{o o0:Ob}(b:m id=U o0)(c:o0=.gone->o=.gone):∀ i v,av m γ i v->av (upd m id o) γ i v:=by
 intro i v h;unfold av at *;by_cases a:i=id;subst a;rw[kX];cases o<;>cases o0<;>simp_all
 rw[gL _ _ a];exact h
def MemOK.change(h:MemOK P B w F γ m){id:Nat}{o o0:Ob}(r:m id=U o0)(G:o0=.gone->o=.gone)(E:∀ b,F b->F' b)(H:∀ b,F b->w'.heap[b]?= w.heap[b]?)(n:∀ b,cg w' o (γ id) b->cg w o0 (γ id) b)(p:∀ b,b<w.heap.size->¬ cg w o0 (γ id) b->w'.heap[b]?= w.heap[b]? /\ (F' b->F b))(x:iA P B w' F' (av (upd m id o) γ) (γ id) o):MemOK P B w' F' γ (upd m id o):=by
 have y:∀ i a,i≠id->m i=U a->∀ b,cg w a (γ i) b->w'.heap[b]?= w.heap[b]? /\ ¬ F' b:=λi a d c b s=>by obtain⟨z,A,_⟩:=jN (h.ob i a c) s;obtain⟨C,D⟩:=p b z (λu=>h.apart i id a o0 b d c r s u);exact⟨C,λu=>A (D u)⟩
 have f:∀ i a,i≠id->m i=U a->∀ b,cg w' a (γ i) b->cg w a (γ i) b:=λi a d c b=>xy (λb s=>(y i a d c b s).1);refine⟨λi a c=>?_,λi j a t b e c g k l=>?_⟩;by_cases d:i=id;subst d;rw[kX,ucl]at c;subst c;exact x;rw[gL _ _ d]at c;exact(h.ob i a c).keep E H (qm r G) (y i a d c);by_cases d:i=id;subst d;rw[kX,ucl]at c;subst c;rw[gL _ _ (Ne.symm e)]at g;exact h.apart i j o0 t b e r g (n b k) (f j t (Ne.symm e) g b l);rw[gL _ _ d]at c;by_cases v:j=id;subst v;rw[kX,ucl]at g;subst g;exact h.apart i j a o0 b e c r (f i a d c b k) (n b l);rw[gL _ _ v]at g;exact h.apart i j a t b e c g (f i a d c b k) (f j t v g b l)
def CK{id:Nat}{o:Ob}(b:m id=V):∀ i u,av m γ i u->av (upd m id o) (dG γ id v) i u:=by intro i u h;unfold av at *;by_cases a:i=id;subst a;simp[b]at h;rw[gL _ _ a,ga _ _ a];exact h
def MemOK.new(h:MemOK P B w F γ m){id:Nat}{o:Ob}(D:m id=V)(H:∀ b,F b->F' b)(L:∀ b,F b->w'.heap[b]?= w.heap[b]?)(n:∀ b,cg w' o v b->w.heap.size<=b)(p:∀ b,b<w.heap.size->(w'.heap[b]?= w.heap[b]? /\ (F' b->F b)))(u:iA P B w' F' (av (upd m id o) (dG γ id v)) v o):MemOK P B w' F' (dG γ id v) (upd m id o):=by
 have x:∀ i a,m i=U a->∀ b,cg w a (γ i) b->w'.heap[b]?= w.heap[b]? /\ ¬ F' b:=λi a c b s=>by obtain⟨y,z,_⟩:=jN (h.ob i a c) s;obtain⟨A,C⟩:=p b y;exact⟨A,λK=>z (C K)⟩
 have f:∀ i a,m i=U a->∀ b,cg w' a (γ i) b->cg w a (γ i) b:=λi a c b=>xy (λb s=>(x i a c b s).1);refine⟨λi a c=>?_,λi j a r b l c g e d=>?_⟩;by_cases k:i=id;subst k;rw[kX,ucl]at c;subst c;rw[ig];exact u;rw[gL _ _ k]at c;rw[ga _ _ k];exact(h.ob i a c).keep H L (CK D) (x i a c);by_cases k:i=id;subst k;rw[kX,ucl]at c;subst c;rw[gL _ _ (Ne.symm l)]at g;rw[ga _ _ (Ne.symm l)]at d;rw[ig]at e;have E:=(jN (h.ob j r g) (f j r g b d)).1;have G:=n b e;omega;rw[gL _ _ k]at c;rw[ga _ _ k]at e;by_cases t:j=id;subst t;rw[kX,ucl]at g;subst g;rw[ig]at d;have E:=(jN (h.ob i a c) (f i a c b e)).1;have G:=n b d;omega;rw[gL _ _ t]at g;rw[ga _ _ t]at d;exact h.apart i j a r b l c g (f i a c b e) (f j r g b d)
end
def Ar:Value->AC
 |.int k n=>if k.min<=n/\n<=k.max then .int k n else .dead
 |.bool b=>.bool b
 |.string s=>if s.size<=maxLen then .str s else .dead
 |.slice V 0 0=>.nil
 |_=>.dead
def nK:Value->AV
 |.agg a=>if a.toList.all (·.oneCell')then .agg (a.toList.map Ar)else .dead
 |.tuple _=>.dead
 |v=>.c (Ar v)
def jq(a:Nat->AV):Operand->AV
 |.tmp t=>a t
 |.const v=>nK v
 |.global _=>.dead
 |.func f=>.c (.fn f [])
def mD(P:Program):Nat->TypeId->Option Ty
 |0,_=>V
 |n+1,t=>
  match P.underlying t with
  |some .bool=>U .bool
  |some (.int k)=>U (.int k)
  |some .string=>U .str
  |some (.slice e)=>(mD P n e).map .sl
  |some (.struct c)=>c.toList.foldr (λf b=>match mD P n f.type,b with
   |some a,U r=>U (.pair a r)
   |_,_=>V) (U .unit)
  |some (.array k e)=>match mD P n e with
   |some a=>U (Nat.rec (motive:=λ_=>Ty) .unit (λ_ r=>.pair a r) k)
   |none=>V
  |_=>V
def dH(P:Program)(t:TypeId):Bool:=
 match P.underlying t with
 |some (.struct _)|some (.array _ _)=>Z
 |_=>Y
def nS:AV->Option (List AC)
 |.c a=>U [a]
 |.agg b=>U b
 |_=>V
def GN(wide:Bool)(b:List AC):Option AV:=
 if wide then U (.agg b)else match b with
  |[a]=>U (.c a)
  |_=>V
def ql(b:List AC)(a:Nat)(new:List AC):Option (List AC):=
 if a+new.length<=b.length then U (b.take a++new++b.drop (a+new.length))else V
def jT(b:List AC)(a n:Nat):Option (List AC):=
 if a+n<=b.length then U ((b.drop a).take n)else V
structure Eff where
 v:AV
 wr:List (Nat×Ob)
 need:List Prop
abbrev aX:=Nat->Option Ob
def oO(m:aX):AC->Option (AC×List (Nat×Ob))
 |.own id=>match m id with
  |some (.arr e t l)=>if e<fh then U (.sl t l,[(id,.frz t l)])else V
  |some (.frz t l)=>U (.sl t l,[])
  |_=>V
 |a=>U (a,[])
def lB(m:aX):List AC->Option (List AC×List (Nat×Ob))
 |[]=>U ([],[])
 |a::r=>match oO m a,lB m r with
  |some (x,u),U (y,v)=>U (x::y,u++v)
  |_,_=>V
def sj(m:aX):AV->Option (AV×List (Nat×Ob))
 |.c a=>match oO m a with
  |some (x,u)=>U (.c x,u)
  |none=>V
 |.agg b=>match lB m b with
  |some (x,u)=>U (.agg x,u)
  |none=>V
 |_=>V
def fe(m:aX):List AV->Option (List AV×List (Nat×Ob))
 |[]=>U ([],[])
 |a::r=>match sj m a,fe m r with
  |some (x,u),U (y,v)=>U (x::y,u++v)
  |_,_=>V
def zu(m:aX):List AV->Option (List AC×List (Nat×Ob))
 |[]=>U ([],[])
 |.c (.ptr id 0)::r=>match m id with
  |some (.box _ d)=>match lB m d with
   |some (b,u)=>match aB m u id with
    |some (.box _ _)=>match zu (aB m (u++[(id,.fbox b)])) r with
     |some (y,v)=>U (.sptr b::y,(u++[(id,.fbox b)])++v)
     |none=>V
    |_=>V
   |none=>V
  |some (.fbox d)=>match zu m r with
   |some (y,v)=>U (.sptr d::y,v)
   |none=>V
  |_=>V
 |.c a::r=>match oO m a with
  |some (x,u)=>match zu (aB m u) r with
   |some (y,v)=>U (x::y,u++v)
   |none=>V
  |none=>V
 |_::_=>V
def og:AC->List Nat
 |.own id=>[id]
 |.ptr id _=>[id]
 |.ifp _ id=>[id]
 |.fb _ id=>[id]
 |_=>[]
def xR:AV->List Nat
 |.c a=>og a
 |.agg d=>d.flatMap og
 |.optr id _ _ _=>[id]
 |.aptr b _ _=>og b
 |.maybe _ _ v=>xR v
 |_=>[]
def qzl:Option Ob->List Nat
 |some (.box _ a)=>a.flatMap og
 |_=>[]
def tV(P:Program):Nat->TypeId->List AC->List AC->Option Bool
 |0,_,_,_=>V
 |n+1,t,d,g=>
  match P.underlying t with
  |some .bool=>match d,g with
   |[.bool a],[.bool b]=>U (a==b)
   |_,_=>V
  |some (.int _)=>match d,g with
   |[.int k a],[.int m b]=>if k=m then U (a==b)else V
   |_,_=>V
  |some (.struct l)=>if P.stoodInHeld t=Z then V else
   l.toList.foldr (λf c=>if f.name = "_" then c else
    if (P.underlying f.type).isSome=Z/\(P.info? f.type).isSome=Z then
     match jT d f.offset (if dH P f.type then P.cellsOf f.type else 1),jT g f.offset (if dH P f.type then P.cellsOf f.type else 1)with
     |some x,U y=>match tV P n f.type x y,c with
      |some p,U q=>U (p&&q)
      |_,_=>V
     |_,_=>V
    else V) (U Z)
  |some (.array h e)=>
   if (P.underlying e).isSome=Z/\(P.info? e).isSome=Z then
    (List.range h).foldr (λi c=>
     match jT d (i*P.cellsOf e) (if dH P e then P.cellsOf e else 1),jT g (i*P.cellsOf e) (if dH P e then P.cellsOf e else 1)with
     |some x,U y=>match tV P n e x y,c with
      |some p,U q=>U (p&&q)
      |_,_=>V
     |_,_=>V) (U Z)
   else V
  |_=>V
def KL(c:BinOp)(a b:Int):Option Bool:=
 match c with
 |.eql=>U (a==b)
 |.neq=>U (a != b)
 |.lss=>U (J (a<b))
 |.leq=>U (J (a<=b))
 |.gtr=>U (J (a>b))
 |.geq=>U (J (a>=b))
 |_=>V
def Sw(op:BinOp)(k:IntKind)(a b:Int):Option (AC×List Prop):=
 match op with
 |.add=>U (.int k (k.wrap (a+b)),[])
 |.sub=>U (.int k (k.wrap (a-b)),[])
 |.mul=>U (.int k (k.wrap (a*b)),[])
 |.quo=>U (.int k (k.wrap (a.tdiv b)),[b≠0])
 |.rem=>U (.int k (a.tmod b),[b≠0])
 |.and=>U (.int k (k.wrap (Bvo k.bits a &&& Bvo k.bits b).toNat),[])
 |.or=>U (.int k (k.wrap (Bvo k.bits a ||| Bvo k.bits b).toNat),[])
 |.xor=>U (.int k (k.wrap (Bvo k.bits a ^^^ Bvo k.bits b).toNat),[])
 |.andNot=>U (.int k (k.wrap (Bvo k.bits a &&& ~~~Bvo k.bits b).toNat),[])
 |.shl=>U (.int k (k.wrap (a*2 ^ (min b.toNat k.bits))),[¬ b<0])
 |.shr=>U (.int k (a.fdiv (2 ^ (min b.toNat k.bits))),[¬ b<0])
 |op=>match KL op a b with
  |some x=>U (.bool x,[])
  |none=>V
def WZ:BinOp->Bool
 |.shl | .shr=>Z
 |_=>Y
def J5(P:Program)(d:BinOp)(t:TypeId):AV->AV->Option (AC×List Prop)
 |.c (.int k a),.c (.int e b)=>if k=e\/WZ d=Z then Sw d k a b else V
 |.c (.bool a),.c (.bool b)=>match d with
  |.eql=>if P.underlying t matches U .bool then U (.bool (a==b),[])else V
  |.neq=>if P.underlying t matches U .bool then U (.bool (!(a==b)),[])else V
  |_=>V
 |.agg f,.agg g=>if P.eqGuardType P.depth t=Y/\dH P t=Z then match tV P 20 t f g with
   |some x=>match d with
    |.eql=>U (.bool x,[])
    |.neq=>U (.bool (!x),[])
    |_=>V
   |none=>V
  else V
 |_,_=>V
structure InsOK (P:Program) (f:FuncId) (e:TypeId) (T:Ty) (bytes:Nat):Prop where
 enters:∀ args w,(callFunc f args).run P w=.ok (.enter f args) w
 calls:∀ (w:World) (B n i:Nat) (s v:Value) (xs news:List Value),B<=w.heap.size->w.ownsRow B e T.size s n xs->w.ownsRow B e T.size v 1 news->(∀ g,v.ownBlock=some g->s.ownBlock≠some g)->i<=n ->
  (∀ u∈xs,u.oneCell'=true)->(∀ u∈news,u.oneCell'=true)->n+1<=maxLen->(n+1)*bytes<=140737488355328 ->
  Calls P f #[s,.int .i64 i,v] w λen w'=>∃ v',en=.returned v'/\w.grownBy w' s.ownBlock/\w'.ownsRow B e T.size v' (n+1) (xs.take (i*T.size)++news++xs.drop (i*T.size))/\(v'.ownBlock=s.ownBlock\/v'.ownBlock=some w.heap.size)
structure CloneOK (P:Program) (f:FuncId) (e:TypeId) (T:Ty) (bytes:Nat):Prop where
 enters:∀ args w,(callFunc f args).run P w=.ok (.enter f args) w
 calls:∀ (w:World) (n c:Nat) (A:Option Addr) (xs:List Value),n<=c->(A=none->n=0)->xs.length=n*T.size->(∀ ad,A=some ad->∀ (j:Nat) u,xs[j]?= some u->w.cell? (ad.add j)=some u)->(∀ u∈xs,u.oneCell'=true) ->
  n<=maxLen->n*bytes<=140737488355328 ->
  Calls P f #[.slice A n c] w λen w'=>∃ v',en=.returned v'/\w.grownBy w' none/\w'.ownsRow w.heap.size e T.size v' n xs
structure UpdOK (P:Program) (f:FuncId) (T:Ty) (ps:List Ty) (g:T.q->aa ps->T.q):Prop where
 enters:∀ args w,(callFunc f args).run P w=.ok (.enter f args) w
 calls:∀ (w:World) (F:Nat->Prop) (b:Nat) (ety:TypeId) (arr:Array Value) (x:T.q) (y:aa ps) (vs:List Value),w.heap[b]?= some (.cells arr ety (0,0))->arr.size=T.size ->
  (∀ u∈arr,u.oneCell'=true)->aG w F T x (λj u=>arr[j]?= some u)->fi w F ps y vs ->
  Calls P f (Value.pointer (some ⟨b,0,none⟩)::vs).toArray w λen w'=>∃ (u:Value) (ns:List Value),en=.returned u/\ns.length=T.size/\w'=w.setRow b ns.toArray/\aG w F T (g x y) (λj u=>ns[j]?= some u)
inductive Row where
 |clone (e:TypeId) (T:Ty) (bytes:Nat)
 |ins (e:TypeId) (T:Ty) (bytes:Nat)
 |upd (T:Ty) (ps:List Ty) (g:T.q->aa ps->T.q)
 |rw (off inner:Nat)
def DX(P:Program)(f:FuncId):Row->Prop
 |.rw _ _=>True
 |.clone e T n=>CloneOK P f e T n
 |.ins e T n=>InsOK P f e T n
 |.upd T a g=>UpdOK P f T a g
structure Gm where
 c:FuncId->Option Ct
 r:FuncId->Option Row
instance:CoeFun Gm λ_=>FuncId->Option Ct:=⟨Gm.c⟩
instance:Coe (FuncId->Option Ct) Gm:=⟨λc=>⟨c,λ_=>none⟩⟩
def io(P:Program)(b:Gm):Prop:=(∀ f a,b.c f=U a->ag P f a)/\∀ f r,b.r f=U r->DX P f r
def nX(t:Ty):AV->Option t.q
 |.c a=>if t.wide then V else match dec t [a]with
  |some (x,[])=>U x
  |_=>V
 |.agg b=>if t.wide then match dec t b with
  |some (x,[])=>U x
  |_=>V else V
 |_=>V
def AQ{c a d b:List Ty}(h:c=a)(k:d=b)(g:aa c->aa d):aa a->aa b:=k ▸ h ▸ g
def Td{b a:List Ty}(h:b=a)(D:aa b->Prop):aa a->Prop:=h ▸ D
def Fa{b a:List Ty}(k:b=a)(x:aa b):aa a:=k ▸ x
def K7{t u:Ty}(h:t=u)(x:t.q):u.q:=h ▸ x
def jM:(b:List PT)->List AC->Option (ap b)
 |[],[]=>U ()
 |.d t::r,a::s=>match nX t (.c a),jM r s with
  |some x,U y=>U (x,y)
  |_,_=>V
 |.ptr t::r,.sptr l::s=>match dec t l,jM r s with
  |some (x,_),U y=>U (x,y)
  |_,_=>V
 |.pk f::r,.sptr [.fn m []]::s=>if m=f then match jM r s with
  |some y=>U ((),y)
  |none=>V
  else V
 |.pfn b n::r,.sptr [.fv e i g]::s=>if h:e=b then if k:i=n then match jM r s with
   |some y=>U (AQ h k g,y)
   |none=>V
  else V else V
 |_,_=>V
def lV:(c:List Ty)->(b:List PT)->List AC->Option (aa c->ap b)
 |[],b,a=>match jM b a with
  |some f=>U (λ_=>f)
  |none=>V
 |t::r,.d e::b,a=>if h:t=e then match lV r b a with
   |some m=>U (λx=>(K7 h x.1,m x.2))
   |none=>V
  else V
 |_::_,_,_=>V
def Le(l:Gm)(c e:List Ty):AC->Option ((aa c->aa e)×List Prop)
 |.fv d i g=>if h:d=c then if k:i=e then U (AQ h k g,[])else V else V
 |.fn f a=>match l f with
  |some b=>if k:b.rs=e then match lV c b.ps a with
    |some m=>U (λx=>Fa k (b.f (m x)),[∀ x,gN c x->az (b.ok (m x))])
    |none=>V
   else V
  |none=>V
 |_=>V
def Lg(l:Gm)(c e:List Ty):AC->Option ((aa c->aa e)×(aa c->Prop))
 |.pv d i g D=>if h:d=c then if k:i=e then U (AQ h k g,Td h D)else V else V
 |.fn f a=>match l f with
  |some b=>if k:b.rs=e then match lV c b.ps a with
    |some m=>U (λx=>Fa k (b.f (m x)),λx=>az (b.ok (m x)))
    |none=>V
   else V
  |none=>V
 |_=>V
def TM(f:Gm):(p:PT)->AV->Option (p.q×List Prop)
 |.d t,a=>match nX t a with
  |some x=>U (x,[])
  |none=>V
 |.ptr t,.c (.sptr g)=>match dec t g with
  |some (x,_)=>U (x,[])
  |none=>V
 |.fn b e,.c a=>Le f b e a
 |.pf b e,.c a=>match Lg f b e a with
  |some x=>U (x,[])
  |none=>V
 |_,_=>V
def lm(b:Gm):(c:List PT)->List AV->Option (ap c×List Prop)
 |[],[]=>U ((),[])
 |p::r,a::s=>match TM b p a,lm b r s with
  |some (x,n),U (y,k)=>U ((x,y),n++k)
  |_,_=>V
 |_,_=>V
def eR(t:Ty)(x:t.q):AV:=if t.wide then .agg (enc t x)else match enc t x with
 |[a]=>.c a
 |_=>.dead
def Fo:(a:List Ty)->aa a->List AV
 |[],_=>[]
 |t::r,x=>eR t x.1::Fo r x.2
def lq:(a:List Ty)->aa a->AV
 |[t],x=>eR t x.1
 |a,x=>.tup (Fo a x)
def SZ(c:Gm)(f:FuncId)(a:List AV):Option (AV×List Prop):=
 match c f with
 |some b=>match lm c b.ps a with
  |some (x,n)=>U (lq b.rs (b.f x),n++b.ok x)
  |none=>V
 |none=>V
def jp:(b:List Ty)->List AV->Option (aa b)
 |[],[]=>U ()
 |t::r,a::s=>match nX t a,jp r s with
  |some x,U y=>U (x,y)
  |_,_=>V
 |_,_=>V
def rD(k:IntKind):List AC->Option (List Int)
 |[]=>U []
 |.int a n::r=>if k=a then (rD k r).map (n :: ·)else V
 |_=>V
def Xs:List AC->Option IntKind
 |.int k _::_=>U k
 |_=>V
def sn:List Int->Nat->Int->Int->List Int
 |[],_,_,_=>[]
 |n::r,j,i,v=>(bif i==(j:Int)then v else n)::sn r (j+1) i v
def Iz(c:Operand)(a:Bool):AV->AV
 |.maybe g w v=>match c with
  |.tmp t=>if g=t/\w=a then v else .maybe g w v
  |_=>.maybe g w v
 |v=>v
def Cw(p:Bool):AV->AV->Option AV
 |.c (.bool x),.c (.bool y)=>U (.c (.bool (bif p then x else y)))
 |.c (.int k x),.c (.int a y)=>if k=a then U (.c (.int k (bif p then x else y)))else V
 |_,_=>V
def Bq(a:Nat->Option (Nat×Nat))(d:List AC):List (Nat×AV)->Option (List AC)
 |[]=>U d
 |(i,v)::r=>match a i,nS v with
  |some (c,n),U new=>if new.length=n then match ql d c new with
    |some b=>Bq a b r
    |none=>V
   else V
  |_,_=>V
def Zw(P:Program)(t:TypeId):Option (Nat->Option (Nat×Nat)):=
 match P.underlying t with
 |some (.struct a)=>if a.toList.all (λf=>(P.info? f.type).isSome)then U λi=>(a[i]?).map λf=>(f.offset,P.cellsOf f.type)else V
 |some (.array _ e)=>if (P.info? e).isSome then U λi=>U (i*P.cellsOf e,P.cellsOf e)else V
 |_=>V
def JH(P:Program)(t:TypeId)(a:List (Nat×AV)):Option AV:=
 match (P.info? t).bind (·.zero),Zw P t with
 |some z,U d=>match nS (nK z)with
  |some c=>match Bq d c a with
   |some b=>U (.agg b)
   |none=>V
  |none=>V
 |_,_=>V
def qq(t:Ty)(k:Nat):List (Nat×AV)->Option (List t.q)
 |[]=>U []
 |(i,v)::r=>if i=k then match nX t v,qq t (k+1) r with
   |some x,U l=>U (x::l)
   |_,_=>V
  else V
def lv:Int->List AC->List (Int×Nat)
 |_,[]=>[]
 |k,.fn f []::r=>(k,f)::lv (k+1) r
 |k,_::r=>lv (k+1) r
def AS(m:aX):AV->Option (List AC×List Prop)
 |.c (.ptr id off)=>match m id with
  |some (.box _ cs)=>U (cs.drop off,[])
  |some (.fbox cs)=>U (cs.drop off,[])
  |_=>V
 |.c (.sptr cs)=>U (cs,[])
 |.optr id sz i off=>match m id with
  |some (.arr e t l)=>if e<cJ/\t.size=sz then U ((enc t (l.getD i t.j)).drop off,[i<l.length])else V
  |some (.frz t l)=>if t.size=sz then U ((enc t (l.getD i t.j)).drop off,[i<l.length])else V
  |_=>V
 |.aptr b n i=>match b with
  |.ptr id off=>match m id with
   |some (.box _ cs)=>pickI (cs.drop off) n i
   |some (.fbox cs)=>pickI (cs.drop off) n i
   |_=>V
  |.sptr cs=>pickI cs n i
  |_=>V
 |_=>V
where
 pickI (cs:List AC) (n:Nat) (i:Int):Option (List AC×List Prop):=
  match Xs cs,jT cs 0 n with
  |some k,U bz=>match rD k bz with
   |some a=>U ([.int k (a.getD i.toNat 0)],[])
   |none=>V
  |none,U bz=>if (lv 0 bz).isEmpty then V else U ([.fs (lv 0 bz) i],[((lv 0 bz).find? (λx=>x.1==i)).isSome=Z])
  |_,_=>V
def GE(P:Program)(t:TypeId)(x:AV)(m:aX):Option Eff:=
 match AS m x with
 |some (b,n)=>if (P.info? t).isSome/\(P.underlying t).isSome then
   if dH P t then match jT b 0 (P.cellsOf t)with
    |some l=>U ⟨.agg l,[],n⟩
    |none=>V
   else match b with
    |a::_=>U ⟨.c a,[],n⟩
    |[]=>V
  else V
 |none=>V
def P8(P:Program)(t:TypeId)(x v:AV)(m:aX):Option Eff:=
 match nS v with
 |none=>V
 |some new=>if (P.info? t).isSome/\new.length=P.cellsOf t then
   match x with
   |.c (.ptr id a)=>match m id with
    |some (.box e g)=>match ql g a new with
     |some b=>U ⟨.dead,[(id,.box e b)],[]⟩
     |none=>V
    |_=>V
   |.optr id sz i a=>match m id,lB m new with
    |some (.arr e f l),U (d,u)=>if e<cJ/\f.size=sz/\(new.flatMap og).all (· != id)then
      match ql (enc f (l.getD i f.j)) a d with
      |some h=>match dec f h with
       |some (y,[])=>U ⟨.dead,u++[(id,.arr e f (l.set i y))],[i<l.length]⟩
       |_=>V
      |none=>V
     else V
    |_,_=>V
   |.aptr (.ptr id a) n i=>match m id,new with
    |some (.box e g),[.int k y]=>match jT g a n with
     |some bz=>match rD k bz with
      |some o=>match ql g a ((sn o 0 i y).map (.int k))with
       |some b=>U ⟨.dead,[(id,.box e b)],[]⟩
       |none=>V
      |none=>V
     |none=>V
    |_,_=>V
   |_=>V
  else V
def uD(m:aX):AC->Option ((t:Ty)×List t.q)
 |.sl t l=>U ⟨t,l⟩
 |.slx t l=>U ⟨t,l⟩
 |.own id=>match m id with
  |some (.arr e t l)=>if e<cJ then U ⟨t,l⟩else V
  |some (.frz t l)=>U ⟨t,l⟩
  |_=>V
 |_=>V
def Nn(P:Program)(t:TypeId)(x:AV)(i:Int)(m:aX):Option Eff:=
 match P.underlying t with
 |some (.slice e)=>if (P.info? e).isSome then match x with
   |.c (.own id)=>match m id with
    |some (.arr f a l)=>if f<fh/\a.size=P.cellsOf e then U ⟨.optr id a.size i.toNat 0,[],[0<=i/\i<l.length]⟩else V
    |some (.hole _ a l _)=>if a.size=P.cellsOf e then U ⟨.optr id a.size i.toNat 0,[],[0<=i/\i<l.length]⟩else V
    |some (.frz a l)=>if a.size=P.cellsOf e then U ⟨.c (.sptr (enc a (l.getD i.toNat a.j))),[],[0<=i/\i<l.length]⟩else V
    |_=>V
   |.c (.sl a l)=>if a.size=P.cellsOf e then U ⟨.c (.sptr (enc a (l.getD i.toNat a.j))),[],[0<=i/\i<l.length]⟩else V
   |.c (.slx a l)=>if a.size=P.cellsOf e then U ⟨.c (.sptr (enc a (l.getD i.toNat a.j))),[],[0<=i/\i<l.length]⟩else V
   |_=>V
  else V
 |some (.array n e)=>if (P.info? e).isSome then
   if P.cellsOf e=1 then match x with
    |.c (.ptr id b)=>U ⟨.aptr (.ptr id b) n i,[],[0<=i/\i<n]⟩
    |.c (.sptr d)=>U ⟨.aptr (.sptr d) n i,[],[0<=i/\i<n]⟩
    |_=>V
   else match i with
    |.ofNat k=>if k<n then match x with
      |.c (.ptr id b)=>U ⟨.c (.ptr id (b+k*P.cellsOf e)),[],[]⟩
      |.c (.sptr d)=>U ⟨.c (.sptr (d.drop (k*P.cellsOf e))),[],[]⟩
      |_=>V
     else V
    |_=>V
  else V
 |_=>V
def xF(P:Program)(s:TypeId)(f:Nat):Option Field:=
 match P.underlying s with
 |some (.struct a)=>a[f]?
 |_=>V
def Mj(P:Program)(s:TypeId)(x:AV)(f:Nat):Option AV:=
 match xF P s f with
 |some b=>if (P.info? b.type).isSome=Z/\P.cellsOf b.type≠0 then match x with
   |.c (.ptr id a)=>U (.c (.ptr id (a+b.offset)))
   |.c (.sptr d)=>U (.c (.sptr (d.drop b.offset)))
   |.optr id sz i a=>U (.optr id sz i (a+b.offset))
   |_=>V
  else V
 |none=>V
def Pu(t:Ty)(l:List t.q)(lo hi mx:Option Int):Option (AC×List Prop):=
 match mx with
 |none=>U (.sl t ((l.drop (lo.getD 0).toNat).take ((hi.getD l.length)-(lo.getD 0)).toNat),[0<=lo.getD 0/\lo.getD 0<=hi.getD l.length/\hi.getD l.length<=l.length])
 |some k=>match hi with
  |some h=>U (.slx t ((l.drop (lo.getD 0).toNat).take (h-(lo.getD 0)).toNat),[0<=lo.getD 0/\lo.getD 0<=h/\h<=l.length/\k=h])
  |none=>V
def Jw(P:Program)(d:Nat)(t:TypeId)(s x:AV)(m:aX):Option Eff:=
 match P.underlying t with
 |some (.slice e)=>match P.info? e,mD P 20 e,m d with
  |some i,U b,V=>if e<cJ/\i.size=b.size/\0<b.size/\(i.zero.any λz=>z.cells.size==b.size)=Z then
   match (match x with
    |.c .nil=>U ([]:List b.q)
    |.c a=>match uD m a with
     |some ⟨u,l⟩=>if h:u=b then U (cY h l)else V
     |none=>V
    |_=>V)with
   |some new=>match s with
    |.c .nil=>U ⟨.c (.own d),[(d,.arr e b new)],[new.length<=maxLen/\new.length*i.bytes<=140737488355328]⟩
    |.c (.own id)=>match m id with
     |some (.arr f u l)=>if h:u=b then if f=e/\(xR x).all (· != id)then
       U ⟨.c (.own d),[(id,.gone),(d,.arr e b (cY h l++new))],[(cY h l).length+new.length<=maxLen/\((cY h l).length+new.length)*i.bytes<=140737488355328]⟩else V else V
     |_=>V
    |.c (.slx u l)=>if h:u=b then
       U ⟨.c (.own d),[(d,.arr e b (cY h l++new))],[0<new.length/\(cY h l).length+new.length<=maxLen/\((cY h l).length+new.length)*i.bytes<=140737488355328]⟩else V
    |_=>V
   |none=>V
   else V
  |_,_,_=>V
 |_=>V
def uK(k:IntKind)(x:Int):List AV->Option Int
 |[]=>U x
 |.c (.int a y)::r=>if k=a then uK k (if y<x then y else x) r else V
 |_=>V
def uJ(k:IntKind)(x:Int):List AV->Option Int
 |[]=>U x
 |.c (.int a y)::r=>if k=a then uJ k (if x<y then y else x) r else V
 |_=>V
def Np(P:Program)(t:TypeId)(x:AV)(i:Int):Option Eff:=
 match P.underlying t with
 |some .string=>match x with
  |.c (.str b)=>U ⟨.c (.int .u8 (b.data.getD i.toNat 0).toNat),[],[0<=i/\i<b.size]⟩
  |_=>V
 |some (.array n e)=>if (P.info? e).isSome=Z/\(P.underlying e).isSome=Z/\P.cellsOf e=1/\dH P e=Y then match x with
   |.agg a=>match Xs a with
    |some k=>match rD k a with
     |some d=>if d.length=n then U ⟨.c (.int k (d.getD i.toNat 0)),[],[0<=i/\i<n]⟩else V
     |none=>V
    |none=>V
   |_=>V
  else V
 |_=>V
def vF(P:Program)(t:TypeId)(x:AV)(m:aX):Option Eff:=
 match P.underlying t,x with
 |some (.array n e),.c (.ptr id f)=>match P.info? e,mD P 20 e,m id with
  |some i,U b,U (.box _ d)=>match lB m d with
   |some (a,[])=>match jT a f (n*b.size)with
    |some bz=>match splitN b n bz with
     |some l=>if i.size=b.size/\0<b.size/\n<=1000 then U ⟨.c (.sl b l),[(id,.fbox a)],[]⟩else V
     |none=>V
    |none=>V
   |_=>V
  |_,_,_=>V
 |_,_=>V
where
 splitN (t:Ty):Nat->List AC->Option (List t.q)
  |0,[]=>U []
  |n+1,d=>match dec t (d.take t.size)with
   |some (x,[])=>match splitN t n (d.drop t.size)with
    |some l=>U (x::l)
    |none=>V
   |_=>V
  |_,_=>V
def pC(d:Gm)(n:Int)(a:List AV):List (Int×Nat)->Option ((c:List Ty)×aa c×List Prop)
 |[]=>V
 |(k,f)::r=>match d f with
  |some b=>match lm d b.ps a with
   |some (x,e)=>match r with
    |[]=>U ⟨b.rs,b.f x,(n=k)::(e++b.ok x)⟩
    |r=>match pC d n a r with
     |some ⟨c,y,g⟩=>if h:c=b.rs then U ⟨b.rs,bif n==k then b.f x else Fa h y,[n=k->az (e++b.ok x),n≠k->az g]⟩else V
     |none=>V
   |none=>V
  |none=>V
def K6(h:Gm)(k:AV)(a:List AV):Option (AV×List Prop):=
 match k with
 |.c (.fn f b)=>SZ h f (a++b.map .c)
 |.c (.fv e d g)=>match jp e a with
  |some x=>U (lq d (g x),[])
  |none=>V
 |.c (.pv e d g D)=>match jp e a with
  |some x=>U (lq d (g x),[D x])
  |none=>V
 |.c (.fs i n)=>match pC h n a i with
  |some ⟨d,y,l⟩=>U (lq d y,l)
  |none=>V
 |_=>V
def uC(P:Program)(t:TypeId)(x:AV)(m:aX):Option Eff:=
 match P.underlying t with
 |some (.slice _)=>match x with
  |.c .nil=>U ⟨.c (.int .i64 0),[],[]⟩
  |.c a=>match uD m a with
   |some ⟨_,l⟩=>U ⟨.c (.int .i64 l.length),[],[]⟩
   |none=>match a with
    |.own id=>match m id with
     |some (.arr e _ l)=>if e<fh then U ⟨.c (.int .i64 l.length),[],[]⟩else V
     |_=>V
    |_=>V
  |_=>V
 |some .string=>match x with
  |.c (.str s)=>U ⟨.c (.int .i64 s.size),[],[]⟩
  |_=>V
 |_=>V
def Ta(P:Program)(d:Nat)(b:Builtin)(e:List TypeId)(vs:List AV)(m:aX):Option Eff:=
 match b,e,vs with
 |.len,[t],[x]=>uC P t x m
 |.append,[t,a],[s,x]=>if t=a then Jw P d t s x m else V
 |.min,_,.c (.int k n)::r=>match uK k n r with
  |some y=>U ⟨.c (.int k y),[],[]⟩
  |none=>V
 |.max,_,.c (.int k n)::r=>match uJ k n r with
  |some y=>U ⟨.c (.int k y),[],[]⟩
  |none=>V
 |_,_,_=>V
def ox:List AV->Option (List AC×List (Nat×Ob))
 |[]=>U ([],[])
 |.c a::r=>match ox r with
  |some (y,_)=>U (a::y,[])
  |none=>V
 |_=>V
def NC:AC->Option ((t:Ty)×List t.q)
 |.sl t l=>U ⟨t,l⟩
 |.slx t l=>U ⟨t,l⟩
 |_=>V
def y9:Bool->List AV->Option (Option Int×List AV)
 |false,r=>U (V,r)
 |true,.c (.int _ n)::r=>U (U n,r)
 |true,_=>V
def NI(P:Program)(d:Nat)(t:TypeId)(n c:Int)(m:aX):Option Eff:=
 match P.underlying t with
 |some (.slice e)=>match P.info? e,mD P 20 e,m d with
  |some i,U a,V=>match i.zero with
   |some z=>match nS (nK z)with
    |some b=>match dec a b with
     |some (x,[])=>if e<cJ/\i.size=a.size/\z.cells.size=a.size/\0<a.size then
       U ⟨.c (.own d),[(d,.arr e a (Lrp n.toNat x))],[0<=n/\n<=c/\c<=maxLen/\c*i.bytes<=140737488355328]⟩else V
     |_=>V
    |none=>V
   |none=>V
  |_,_,_=>V
 |_=>V
def KW(P:Program)(d:Nat)(t:TypeId)(g f mx:Bool)(x:AV)(r:List AV)(m:aX):Option Eff:=
 match g,f,mx,x,r with
 |false,Z,Y,.c (.own id),[.c (.int _ h)]=>match P.underlying t,m id,m d with
  |some (.slice e),U (.arr a b l),V=>if a<cJ/\(P.info? e).isSome=Z/\P.cellsOf e=b.size then
    U ⟨.c (.own d),[(id,.gone),(d,.arr a b (l.take h.toNat))],[0<=h/\h<=l.length]⟩
   else V
  |_,_,_=>V
 |_,_,_,_,_=>V
def iL:AV->Bool
 |.maybe _ _ _=>Y
 |_=>Z
def BS(P:Program)(t:TypeId):Bool:=match P.underlying t with
 |some (.interface _)=>Z
 |_=>Y
def Yr(P:Program)(o:BinOp)(t:TypeId)(y:Operand)(x:AV):Option Bool:=
 match o,y,x with
 |.eql,.const .nilIface,.c (.ic a _ z)=>if BS P t=Z then U (dd a z.1).isNone else V
 |.neq,.const .nilIface,.c (.ic a _ z)=>if BS P t=Z then U (!(dd a z.1).isNone)else V
 |_,_,_=>V
def GK(P:Program)(a:String)(c:TypeId):Option FuncId:=
 match P.info? c,P.underlying c with
 |some i,U (.struct _)=>match i.methods.find? (·.name==a)with
  |some b=>match b.func with
   |some (f,Y)=>if b.path.isEmpty=Z then U f else V
   |_=>V
  |none=>V
 |_,_=>V
def BQ(P:Program)(a:String):List (Int×Nat)->Option (List (Int×Nat))
 |[]=>U []
 |(k,c)::r=>match GK P a c,BQ P a r with
  |some f,U b=>U ((k,f)::b)
  |_,_=>V
def je(i:Int)(l m:List α):List α:=l.take i.toNat++m++l.drop i.toNat
def qaf(a:Gm):AV->Option Row
 |.c (.fn f [])=>a.r f
 |_=>V
def OY(r:Row)(d:Nat)(g:List AV)(m:aX):Option Eff:=
 match r,g,m d with
 |.clone e T f,[.c a],V=>match uD m a with
  |some ⟨k,l⟩=>if h:k=T then if e<cJ then U ⟨.c (.own d),[(d,.arr e T (cY h l))],[l.length<=maxLen,l.length*f<=140737488355328]⟩else V else V
  |none=>V
 |.ins e T f,[.c (.own a),.c (.int .i64 i),.c (.own b)],V=>match m a,m b with
  |some (.arr n k l),U (.arr o s x)=>if h:k=T then if p:s=T then if e<cJ/\n=e/\o=e/\a≠b then
    U ⟨.c (.own d),[(a,.gone),(d,.arr e T (je i (cY h l) (cY p x)))],[0<=i/\i<=l.length,x.length=1,l.length+1<=maxLen/\(l.length+1)*f<=140737488355328]⟩else V else V else V
  |_,_=>V
 |_,_,_=>V
def D7(c:Gm)(n:Int)(b:List AC)(a:List AV):List (Int×Nat)->Option ((T:Ty)×T.q×List Prop)
 |[]=>V
 |(k,f)::r=>match c.r f with
  |some (.upd T i g)=>match dec T b,jp i a with
   |some (x,[]),U y=>match r with
    |[]=>U ⟨T,g x y,[n=k]⟩
    |r=>match D7 c n b a r with
     |some ⟨d,z,e⟩=>if h:d=T then U ⟨T,bif n==k then g x y else K7 h z,[n≠k->az e]⟩else V
     |none=>V
   |_,_=>V
  |_=>V
def KQ(P:Program)(F:Gm)(d:Nat)(S:Op)(vs:List AV)(m:aX):Option Eff:=
 match S,vs with
 |.move _,[x] | .assign _,[x]=>U ⟨x,[],[]⟩
 |.alloc e,[]=>match (P.info? e).bind (·.zero),m d with
  |some z,V=>match nS (nK z)with
   |some w=>U ⟨.c (.ptr d 0),[(d,.box e w)],[]⟩
   |none=>V
  |_,_=>V
 |.box e _,[x]=>match nS x,m d with
  |some w,V=>U ⟨.c (.ptr d 0),[(d,.box e w)],[]⟩
  |_,_=>V
 |.build t G,vs=>match JH P t ((G.toList.map (·.1)).zip vs)with
  |some v=>U ⟨v,[],[]⟩
  |none=>V
 |.buildSlice t n G,vs=>match P.underlying t,m d with
  |some (.slice e),V=>match P.info? e,mD P 20 e,fe m vs with
   |some i,U B,U (N,u)=>if e<cJ/\i.size=B.size/\0<B.size/\n*i.size<=16777216/\G.size=n/\(i.zero.any λz=>z.cells.size==B.size)=Z then match qq B 0 ((G.toList.map (·.1)).zip N)with
     |some l=>if l.length=n then U ⟨.c (.own d),u++[(d,.arr e B l)],[]⟩else V
     |none=>V
    else V
   |_,_,_=>V
  |_,_=>V
 |.load t _,[x]=>GE P t x m
 |.store t _ _,[x,v]=>P8 P t x v m
 |.nilCheck _,[x]=>match x with
  |.c (.ptr id L)=>U ⟨.c (.ptr id L),[],[]⟩
  |.c (.sptr w)=>U ⟨.c (.sptr w),[],[]⟩
  |_=>V
 |.binOp o t _ y0 _,[x,y]=>match Yr P o t y0 x with
  |some v=>U ⟨.c (.bool v),[],[]⟩
  |none=>match J5 P o t x y with
   |some (a,n)=>U ⟨.c a,[],n⟩
   |none=>V
 |.unOp o _ _,[.c (.int k n)]=>match o with
  |.neg=>U ⟨.c (.int k (k.wrap (0-n))),[],[]⟩
  |_=>V
 |.unOp o _ _,[.c (.bool b)]=>match o with
  |.not=>U ⟨.c (.bool (!b)),[],[]⟩
  |_=>V
 |.convert s t _,[.c (.int _ n)]=>match P.underlying s,P.underlying t with
  |some _,U (.int k)=>U ⟨.c (.int k (k.wrap n)),[],[]⟩
  |_,_=>V
 |.makeSlice t _ _,[.c (.int _ n),.c (.int _ c)]=>NI P d t n c m
 |.slice t _ K H mx,x::r=>match KW P d t K.isSome H.isSome mx.isSome x r m with
  |some e=>U e
  |none=>match (if K.isSome=Y/\H.isSome=Y/\mx.isSome=Y then vF P t x m else V)with
  |some e=>U e
  |none=>match P.underlying t,sj m x,y9 K.isSome r with
  |some (.slice e),U (x',u),U (l,W)=>match y9 H.isSome W with
   |some (h,r2)=>match y9 mx.isSome r2 with
    |some (k,[])=>match x' with
     |.c a=>match NC a with
      |some ⟨B,y⟩=>if (P.info? e).isSome/\P.cellsOf e=B.size then match Pu B y l h k with
        |some (z,n)=>U ⟨.c z,u,n⟩
        |none=>V
       else V
      |none=>V
     |_=>V
    |_=>V
   |none=>V
  |_,_,_=>V
 |.fieldAddr s _ f,[x]=>match Mj P s x f with
  |some v=>U ⟨v,[],[]⟩
  |none=>V
 |.field s _ f,[.agg w]=>match xF P s f with
  |some C=>if (P.info? C.type).isSome/\(P.underlying C.type).isSome then match jT w C.offset (if dH P C.type then P.cellsOf C.type else 1)with
    |some l=>match GN (dH P C.type) l with
     |some v=>U ⟨v,[],[]⟩
     |none=>V
    |none=>V
   else V
  |none=>V
 |.indexAddr t _ _,[x,.c (.int _ i)]=>Nn P t x i m
 |.index t _ _,[x,.c (.int _ i)]=>Np P t x i
 |.lookup t _ _ Z,[.c (.mp A),.c (.int .i64 n)]=>match P.underlying t with
  |some (.map k e)=>match P.underlying k,(P.info? e).bind (·.zero)with
   |some (.int .i64),U .nilFunc=>U ⟨.tup [.c (.fs A n),.c (.bool (A.find? (λx=>x.1==n)).isSome)],[],[]⟩
   |_,_=>V
  |_=>V
 |.extract _ i,[.tup vs]=>match vs[i]? with
  |some v=>U ⟨v,[],[]⟩
  |none=>V
 |.typeAssert _ _ M Z,[.c (.ic A _ x)]=>match P.underlying M with
  |some (.struct _)=>if ((P.info? M).bind (·.zero)).isSome=Z then U ⟨.tup [.dead,.c (.bool (dd A x.1==U M))],[],[]⟩else V
  |_=>V
 |.makeFunc (.func f) first _,vs=>if first.size=0 then match (if (F f).isSome then zu m vs else ox vs)with
   |some (D,u)=>U ⟨.c (.fn f D),u,[]⟩
   |none=>V
  else V
 |.call ⟨.builtin b,_,ts⟩,vs=>Ta P d b ts.toList vs m
 |.call ⟨.invoke _ E,_,_⟩,.c (.ic A t x)::g=>match fe m g,BQ P E A with
  |some (p,u),U Q=>match pC F x.1 (eR t x.2::p) Q with
   |some ⟨rs,y,n⟩=>U ⟨lq rs y,u,n⟩
   |none=>V
  |_,_=>V
 |.call ⟨.value _,_,_⟩,.c (.fs A n) :: .c (.ptr id 0)::g=>match m id with
  |some (.box e w)=>match D7 F n w g A with
   |some ⟨T,z,R⟩=>U ⟨.dead,[(id,.box e (enc T z))],R⟩
   |none=>V
  |_=>V
 |.call ⟨.value _,_,_⟩,O::g=>match qaf F O with
  |some r=>OY r d g m
  |none=>match fe m g with
   |some (p,u)=>match K6 F O p with
    |some (v,n)=>U ⟨v,u,n⟩
    |none=>V
   |none=>V
 |_,_=>V
def qa1(c:Gm)(e:TypeId):Option (Nat×Nat):=match c.r (1000000000000+e)with
 |some (.rw b a)=>U (b,a)
 |_=>V
def Pl(e b a:Nat):Bool:=J (vC (fJ e b a)=e/\da (fJ e b a)=b/\mz (fJ e b a)=a/\cJ<=fJ e b a/\fJ e b a<fh/\a<cJ)
def Nq(m:aX)(a:Nat)(t:Ty):AC->Option (List t.q×List (Nat×Ob))
 |.nil=>U ([],[])
 |.own k=>match m k with
  |some (.arr e b l)=>if h:b=t then if e=a then U (cY h l,[(k,.gone)])else V else V
  |_=>V
 |_=>V
def Pr(t:Ty)(a:Nat):Option Ty:=match (enc t t.j)[a]? with
 |some (.sl b _)=>U b
 |_=>V
def JI(P:Program)(k:Gm)(d:Nat)(e:TypeId)(v:AV)(m:aX):Option Eff:=
 match qa1 k e,mD P 20 e,P.info? e,nS v,m d with
 |some (a,b),U f,U i,U g,V=>match Pr f a,g[a]? with
  |some h,U c=>match Nq m b h c with
   |some (l,u)=>match dec f (g.set a (.sl h l))with
    |some (x,[])=>if Pl e a b=Z/\i.size=f.size/\0<f.size/\i.size<=16777216/\(i.zero.any λz=>z.cells.size==f.size)=Z then
      U ⟨.c (.own d),u++[(d,.arr (fJ e a b) f [x])],[]⟩else V
    |_=>V
   |none=>V
  |_,_=>V
 |_,_,_,_,_=>V
def NK(P:Program)(h:Gm)(d:Nat)(t:TypeId)(n c:Int)(m:aX):Option Eff:=
 match P.underlying t with
 |some (.slice e)=>match qa1 h e,P.info? e,mD P 20 e,m d with
  |some (a,b),U i,U f,V=>match i.zero with
   |some z=>match nS (nK z)with
    |some g=>match dec f g,g[a]? with
     |some (x,[]),U .nil=>if Pl e a b=Z/\i.size=f.size/\z.cells.size=f.size/\0<f.size then
       U ⟨.c (.own d),[(d,.arr (fJ e a b) f (Lrp n.toNat x))],[0<=n/\n<=c/\c<=maxLen/\c*i.bytes<=140737488355328]⟩else V
     |_,_=>V
    |none=>V
   |none=>V
  |_,_,_,_=>V
 |_=>V
def ND(P:Program)(d:Nat)(t:TypeId)(id sz i a:Nat)(m:aX):Option Eff:=
 match m id,m d with
 |some (.arr e b l),V=>match (enc b (l.getD i b.j))[a]? with
  |some (.sl g f)=>if cJ<=e/\e<fh/\a=da e/\b.size=sz/\mz e<cJ/\dH P t=Y/\(P.info? t).isSome=Z/\(P.underlying t).isSome=Z then
    U ⟨.c (.own d),[(id,.hole e b l i),(d,.arr (mz e) g f)],[i<l.length]⟩else V
  |_=>V
 |_,_=>V
def P9(P:Program)(t:TypeId)(id sz i a k:Nat)(m:aX):Option Eff:=
 match m id,m k with
 |some (.hole e b l j),U (.arr c d f)=>match Pr b a with
  |some g=>if g=d/\c=mz e/\c<cJ/\a=da e/\b.size=sz/\(P.info? t).isSome=Z/\P.cellsOf t=1/\id≠k then
    match dec b ((enc b (l.getD i b.j)).set a (.sl d f))with
    |some (y,[])=>U ⟨.dead,[(k,.gone),(id,.arr e b (l.set i y))],[i<l.length/\i=j]⟩
    |_=>V
   else V
  |none=>V
 |_,_=>V
def Jy(P:Program)(d:Nat)(t:TypeId)(s:AV)(k:Nat)(m:aX):Option Eff:=
 match P.underlying t with
 |some (.slice e)=>match P.info? e,m k,m d with
  |some i,U (.arr a f b),V=>if cJ<=a/\a<fh/\vC a=e/\i.size=f.size/\0<f.size/\(i.zero.any λz=>z.cells.size==f.size)=Z then
   match s with
   |.c .nil=>U ⟨.c (.own d),[(k,.gone),(d,.arr a f b)],[b.length<=maxLen/\b.length*i.bytes<=140737488355328]⟩
   |.c (.own id)=>match m id with
    |some (.arr g u l)=>if h:u=f then if g=a/\id≠k then
      U ⟨.c (.own d),[(id,.gone),(k,.gone),(d,.arr a f (cY h l++b))],[(cY h l).length+b.length<=maxLen/\((cY h l).length+b.length)*i.bytes<=140737488355328]⟩else V else V
    |_=>V
   |_=>V
   else V
  |_,_,_=>V
 |_=>V
def jf(l:List (Int×α))(n:Int)(z:α):α:=match l.find? (λx=>x.1==n)with
 |some x=>x.2
 |none=>z
def eZ:List (Int×α)->Int->α->List (Int×α)
 |[],n,y=>[(n,y)]
 |x::r,n,y=>bif x.1==n then (n,y)::r else x::eZ r n y
def Cf(P:Program)(t:TypeId):Option (TypeId×Ty):=match P.underlying t with
 |some (.map k e)=>match P.underlying k,mD P 20 e with
  |some (.int .i64),U a=>if a.flat=Z/\a.wide=Y then U (e,a)else V
  |_,_=>V
 |_=>V
def NJ(P:Program)(d:Nat)(t:TypeId)(m:aX):Option Eff:=match Cf P t,m d with
 |some (_,a),V=>U ⟨.c (.own d),[(d,.arr fh (.pair (.int .i64) a) [])],[]⟩
 |_,_=>V
def NF(P:Program)(t:TypeId)(id:Nat)(n:Int)(m:aX):Option Eff:=match Cf P t,m id with
 |some (e,c),U (.arr b (.pair (.int .i64) a) l)=>match (P.info? e).bind (·.zero)with
  |some z=>match nX a (nK z)with
   |some d=>if fh<=b/\a=c then U ⟨eR a (jf l n d),[],[]⟩else V
   |none=>V
  |none=>V
 |_,_=>V
def PY(P:Program)(t:TypeId)(id:Nat)(n:Int)(v:AV)(m:aX):Option Eff:=match Cf P t,m id with
 |some (_,c),U (.arr b (.pair (.int .i64) a) l)=>match nX a v with
  |some y=>if fh<=b/\a=c then U ⟨.dead,[(id,.arr b (.pair (.int .i64) a) (eZ l n y))],[l.length<maxLen]⟩else V
  |none=>V
 |_,_=>V
def Nl(P:Program)(t:TypeId)(v:AV):Option Eff:=match P.underlying t,v with
 |some (.pointer _),.c (.ptr id 0)=>U ⟨.c (.ifp t id),[],[]⟩
 |some _,v=>match mD P 20 t with
  |some a=>match nX a v with
   |some x=>U ⟨.c (.ic [(1,t)] a (1,x)),[],[]⟩
   |none=>V
  |none=>V
 |none,_=>V
def Jz(P:Program)(b:TypeId)(ok:Bool)(a:List (Int×Nat))(t:Ty)(x:Int×t.q):Option Eff:=
 match P.underlying b,a with
 |some (.struct _),[(1,_)]=>U ⟨if ok then .tup [eR t x.2,.c (.bool Z)]else eR t x.2,[],[dd a x.1=U b]⟩
 |some (.int _),[(1,_)]=>U ⟨if ok then .tup [eR t x.2,.c (.bool Z)]else eR t x.2,[],[dd a x.1=U b]⟩
 |_,_=>V
def zao(m:aX):AV->Bool
 |.c (.own id)=>match m id with
  |some (.arr e _ _)=>J (cJ<=e)
  |_=>Y
 |_=>Y
def NE(g:Gm)(h:AV)(a:List AV)(m:aX):Option Eff:=if a.any (zao m)then match h,fe m a with
 |.c (.fn f d),U (b,_)=>match g f with
  |some e=>if e.rs.all Ty.flat then match lm g e.ps (b++d.map .c)with
    |some (x,n)=>U ⟨lq e.rs (e.f x),[],n++e.ok x⟩
    |none=>V
   else V
  |none=>V
 |_,_=>V
 else V
def KR(P:Program)(h:Gm)(d:Nat)(p:Op)(z:List AV)(m:aX):Option Eff:=
 match p,z with
 |.buildSlice t n r,[v]=>match P.underlying t with
  |some (.slice e)=>if n=1/\r.toList.map (·.1)=[0]then JI P h d e v m else V
  |_=>V
 |.makeSlice t _ _,[.c (.int _ n),.c (.int _ c)]=>NK P h d t n c m
 |.load t _,[.optr id sz i a]=>ND P d t id sz i a m
 |.store t _ _,[.optr id sz i a,.c (.own k)]=>P9 P t id sz i a k m
 |.call ⟨.builtin .append,_,w⟩,[s,.c (.own k)]=>match w.toList with
  |[t,u]=>if t=u then Jy P d t s k m else V
  |_=>V
 |.makeMap t V,[]=>NJ P d t m
 |.lookup t _ _ Y,[.c (.own id),.c (.int .i64 n)]=>NF P t id n m
 |.mapUpdate t _ _ _,[.c (.own id),.c (.int .i64 n),v]=>PY P t id n v m
 |.makeInterface t _,[v]=>Nl P t v
 |.typeAssert _ _ y ok,[.c (.ic l t x)]=>Jz P y ok l t x
 |.makeFunc (.func f) first g,[.c (.ptr id 0)]=>if first.size=1/\g.size=0 then U ⟨.c (.fb f id),[],[]⟩else V
 |.call ⟨.value _,_,_⟩,o::b=>NE h o b m
 |_,_=>V
def Fg(P:Program)(g:Gm)(d:Nat)(op:Op)(f:List AV)(m:aX):Option Eff:=
 match op with
 |.pick c _ _=>match f with
  |[.c (.bool p),a,b]=>match Cw p (Iz c Z a) (Iz c Y b)with
   |some v=>U ⟨v,[],[]⟩
   |none=>V
  |_=>V
 |op=>if f.all iL then match KR P g d op f m with
   |some e=>U e
   |none=>KQ P g d op f m
  else V
def ya(b:Op)(a:List AV)(m:aX):List Nat:=
 match b with
 |.makeFunc _ _ _=>a.flatMap xR++(a.flatMap xR).flatMap (λi=>qzl (m i))
 |.move _=>[]
 |_=>a.flatMap xR
def l9(a:List Nat)(m:aX):aX:=λi=>if a.contains i then m i else V
def pW(d:Nat->AV):Nat->Tmp->Bool->Option (List (Tmp×Bool×Bool))
 |0,_,_=>V
 |n+1,g,a=>match d g with
  |.c (.bool b)=>U [(g,a,b)]
  |.maybe e f (.c (.bool b))=>match pW d n e f with
   |some l=>U ((g,a,b)::l)
   |none=>V
  |_=>V
def sM(a:List (Tmp×Bool×Bool)):AV->AV
 |.maybe g w v=>if a.any (λx=>x.1==g&&x.2.1==w)then v else .maybe g w v
 |v=>v
def PU(a:List (Tmp×Bool×Bool))(b:List Prop):List Prop:=b.map λp=>a.foldr (λx q=>x.2.2=x.2.1->q) p
structure Ef where
 dst:Option Tmp
 v:AV
 wr:List (Nat×Ob)
 need:List Prop
 rd:List Tmp
 ks:List Nat
def zN(a:Op):List Tmp:=a.operands.toList.filterMap λ
 |.tmp t=>U t
 |_=>V
def rh(b:Nat)(o:Oper):Nat:=b+o.dst.getD 1000000
def fF(P:Program)(k:Gm)(b:Nat)(h:List Oper)(o:Oper)(i:Nat->AV)(m:aX):Option Ef:=
 match o.guard with
 |none=>
  let d:=o.op.operands.toList.map (jq i)
  let c:=rh b o::ya o.op d m
  match Fg P k (rh b o) o.op d (l9 c m)with
  |some e=>U ⟨o.dst,e.v,e.wr,e.need,zN o.op,c⟩
  |none=>V
 |some (j,a)=>
  match (h[j]?).bind (·.dst)with
  |some g=>match pW i 5 g a with
   |some f=>
    let d:=o.op.operands.toList.map λx=>sM f (jq i x)
    let c:=rh b o::ya o.op d m
    match Fg P k (rh b o) o.op d (l9 c m)with
    |some e=>match e.wr with
     |[]=>U ⟨o.dst,.maybe g a e.v,[],PU f e.need,f.map (·.1)++zN o.op,c⟩
     |_=>V
    |none=>V
   |none=>V
  |none=>V
def fX(a:Nat->AV)(d:Option Tmp)(v:AV):Nat->AV:=
 match d with
 |none=>a
 |some t=>λi=>if i=t then v else a i
def Ef.go(e:Ef)(s:St):St:=⟨s.n,fX s.sl e.dst e.v,aB s.mem e.wr,s.gs⟩
def sk(P:Program)(c:Gm)(b:Nat)(a:List Oper):List Oper->St->Option (List Ef×St)
 |[],s=>U ([],s)
 |o::r,s=>match fF P c b a o s.sl s.mem with
  |some e=>match sk P c b a r (e.go s)with
   |some (d,f)=>U (e::d,f)
   |none=>V
  |none=>V
def iK:List Nat->List Oper->List Nat
 |a,[]=>a
 |a,o::r=>iK (a++[o.after.toList.foldr (λe s=>if Region.binds .any e then 2 ^ e.on ||| a.getD e.on 0 ||| s else s) 0]) r
def ss(n:Nat):Nat->List Tmp->List Oper->Bool
 |_,_,[]=>Z
 |k,W,o::r=>
  (match o.dst with
   |some t=>J (t<n) && !W.contains t
   |none=>Z) &&
  (match o.guard with
   |some (j,_)=>J (j<k)&&o.after.toList.any λe=>e.on==j&&Region.binds .any e
   |none=>Z) &&
  (o.after.toList.all λe=>!Region.binds .any e || J (e.on<k)) &&
  ss n (k+1) (o.dst.toList++W) r
def me(e f:Ef):Bool:=
 (match e.dst with
  |some t=>!f.rd.contains t&&(f.dst != U t)
  |none=>Z) &&
 (match f.dst with
  |some t=>!e.rd.contains t
  |none=>Z) &&
 e.wr.all (λx=>!f.ks.contains x.1&&f.wr.all λy=>x.1 != y.1) &&
 f.wr.all λy=>!e.ks.contains y.1
def GW(k:Nat)(a:Nat)(f:Ef):Nat->List Ef->Bool
 |_,[]=>Z
 |i,e::r=>if i<k then (a.testBit i || me e f)&&GW k a f (i+1) r else Z
def uN(c:List Oper)(b:List Ef):Bool:=
 let d:=iK [] c
 (List.range b.length).all λk=>match b[k]?,d[k]? with
  |some f,U a=>GW k a f 0 b
  |_,_=>Y
def kx(a:Nat->AV):Nat->AV:=λi=>match a i with
 |.maybe _ _ _=>.dead
 |v=>v
inductive XE where
 |normal
 |exit (id:Nat)
 |ret
 |panic (p:PV)
 |val (v:AV)
 |jump (l:Nat)
inductive Tr where
 |leaf (e:XE) (s:St)
 |br (b:Bool) (x y:Tr)
 |need (p:Prop) (x:Tr)
 |two (p:Prop) (x y:Tr)
def Tr.bind(f:St->Option Tr):Tr->Option Tr
 |.leaf .normal s=>f s
 |.leaf e s=>U (.leaf e s)
 |.br b x y=>match x.bind f,y.bind f with
  |some a,U c=>U (.br b a c)
  |_,_=>V
 |.need p x=>match x.bind f with
  |some a=>U (.need p a)
  |none=>V
 |.two p x y=>match x.bind f,y.bind f with
  |some a,U c=>U (.two p a c)
  |_,_=>V
def Tr.bindV(f:AV->St->Option Tr):Tr->Option Tr
 |.leaf (.val v) s=>f v s
 |.leaf (.panic p) s=>U (.leaf (.panic p) s)
 |.leaf _ _=>V
 |.br b x y=>match x.bindV f,y.bindV f with
  |some a,U c=>U (.br b a c)
  |_,_=>V
 |.need p x=>match x.bindV f with
  |some a=>U (.need p a)
  |none=>V
 |.two p x y=>match x.bindV f,y.bindV f with
  |some a,U c=>U (.two p a c)
  |_,_=>V
def Tr.block(id:Nat):Tr->Tr
 |.leaf (.exit i) s=>if i=id then .leaf .normal s else .leaf (.exit i) s
 |.leaf e s=>.leaf e s
 |.br b x y=>.br b (x.block id) (y.block id)
 |.need p x=>.need p (x.block id)
 |.two p x y=>.two p (x.block id) (y.block id)
def Tr.scope:Tr->Tr
 |.leaf (.jump _) s=>.need False (.leaf .ret s)
 |.leaf (.val _) s=>.need False (.leaf .ret s)
 |.leaf e s=>.leaf e s
 |.br b x y=>.br b x.scope y.scope
 |.need p x=>.need p x.scope
 |.two p x y=>.two p x.scope y.scope
def cD:Code->Nat
 |.loop _=>1
 |.seq a b=>cD a+cD b
 |.cond _ a b=>cD a+cD b
 |.block _ c=>cD c
 |.scope c=>cD c
 |_=>0
def needL(a:List Prop)(t:Tr):Tr:=a.foldr (λp t=>.need p t) t
def NX(a:List Ef)(t:Tr):Tr:=a.foldr (λe t=>needL e.need t) t
def gS(s:St):St:=⟨s.n,kx s.sl,s.mem,s.gs⟩
def Hy(P:Program)(f:Gm)(b:Nat)(a:List Oper)(c:Bool)(s:St):Option Tr:=
 if ss s.n 0 [] a then match sk P f b a a s with
  |some (d,e)=>if c=Y\/uN a d=Z then U (NX d (.leaf .normal (gS e)))else V
  |none=>V
 else V
structure Cx where
 Γ:Gm
 Pi:FuncId->Option Pc
 K:Nat->FuncId->List AV->St->Option Tr
def NS(P:Program)(a:String)(e:TypeId):Option (FuncId×Bool):=
 match P.info? e,P.underlying e with
 |some i,U (.pointer b)=>match i.methods.find? (·.name==a)with
  |some c=>match c.func with
   |some (f,d)=>if c.path.isEmpty=Z/\(d=Z\/((P.info? b).isSome=Z/\(P.underlying b).isSome=Z/\dH P b=Y))then U (f,!d)else V
   |none=>V
  |none=>V
 |_,_=>V
def Da(P:Program)(C:Cx)(b:Nat)(o:Oper)(s:St):Option Tr:=
 match o.guard,o.op,o.op.operands.toList.map (jq s.sl)with
 |none,.call ⟨.value _,_,_⟩,.c (.fn f d)::a=>match C.Pi f with
  |some e=>match fe s.mem (a++d.map .c)with
   |some (i,u)=>match lm C.Γ e.ps i with
    |some (x,n)=>U (needL (n++e.ok x) (.br (e.bad x) (.leaf (.panic (e.pv x)) (gS ⟨s.n,s.sl,aB s.mem u,s.gs⟩)) (.leaf (.val (lq e.rs (e.f x))) (gS ⟨s.n,s.sl,aB s.mem u,s.gs⟩))))
    |none=>V
   |none=>V
  |none=>if a.all iL then C.K (rh b o) f (a++d.map .c) (gS s)else V
 |none,.call ⟨.value _,_,_⟩,.c (.fb f id)::a=>if a.all iL then C.K (rh b o) f (.c (.ptr id 0)::a) (gS s)else V
 |none,.call ⟨.invoke _ g,_,_⟩,.c (.ifp h id)::a=>match NS P g h with
  |some (f,Z)=>match s.mem id with
   |some (.box _ [.own r])=>if a.all iL then C.K (rh b o) f (.c (.own r)::a) (gS s)else V
   |_=>V
  |some (f,Y)=>if a.all iL then C.K (rh b o) f (.c (.ptr id 0)::a) (gS s)else V
  |none=>V
 |none,.binOp .eql t _ _ _,[.c (.sl _ l),.c .nil]=>if P.underlying t matches U (.slice _)then
   U (.two (l=[]) (.leaf (.val (.c (.bool Z))) (gS s)) (.leaf (.val (.c (.bool Y))) (gS s)))else V
 |_,_,_=>V
def yz(P:Program)(C:Cx)(b:Nat)(a:List Oper):List Oper->St->Option Tr
 |[],s=>U (.leaf .normal (gS s))
 |o::r,s=>match fF P C.Γ b a o s.sl s.mem with
  |some e=>match yz P C b a r (e.go s)with
   |some t=>U (needL e.need t)
   |none=>V
  |none=>match Da P C b o s with
   |some t=>t.bindV λv c=>yz P C b a r ⟨c.n,fX c.sl o.dst v,c.mem,c.gs⟩
   |none=>V
def yb(a:List (Tmp×Bool))(t:Tmp):Option Bool:=match a with
 |[]=>V
 |(x,v)::r=>if x=t then U v else yb r t
def El(a:List (Tmp×Bool)):Operand->Option Bool
 |.tmp t=>yb a t
 |.const (.bool c)=>U c
 |_=>V
def MM(a:List (Tmp×Bool)):Op->Option Operand
 |.move x=>U x
 |.pick c x y=>match El a c with
  |some Z=>U x
  |some Y=>U y
  |none=>V
 |_=>V
def Gb(o:Oper):Oper:=⟨o.dst,o.op,o.type,o.pos,o.after,V⟩
def yy(P:Program)(C:Cx)(b:Nat)(g:List Oper)(a:List (Tmp×Bool))(o:Oper)(s:St)(k:List (Tmp×Bool)->St->Option Tr):Option Tr:=
 match MM a o.op,o.dst with
 |some x,U d=>match El a x with
  |some c=>k ((d,c)::a) ⟨s.n,fX s.sl (U d) (.c (.bool c)),s.mem,s.gs⟩
  |none=>match jq s.sl x with
   |.maybe _ _ _=>V
   |v=>k a ⟨s.n,fX s.sl (U d) v,s.mem,s.gs⟩
 |_,_=>match fF P C.Γ b g (Gb o) s.sl s.mem with
  |some e=>match k a (e.go s)with
   |some t=>U (needL e.need t)
   |none=>V
  |none=>match Da P C b (Gb o) s with
   |some t=>t.bindV λv f=>k a ⟨f.n,fX f.sl o.dst v,f.mem,f.gs⟩
   |none=>V
def ni(P:Program)(C:Cx)(b:Nat)(a:List Oper):List (Tmp×Bool)->List Oper->St->Option Tr
 |_,[],s=>U (.leaf .normal (gS s))
 |e,o::r,s=>match o.guard with
  |none=>yy P C b a e o s λe s=>ni P C b a e r s
  |some (j,d)=>match (a[j]?).bind (·.dst)with
   |none=>V
   |some g=>match yb e g with
    |some v=>if v=d then yy P C b a e o s λe s=>ni P C b a e r s
     else ni P C b a e r ⟨s.n,fX s.sl o.dst .dead,s.mem,s.gs⟩
    |none=>match s.sl g with
     |.c (.bool p)=>match yy P C b a ((g,d)::e) o s λe s=>ni P C b a e r s,ni P C b a ((g,!d)::e) r ⟨s.n,fX s.sl o.dst .dead,s.mem,s.gs⟩with
      |some x,U y=>U (.br p (if d then x else y) (if d then y else x))
      |_,_=>V
     |_=>V
def Gc(m:aX)(id:Nat):aX:=match oO m (.own id)with
 |some (_,u)=>aB m u
 |none=>m
def BI(s:St):St:=⟨s.n,s.sl,((List.range s.n).flatMap λt=>match s.sl t with
 |.c (.ptr id 0)=>match s.mem id with
  |some (.box _ a)=>a.flatMap og
  |_=>[]
 |_=>[]).foldl Gc s.mem,s.gs⟩
def cQ(P:Program)(C:Cx)(f:Nat)(g:Nat->St->Option Tr):Code->Nat->St->Option Tr
 |.skip,_,s=>U (.leaf .normal s)
 |.ret,_,s=>U (.leaf .ret s)
 |.exit id,_,s=>U (.leaf (.exit id) s)
 |.region _ d e,_,s=>match Hy P C.Γ f d.toList e s with
  |some t=>U t
  |none=>match (if e=Y/\ss s.n 0 [] d.toList=Z then yz P C f d.toList d.toList s else V)with
   |some t=>U t
   |none=>match (if e=Y/\ss s.n 0 [] d.toList=Z then ni P C f d.toList [] d.toList s else V)with
    |some t=>U t
    |none=>match Hy P C.Γ f d.toList e (BI s)with
     |some t=>U t
     |none=>U (.need False (.leaf .ret s))
 |.seq a b,k,s=>match cQ P C f g a k s with
  |some t=>t.bind (cQ P C f g b (k+cD a))
  |none=>V
 |.cond c a b,k,s=>match jq s.sl c with
  |.c (.bool p)=>match cQ P C f g a k s,cQ P C f g b (k+cD a) s with
   |some x,U y=>U (.br p x y)
   |_,_=>V
  |_=>V
 |.block id c,k,s=>match cQ P C f g c k s with
  |some t=>U (t.block id)
  |none=>V
 |.loop _,k,s=>match g k s with
  |some t=>U t
  |none=>U (.need False (.leaf .ret s))
 |.scope c,k,s=>match cQ P C f g c k s with
  |some t=>U t.scope
  |none=>V
 |.label _,_,s=>U (.leaf .normal s)
 |.goto l,_,s=>U (.leaf (.jump l) s)
 |_,_,s=>U (.need False (.leaf .ret s))
def vL(n:Nat)(a:List AV):St:=⟨n,λi=>a.getD i .dead,λ_=>V,λ_=>.dead⟩
def St.at(s:St)(t:Nat):AV:=if t<10000 then s.sl t else s.gs (t-10000)
def ZS(P:Program)(s:St):ResultVar->Option (AV×List Prop)
 |.tmp t=>U (s.sl t,[])
 |.cell a t=>match s.sl a with
  |.c (.ptr id b)=>match GE P t (.c (.ptr id b)) s.mem with
   |some e=>U (e.v,e.need)
   |none=>V
  |_=>V
def ji(P:Program)(s:St):List ResultVar->Option (List AV×List Prop)
 |[]=>U ([],[])
 |r::a=>match ZS P s r,ji P s a with
  |some (v,n),U (b,k)=>U (v::b,n++k)
  |_,_=>V
def vB:List AV->AV
 |[v]=>v
 |vs=>.tup vs
def St.back(n:Nat)(s:St):St:=⟨n,λt=>if t<10000 then s.gs t else .dead,s.mem,λt=>s.gs (t+10000)⟩
def ja(P:Program)(a:List ResultVar)(n:Nat):Tr->Option Tr
 |.leaf .ret s=>match ji P s a with
  |some (e,d)=>U (needL d (.leaf (.val (vB e)) (s.back n)))
  |none=>V
 |.leaf .normal s=>match ji P s a with
  |some (e,d)=>U (needL d (.leaf (.val (vB e)) (s.back n)))
  |none=>V
 |.leaf (.panic p) s=>U (.leaf (.panic p) (s.back n))
 |.leaf _ _=>V
 |.br b x y=>match ja P a n x,ja P a n y with
  |some c,U f=>U (.br b c f)
  |_,_=>V
 |.need p x=>match ja P a n x with
  |some c=>U (.need p c)
  |none=>V
 |.two p x y=>match ja P a n x,ja P a n y with
  |some c,U f=>U (.two p c f)
  |_,_=>V
def iJ(P:Program)(C:Cx)(e:FuncId->Option (Func×(Nat->St->Option Tr)))(d:Nat)(f:FuncId)(a:List AV)(s:St):Option Tr:=
 match e f with
 |some (b,g)=>match b.body with
  |some c=>if a.length<=b.ntmps/\(b.name == "runtime.NumGoroutine")=Y then
    match cQ P C ((d+1)*10000) g c 0 ⟨b.ntmps,λi=>a.getD i .dead,s.mem,s.at⟩with
    |some t=>ja P b.results.toList s.n t
    |none=>V
   else V
  |none=>V
 |none=>V
section
variable (P:Program) (w:World) (F:Nat->Prop) (R:Nat->Value->Prop)
def bI:List AV->List Value->Prop
 |[],[]=>True
 |a::r,v::s=>aK P w F R a v/\bI r s
 |_,_=>False
end
def ZP:{a:List Value} -> {b:List AV}->bI P w F R b a->nG P w F R b (λj u=>a[j]?= U u)
 |[],[],_=>trivial
 |u::a,v::b,h=>⟨⟨u,rfl,h.1⟩,by simpa using ZP h.2⟩
 |[],_::_,h=>h.elim
 |_::_,[],h=>h.elim
def wz(P:Program)(B:Nat)(o:Oper)(a:Act)(w:World)(F:Nat->Prop)(f:Nat->Value)(M:aX)(v:AV)(e:List (Nat×Ob)):Prop:=
 ∀ (K:Act->World->Prop) (Q:Exit->Act->World->Prop),
  (∀ u c d b,Step B w F f M c d b (aB M e)->MemOK P B c d b (aB M e)->aK P c d (av (aB M e) b) v u->K (a.put o.dst u) c)->o.wp P a w K Q
section
variable {P:Program} {B:Nat} {o:Oper} {a:Act} {w w':World} {F F':Nat->Prop} {γ γ':Nat->Value} {M m:aX} {R:Nat->Value->Prop}
def jW{v:AV}{b:List (Nat×Ob)}(f:(execOp a.eval o).run P w=.ok (.value u) w')(g:Step B w F γ M w' F' γ' (aB M b))(e:MemOK P B w' F' γ' (aB M b))(d:aK P w' F' (av (aB M b) γ') v u):wz P B o a w F γ M v b:=by intro K Q c;unfold Oper.wp;rw[f];exact c u w' F' γ' g e d
def eo{v:AV}(e:MemOK P B w F γ M)(d:∀ b,F b->b<w.heap.size)(f:(execOp a.eval o).run P w=.ok (.value u) w)(c:aK P w F (av M γ) v u):wz P B o a w F γ M v []:=
 jW f (Step.refl d) e c
def aS.drop_{a:List AC}(h:aS P w F R a g)(n:Nat):aS P w F R (a.drop n) (λj u=>g (n+j) u):=
 mF _ λj c b=>h.at_ (by rw[<- b,ub1])
def aS.take_{a:List AC}(h:aS P w F R a g)(n:Nat):aS P w F R (a.take n) g:=
 mF _ λj c b=>h.at_ (by rw[ub2]at b;split at b<;>simp_all)
def aS.turn{a:List AC}{g':Nat->Value->Prop}(h:aS P w F R a g)(f:∀ j u,j<a.length->g j u->g' j u):aS P w F R a g':=
 mF _ λj c b=>by obtain⟨u,d,e⟩:=h.at_ b;exact⟨u,f j u (uak.1 b).1 d,e⟩
def aS.vals:(cs:List AC) -> {g:Nat->Value->Prop}->aS P w F R cs g->∃ b:List Value,b.length=cs.length/\(∀ j u,b[j]?= U u->g j u)/\aS P w F R cs (λj u=>b[j]?= U u)/\∀ u∈b,u.oneCell'=Z
 |[],_,_=>⟨[],rfl,λj u h=>by simp at h,uT,λu h=>by simp at h⟩
 |c::r,g,h=>by
  obtain⟨⟨u,l,d,m⟩,n⟩:=h;obtain⟨b,e,f,i,k⟩:=aS.vals r n;refine⟨u::b,by simp[e],λj v a=>?_,⟨⟨u,rfl,d,m⟩,by simpa using i⟩,λv a=>?_⟩;cases j with
  |zero=>simp at a;subst a;exact l
  |succ j=>exact f j v (by simpa using a)
  rcases uej.1 a with rfl|a
  exact d;exact k v a
def xL{a l:List AC}(h:jT a off n=U l)(b:aS P w F R a g):l.length=n/\aS P w F R l (λj u=>g (off+j) u):=by unfold jT at h;split at h;cases h;exact⟨by simp;omega,(b.drop_ off).take_ n⟩;cases h
def nM{id:Nat}{c:List AC}(l:MemOK P B w F γ M)(f:M id=U (.box e c))(h:bx P w F (av M γ) (.ptr id off) v):
  ∃ b arr,γ id=.pointer (U ⟨b,0,V⟩)/\v=.pointer (U ⟨b,off,V⟩)/\w.heap[b]?= U (.cells arr e (0,0))/\¬ F b/\B<=b/\arr.size=c.length/\aS P w F (av M γ) c (λj u=>arr[j]?= U u):=by
 obtain⟨b,arr,d,i⟩:=l.ob id _ f;obtain⟨g,a,k⟩:=h;unfold av at a;rw[f]at a;simp only[d,ubt,ucl,Addr.mk.injEq,and_true]at a;subst a;exact⟨g,arr,d,k,i⟩
def L4{id:Nat}{c:List AC}(k:MemOK P B w F γ M)(d:M id=U (.fbox c))(h:bx P w F (av M γ) (.ptr id off) v):
  ∃ b,v=.pointer (U ⟨b,off,V⟩)/\F b/\aS P w F (av M γ) c (λj u=>w.cell? ⟨b,j,V⟩=U u):=by
 obtain⟨b,f,g⟩:=k.ob id _ d;obtain⟨e,a,i⟩:=h;unfold av at a;rw[d]at a;simp only[f,ubt,ucl,Addr.mk.injEq,and_true]at a;subst a;exact⟨e,i,g⟩
def fV{id:Nat}{o:Ob}(a:M id=U o)(b:o ≠ .gone)(h:bx P w F (av M γ) (.own id) v):v=γ id:=by simp only[bx]at h;unfold av at h;cases o<;>simp_all
def pn(a:Addr)(i j:Nat):(a.add i).add j=a.add (i+j):=by unfold Addr.add;by_cases b:i=0<;>by_cases c:j=0<;>simp[b,uei]
def kq(b a j:Nat):(⟨b,a,V⟩:Addr).add j=⟨b,a+j,V⟩:=by unfold Addr.add;split<;>simp_all
def xg{a:Nat×Nat}(h:w.heap[b]?= U (.cells arr e a))(j:Nat):w.cell? ⟨b,j,V⟩=arr[j]? := by simp[World.cell?,h]
def zlv{t:Ty}{l:List t.q}(h:cy w F t l xs)(a:i<l.length):aS P w F R (enc t (l.getD i t.j)) (λj u=>xs[i*t.size+j]?= U u):=by have:=h i (l.getD i t.j) (by simp[uaq a]);exact aG.enc t _ this
def qbg{t:Ty}{l:List t.q}(h:aG w F (.sl t) l (λ_ u=>u=v))(f:i<l.length):
  ∃ ad c,v=.slice (U ad) l.length c/\F ad.block/\aS P w F R (enc t (l.getD i t.j)) (λj u=>w.cell? ((ad.add (i*t.size)).add j)=U u):=by
 obtain⟨A,c,a,k,m,b⟩:=h;have g:l[i]?= U (l.getD i t.j):=by simp[uaq f]
 obtain⟨ad,rfl,e,d⟩:=b i _ g;exact⟨ad,c,a.symm,e,(aG.enc t _ d).turn λj u _ h=>by rw[pn];exact h⟩
def Sg{id:Nat}{t:Ty}{l:List t.q}(v:MemOK P B w F γ M)(n:M id=U (.arr ety t l))(p:ety<cJ)(s:i<l.length):
  ∃ b c arr,γ id=.slice (U ⟨b,0,V⟩) l.length c/\w.heap[b]?= U (.cells arr ety (0,0))/\¬ F b/\B<=b/\(i+1)*t.size<=arr.size /\
   aS P w F (av M γ) (enc t (l.getD i t.j)) (λj u=>arr[i*t.size+j]?= U u):=by
 obtain⟨E,h,k,m,z⟩:=iT.of (v.ob id _ n) p;obtain⟨C,D|⟨b,d,e,g,o,r,x,_,f,y⟩⟩:=h;omega;refine⟨b,d,e,g,r,k b (by rw[g];rfl),o,?_,(zlv m s).turn λj u A a=>?_⟩;rw[f];exact ube _ (by omega);rw[<- y,ub2]at a;split at a;simpa using a;cases a
def Gx:{d:List AC} -> {a:List Int}->rD k d=U a->d=a.map (.int k)
 |[],a,h=>by simp[rD]at h;subst h;rfl
 |c::r,a,h=>by
  unfold rD at h;split at h
  simp_all
  rename_i g n l e;cases e;split at h;rename_i f;subst f;cases b:rD k r with
  |none=>rw[b]at h;simp at h
  |some i=>rw[b]at h;simp at h;subst h;rw[Gx b];rfl
  cases h;cases h
def Vj{i:Int}{p:Int×Nat}:{cs:List AC} -> {k:Int}->(lv k cs).find? (λx=>x.1==i)=U p->k<=i/\cs[(i-k).toNat]?= U (.fn p.2 [])
 |[],_,h=>by simp[lv]at h
 |c::r,k,h=>by
  have a:(lv (k+1) r).find? (λx=>x.1==i)=U p->k<=i/\(c::r)[(i-k).toNat]?= U (.fn p.2 []):=λb=>by obtain⟨o,l⟩:=Vj b;refine⟨by omega,?_⟩;rw[show(i-k).toNat=(i-(k+1)).toNat+1 by omega];simpa using l
  by_cases g:∃ f,c=.fn f [];obtain⟨f,rfl⟩:=g;have b:((k,f)::lv (k+1) r).find? (λx=>x.1==i)=U p:=h;rw[List.find?_cons]at b;split at b;rename_i n;have e:k=i:=by simpa using n
  cases b;rw[e];exact⟨ufe _,by simp⟩;exact a b;have m:lv k (c::r)=lv (k+1) r:=by
   cases c with
   |fn f d=>cases d with
    |nil=>exact absurd ⟨f,rfl⟩ g
    |cons _ _=>rfl
   |_=>rfl
  rw[m]at h;exact a h
def O4{m b:List AC}{i:Int}{v:List Prop}(h:AS.pickI m n i=U (b,v))(E:az v)(t:aS P w F R m (λj u=>w.cell? (ad.add j)=U u))(G:0<=i)(H:i<n):
  aS P w F R b (λj u=>w.cell? ((ad.add i.toNat).add j)=U u):=by
 unfold AS.pickI at h;split at h;rename_i k bz D a;split at h;rename_i y l;obtain⟨rfl,_⟩:=h;obtain⟨r,g⟩:=xL a t;have B:=Gx l;subst B;have C:i.toNat<y.length:=by simp at r;omega
 obtain⟨u,d,e,f⟩:=g.at_ (j:=i.toNat) (c:=.int k (y.getD i.toNat 0)) (by simp[uaq C]);exact⟨⟨u,by show w.cell? ((ad.add i.toNat).add 0)=U u;rw[pn];simpa using d,e,f⟩,uT⟩;cases h;rename_i bz D a;split at h<;>try trivial
 cases h;obtain⟨p,s⟩:=uar.1 E;obtain⟨r,g⟩:=xL a t;obtain⟨K,o⟩:=Vj s;rw[uet]at o;obtain⟨u,d,e,L,f,z,_⟩:=g.at_ o;have A:=Array.size_eq_zero_iff.mp z;subst A;refine⟨⟨u,by show w.cell? ((ad.add i.toNat).add 0)=U u;rw[pn];simpa using d,e,?_⟩,uT⟩;show u=jS ((lv 0 bz).find? (λx=>x.1==i));rw[s,f];rfl;cases h
def Te{x:AV}{R:List AC}{n:List Prop}(C:MemOK P B w F γ M)(d:∀ i y,m i=U y->M i=U y)(h:AS m x=U (R,n))(E:az n)(G:aK P w F (av M γ) x v):
  ∃ ad,v=.pointer (U ad)/\aS P w F (av M γ) R (λj u=>w.cell? (ad.add j)=U u):=by
 unfold AS at h;split at h;rename_i id f;split at h;rename_i e r a;cases h;obtain⟨b,D,_,g,N,_,_,_,s⟩:=nM C (d _ _ a) G.2;exact⟨_,g,(s.drop_ f).turn λj u _ p=>by rw[kq,xg N];exact p⟩;rename_i r a;cases h;obtain⟨b,g,_,s⟩:=L4 C (d _ _ a) G.2;exact⟨_,g,(s.drop_ f).turn λj u _ p=>by rw[kq];exact p⟩;cases h;rename_i r;cases h;obtain⟨_,ad,g,_,s⟩:=G;exact⟨ad,g,s⟩;rename_i id sz i f;obtain⟨A,n0,c0,o,T⟩:=G;split at h;rename_i e t l a;split at h;rename_i z;cases h;obtain⟨b,c,D,H,S,_,_,_,e6⟩:=Sg C (d _ _ a) z.1 E;unfold av at o;rw[d _ _ a]at o;simp only[H,ucl]at o;obtain⟨rfl,_,_⟩:=o;refine⟨_,T,(e6.drop_ f).turn λj u _ p=>?_⟩;rw[pn,kq,xg S,<- p,<- z.2];congr 1;omega;cases h;rename_i t l a;split at h;rename_i z;cases h;have O:=C.ob id _ (d _ _ a);obtain⟨ad,c,H,S,e3⟩:=qbg O E;unfold av at o;rw[d _ _ a]at o;simp only[H,ucl]at o;obtain⟨rfl,_,_⟩:=o;refine⟨_,T,(e3.drop_ f).turn λj u _ p=>?_⟩;rw[pn]at p |-;rw[<- p,<- z];congr 2;omega;cases h;cases h;rename_i Q k i;obtain⟨ad,K,L,o,rfl⟩:=G;refine⟨_,rfl,?_⟩;split at h;rename_i id f;split at h;rename_i e r a;obtain⟨b,D,_,g,N,_,_,_,s⟩:=nM C (d _ _ a) K;simp at g;subst g;exact O4 h E ((s.drop_ f).turn λj u _ p=>by rw[kq,xg N];exact p) L o;rename_i r a;obtain⟨b,g,_,s⟩:=L4 C (d _ _ a) K;simp at g;subst g;exact O4 h E ((s.drop_ f).turn λj u _ p=>by rw[kq];exact p) L o;cases h;rename_i r;obtain⟨W,g,_,s⟩:=K;simp at g;subst g;exact O4 h E s L o;cases h;cases h
def CV{d:TypeDesc}(h:P.underlying t=U d):(isAgg t).run P w=.ok (dH P t) w:=by unfold isAgg dH;rw[ueu,ud6 h];cases d<;>simp[h]
def jj{i:TypeInfo}(h:P.info? t=U i):(sizeOf t).run P w=.ok (P.cellsOf t) w:=by simp[sizeOf,typeInfo,h,Program.cellsOf]
def XF{x:AV}{e:Eff}(H:MemOK P B w F γ M)(b:∀ i y,m i=U y->M i=U y)(h:GE P t x m=U e)(K:az e.need)(L:aK P w F (av M γ) x v):
  e.wr=[]/\∃ u,(Instr.loadAt t v).run P w=.ok u w/\aK P w F (av M γ) e.v u:=by
 unfold GE at h;split at h;rename_i W n c;split at h;rename_i G;obtain⟨i,p⟩:=uar.1 G.1;obtain⟨d,E⟩:=uar.1 G.2;split at h;rename_i z;split at h;rename_i l S;cases h;obtain⟨f,rfl,R⟩:=Te H b c K L;obtain⟨g,o⟩:=xL S R;obtain⟨C,D,O,Q,_⟩:=o.vals;refine⟨rfl,.agg C.toArray,?_,C.toArray,rfl,by simpa using D,by simpa using Q⟩;have s:=run_loadCells_list (P:=P) w f C (λj u T=>by have:=O j u T;simpa using this);simp[Instr.loadAt,Instr.sureAddr,loadVar,CV E,z,jj p,<- g,<- D,s];cases h;rename_i z;split at h;rename_i a r;cases h;obtain⟨f,rfl,⟨u,g,o,N⟩,_⟩:=Te H b c K L;refine⟨rfl,u,?_,o,N⟩;have k:w.cell? f=U u:=by simpa[Addr.add]using g
 have A:dH P t=false:=by simpa using z
 simp[Instr.loadAt,Instr.sureAddr,loadVar,CV E,A,Sem.run,k];cases h;cases h;cases h
end
def iQ(k:IntKind)(n:Int):inR k (k.wrap n):=by unfold inR IntKind.wrap IntKind.min IntKind.max;cases k<;>simp[IntKind.signed,IntKind.bits]<;>first|omega|(split<;>omega)
def DE(k:IntKind):k.min<=0/\0<=k.max:=by cases k<;>simp[IntKind.min,IntKind.max,IntKind.signed,IntKind.bits]
def zqc(k:IntKind){b:Int}(d:inR k a):inR k (a.tmod b):=by
 have f:=DE k;have e:(a.tmod b).natAbs<=a.natAbs:=by rw[Int.natAbs_tmod];exact Nat.mod_le _ _
 unfold inR at *;rcases Int.le_total 0 a with h|h
 have c:=Int.tmod_nonneg b h;omega;have c:0<=(-a).tmod b:=Int.tmod_nonneg b (by omega);rw[Int.neg_tmod]at c;omega
def qsn(k:IntKind)(n:Nat)(g:inR k a):inR k (a.fdiv (2 ^ n)):=by
 have i:=DE k;have d:(0:Int)<2 ^ n:=Int.pow_pos (by omega);rw[uag _ (by omega)];unfold inR at *;rcases Int.le_total 0 a with h|h
 have e:=udl h (uev d);have f:=Int.ediv_le_self (2 ^ n) h;omega;have e:=Int.ediv_nonpos_of_nonpos_of_neg h (by omega);have f:a<=a/2 ^ n:=by refine Int.le_ediv_of_mul_le d ?_;have:=Int.mul_le_mul_of_nonpos_left (b:=2 ^ n) (c:=1) h (by omega);omega
 omega
section
variable {P:Program} {B:Nat} {o:Oper} {a:Act} {w w':World} {F F':Nat->Prop} {γ γ':Nat->Value} {M m:aX} {R:Nat->Value->Prop}
def zv{i:TypeInfo}{d:TypeDesc}(b:P.underlying t=U d)(c:P.info? t=U i)(a:off+(if dH P t then P.cellsOf t else 1)<=cs.size):
  (part t cs off).run P w=.ok (if dH P t then .agg (cs.extract off (off+P.cellsOf t))else cs.getD off undef) w:=by
 unfold part;rw[ueu,CV b];cases e:dH P t;simp only[e]at a;have:off<cs.size:=by simp at a;omega
 simp[this];simp[jj c]
def Cv{a l:List AC}(f:n=if dH P t then P.cellsOf t else 1)(p:cs.size=a.length)(g:aS P w F R a (λj u=>cs[j]?= U u))(h:jT a off n=U l):
  off+n<=cs.size/\∃ b:List Value,b.length=l.length/\aS P w F R l (λj u=>b[j]?= U u)/\(if dH P t then .agg (cs.extract off (off+P.cellsOf t))else cs.getD off undef)=(if dH P t then .agg b.toArray else b.headD undef)/\l.length=n:=by
 have e:off+n<=a.length:=by unfold jT at h;split at h;assumption;cases h
 obtain⟨c,d⟩:=xL h g;refine⟨by omega,(cs.toList.drop off).take n,by rw[uc6,uc7,c,ubu];omega,d.turn λj u o i=>?_,?_,c⟩;have:j<n:=by omega
 rw[ub2,uf0 this,ub1];simpa using i;subst f;split;congr 1;rw[<- uc8];simp[List.extract];rename_i k;have m:off+1<=a.length:=by simpa[k]using e
 have:off<cs.size:=by omega
 simp[Array.getD,this];rw[ual (by simpa using this)];simp
def xw(d:Nat)(e:TypeId)(n:Nat)(c f:Array Value):List Nat->Sem Bool
 |[]=>pure Z
 |i::r=>do
  let a <- part e c (i*n)
  let b <- part e f (i*n)
  let q <- Op.equalIn d e a b
  if (!q)=Z then pure Y else xw d e n c f r
def zl0(d:Nat)(t e:TypeId)(c:Nat){v:TypeInfo}(f g:Array Value)(n:P.underlying t=U (.array c e))(m:P.info? e=U v):
  (Op.equalIn (d+1) t (.agg f) (.agg g)).run P w=(xw d e (P.cellsOf e) f g (List.range c)).run P w:=by
 simp only[Op.equalIn,ueu,ud6 n,ucm,jj m];rw[Std.Legacy.Range.forIn_eq_forIn_range'];have:List.range' 0 c 1=List.range c:=ubm.symm;simp;rw[this];generalize List.range c=l
 induction l generalizing w with
 |nil=>simp[xw]
 |cons i l o=>
  simp only[List.forIn_cons,xw,ueu];generalize (part e f (i*P.cellsOf e)).run P w=p;cases p with
  |ok a h=>
   simp only[ucm];generalize (part e g (i*P.cellsOf e)).run P h=s;cases s with
   |ok b k=>
    simp only[ucm];generalize (Op.equalIn d e a b).run P k=u;cases u with
    |ok r y=>cases r;simp;simp only[ucm,Bool.not_true,ufx,uew];exact o
    |halt x y=>simp
   |halt x k=>simp
  |halt x h=>simp
def Pj:(n:Nat) -> {t:TypeId} -> {xs M:List AC} -> {r:Bool}->tV P n t xs M=U r->(d:Nat)->n<=d->(c vs:List Value)->c.length=xs.length->vs.length=M.length ->
  aS P w F R xs (λj u=>c[j]?= U u)->aS P w F R M (λj u=>vs[j]?= U u) ->
  (Op.equalIn d t (if dH P t then .agg c.toArray else c.headD undef) (if dH P t then .agg vs.toArray else vs.headD undef)).run P w=.ok r w
 |0,t,xs,M,r,h,d,hd,c,vs,hu,hv,H,K=>by simp[tV]at h
 |n+1,t,xs,M,r,h,d,hd,c,vs,hu,hv,H,K=>by
  obtain⟨d,rfl⟩:∃ d',d=d'+1:=⟨d-1,by omega⟩;unfold tV at h;split at h;rename_i m;split at h;rename_i a b;cases h;obtain⟨⟨u,e1,_,rfl⟩,_⟩:=H;obtain⟨⟨v,f1,_,rfl⟩,_⟩:=K;have B:dH P t=false:=by simp[dH,m]
  have e2:c.headD undef=.bool a:=by cases c<;>simp_all
  have f2:vs.headD undef=.bool b:=by cases vs<;>simp_all
  simp only[B,e2,f2];exact ucn w d t a b m;cases h;rename_i k0 m;split at h;rename_i k a k' b;split at h;rename_i hk;cases h;obtain⟨⟨u,e1,_,rfl,_⟩,_⟩:=H;obtain⟨⟨v,f1,_,rfl,_⟩,_⟩:=K;have B:dH P t=false:=by simp[dH,m]
  have e2:c.headD undef=.int k a:=by cases c<;>simp_all
  have f2:vs.headD undef=.int k b:=by cases vs<;>simp_all
  simp only[B,e2,f2];exact run_equalIn_int w d t k k0 a b m;cases h;cases h;rename_i fs m;split at h;cases h;rename_i hst;have B:dH P t=true:=by simp[dH,m]
  simp only[B,if_true];have E:P.fieldsOf t=fs:=by simp[Program.fieldsOf,m]
  rw[run_equalIn_struct w d t c.toArray vs.toArray (by rw[E];exact m) (by simpa using hst),E];generalize fs.toList=l at h
  induction l generalizing r with
  |nil=>simp at h;subst h;simp[Op.eqFields]
  |cons f l N=>simp at h;split at h;rename_i hf;simp only[Op.eqFields,hf];simpa using N _ h;rename_i hf;split at h;rename_i G;obtain⟨di,o⟩:=uar.1 G.1;obtain⟨ti,g⟩:=uar.1 G.2;split at h;rename_i x y z A;split at h;rename_i p q hp hq;cases h;obtain⟨O,C,Q,S,T,b5⟩:=Cv (cs:=c.toArray) rfl (by simpa using hu) (by simpa using H) z;obtain⟨W,D,c2,c3,c4,c5⟩:=Cv (cs:=vs.toArray) rfl (by simpa using hv) (by simpa using K) A;have s:=Pj n hp d (by omega) C D Q c2 S c3;simp only[Op.eqFields,uf0 hf,ueu,zv o g O,zv o g W,ucm,T,c4,s];cases p;simp;simpa using N _ hq;cases h;cases h;cases h
  rename_i L e m;split at h;rename_i G;obtain⟨di,o⟩:=uar.1 G.1;obtain⟨ti,g⟩:=uar.1 G.2;have B:dH P t=true:=by simp[dH,m]
  simp only[B,if_true];rw[zl0 d t e L c.toArray vs.toArray m g];generalize List.range L=l at h
  induction l generalizing r with
  |nil=>simp at h;subst h;simp[xw]
  |cons i l N=>simp at h;split at h;rename_i x y z A;split at h;rename_i p q hp hq;cases h;obtain⟨O,C,Q,S,T,b5⟩:=Cv (cs:=c.toArray) rfl (by simpa using hu) (by simpa using H) z;obtain⟨W,D,c2,c3,c4,c5⟩:=Cv (cs:=vs.toArray) rfl (by simpa using hv) (by simpa using K) A;have s:=Pj n hp d (by omega) C D Q c2 S c3;simp only[xw,ueu,zv o g O,zv o g W,ucm,T,c4,s];cases p;simp;simpa using N _ hq;cases h;cases h
  cases h;cases h
def qow{a:BinOp}{r:Bool}(h:KL a x y=U r)(t:TypeId)(X b:Operand):
  (do eqGuard a t X b (.int k x) (.int k y);binOp a t (.int k x) (.int k y):Sem Value).run P w=.ok (.bool r) w:=by
 unfold KL at h;split at h<;>simp at h<;>subst h<;>simp[ud7,binOp,Op.intCmp]
def ql8{m:BinOp}{x y:AV}{D:Value}{c:AC}{n:List Prop}(h:J5 P m t x y=U (c,n))(f:az n)(z:aK P w F R x vx)(A:aK P w F R y D)(X W:Operand):
  ∃ u,(do eqGuard m t X W vx D;binOp m t vx D:Sem Value).run P w=.ok u w/\u.oneCell'=Z/\bx P w F R c u:=by
 unfold J5 at h;split at h;rename_i k a M b;obtain⟨_,rfl,E⟩:=z;obtain⟨_,rfl,Q⟩:=A;split at h;rename_i l;have e:∀ g,g=m->(g ≠ .shl/\g ≠ .shr)->k=M:=by
  rintro g rfl ⟨N,O⟩;rcases l with l|l
  exact l;cases g<;>simp_all[WZ]
 unfold Sw at h;split at h;obtain rfl:=e _ rfl (by simp);cases h;exact⟨_,by simp[ud7,binOp,Op.intArith],rfl,rfl,iQ _ _⟩;obtain rfl:=e _ rfl (by simp);cases h;exact⟨_,by simp[ud7,binOp,Op.intArith],rfl,rfl,iQ _ _⟩;obtain rfl:=e _ rfl (by simp);cases h;exact⟨_,by simp[ud7,binOp,Op.intArith],rfl,rfl,iQ _ _⟩;obtain rfl:=e _ rfl (by simp);cases h;exact⟨_,by have f:=f;simp only[az]at f;simp[ud7,binOp,Op.intDiv,f],rfl,rfl,iQ _ _⟩;obtain rfl:=e _ rfl (by simp);cases h;exact⟨_,by have f:=f;simp only[az]at f;simp[ud7,binOp,Op.intDiv,f],rfl,rfl,zqc _ E⟩;obtain rfl:=e _ rfl (by simp);cases h;exact⟨_,by simp[ud7,binOp,Op.intBits],rfl,rfl,iQ _ _⟩;obtain rfl:=e _ rfl (by simp);cases h;exact⟨_,by simp[ud7,binOp,Op.intBits],rfl,rfl,iQ _ _⟩;obtain rfl:=e _ rfl (by simp);cases h;exact⟨_,by simp[ud7,binOp,Op.intBits],rfl,rfl,iQ _ _⟩;obtain rfl:=e _ rfl (by simp);cases h;exact⟨_,by simp[ud7,binOp,Op.intBits],rfl,rfl,iQ _ _⟩;cases h;exact⟨_,by have f:=f;simp only[az]at f;simp[ud7,binOp,Op.shift,f],rfl,rfl,iQ _ _⟩;cases h;exact⟨_,by have f:=f;simp only[az]at f;simp[ud7,binOp,Op.shift,f],rfl,rfl,qsn _ _ E⟩;obtain rfl:=e _ rfl ⟨by assumption,by assumption⟩;split at h;rename_i r s;cases h;exact⟨_,qow s t X W,rfl,rfl⟩;cases h;cases h;rename_i a b;obtain⟨_,rfl⟩:=z;obtain⟨_,rfl⟩:=A;split at h;split at h;rename_i v;simp only at h;obtain⟨rfl,rfl⟩:=h;have i:P.underlying t=U .bool:=by revert v;cases P.underlying t with
  |none=>simp
  |some d=>cases d<;>simp
 exact⟨_,by simp[eqGuard_at_bool,binOp,Op.equal,Op.maxDepth,ucn w 9999 t a b i],rfl,rfl⟩;cases h;split at h;rename_i v;simp only at h;obtain⟨rfl,rfl⟩:=h;have i:P.underlying t=U .bool:=by revert v;cases P.underlying t with
  |none=>simp
  |some d=>cases d<;>simp
 exact⟨_,by simp[eqGuard_at_bool,binOp,Op.equal,Op.maxDepth,ucn w 9999 t a b i],rfl,rfl⟩;cases h;cases h;rename_i S T;obtain⟨B,rfl,G,H⟩:=z;obtain⟨C,rfl,K,L⟩:=A;split at h;rename_i o;split at h;rename_i r s;have p:=Pj 20 s 10000 (by omega) B.toList C.toList (by simpa using G) (by simpa using K) (by simpa using H) (by simpa using L);simp only[o.2,if_true]at p;split at h;cases h;exact⟨_,by simp[run_eqGuard_agg w _ t X W B C o.1,run_eql_struct,p],rfl,rfl⟩;cases h;exact⟨_,by simp[run_eqGuard_agg w _ t X W B C o.1,run_neq_struct,p],rfl,rfl⟩;cases h;cases h;cases h;cases h
end
section
variable {P:Program} {B:Nat} {o:Oper} {a:Act} {w w':World} {F F':Nat->Prop} {γ γ':Nat->Value} {M m:aX} {R:Nat->Value->Prop}
def RS(v:Value):bx P w F R (Ar v) v:=by unfold Ar;split;split;rename_i h;exact⟨rfl,h⟩;trivial;rfl;split;rename_i h;exact⟨rfl,h⟩;trivial;rfl;trivial
def qkh(b:List Value)(h:∀ v∈b,v.oneCell'=Z):aS P w F R (b.map Ar) (λj u=>b[j]?= U u):=
 mF _ λj c a=>by
  rw[uco]at a;cases d:b[j]? with
  |none=>rw[d]at a;simp at a
  |some v=>rw[d]at a;simp at a;subst a;exact⟨v,rfl,h v (ubg d),RS v⟩
def wC(v:Value):aK P w F R (nK v) v:=by unfold nK;split;rename_i a;split;rename_i h;refine⟨a,rfl,by simp,?_⟩;have:=qkh (P:=P) (w:=w) (F:=F) (R:=R) a.toList (λv d=>uc9.1 h v d);simpa using this;trivial;trivial;rename_i b c;refine⟨?_,RS v⟩;cases v<;>first|rfl|(exact absurd rfl (b _))|(exact absurd rfl (c _))
def rf{x:AV}{d:List AC}(h:nS x=U d)(a:aK P w F R x v):v.cells.size=d.length/\aS P w F R d (λj u=>v.cells[j]?= U u)/\(∀ u∈v.cells,u.oneCell'=Z):=by
 unfold nS at h;split at h;cases h;have m:v.cells = #[v]:=by have:=a.1;cases v<;>first|rfl|simp[Value.oneCell']at this
 rw[m];exact⟨rfl,⟨⟨v,rfl,a.1,a.2⟩,uT⟩,by simpa using a.1⟩;cases h;obtain⟨c,rfl,k,f⟩:=a;refine⟨k,f,λu l=>?_⟩;obtain⟨e,n,g,o,i⟩:=f.vals;have:e=c.toList:=by
  apply List.ext_getElem?;intro j;rcases uer j e.length with b|b
  have:=g j e[j] (uaq b);rw[uaq b,<- this];simp;rw[ua4 b,ua4 (by simp;omega)]
 subst this;exact i u (ubh.2 l);cases h
def Mp(b:List Value)(a:Nat):∀ (k:Nat) (cs:Array Value),
  ((b.zipIdx k).foldl (λcs (x:Value×Nat)=>cs.setIfInBounds (a+x.2) x.1) cs).size=cs.size /\
  ∀ j,((b.zipIdx k).foldl (λcs (x:Value×Nat)=>cs.setIfInBounds (a+x.2) x.1) cs)[j]?= if a+k<=j/\j<a+k+b.length/\j<cs.size then b[j-(a+k)]? else cs[j]? := by
 induction b with
 |nil=>intro k cs;refine⟨rfl,λj=>?_⟩;simp only[List.zipIdx_nil,List.foldl_nil,udm];rw[uf1 (by omega)]
 |cons v b h=>intro k cs;obtain⟨e,f⟩:=h (k+1) (cs.setIfInBounds (a+k) v);simp;refine⟨by rw[e];simp,λj=>?_⟩;rw[f];simp;by_cases c:a+(k+1)<=j/\j<a+(k+1)+b.length/\j<cs.size;rw[uf0 c,uf0 (by omega)];rw[show j-(a+k)=(j-(a+(k+1)))+1 from by omega,List.getElem?_cons_succ];rw[uf1 c];by_cases g:j=a+k;subst g;by_cases d:a+k<cs.size;rw[uf0 (by omega)];simp[d];rw[uf1 (by omega)];simp[d];rw[uaa (by omega),uf1 (by omega)]
def Hv{e b new:List AC}{g':Nat->Value->Prop}(h:ql e off new=U b)(l:aS P w F R e g)(n:aS P w F R new (λj u=>g' (off+j) u))(m:∀ j u,(j<off\/off+new.length<=j)->g j u->g' j u):b.length=e.length/\aS P w F R b g':=by
 unfold ql at h;split at h;rename_i o;cases h;refine⟨by simp;omega,mF _ λj c a=>?_⟩;rcases uer j off with i|i
 rw[uaj (by simp;omega),uaj (by simp;omega),ub2,uf0 i]at a;obtain⟨u,d,f⟩:=l.at_ a;exact⟨u,m j u (.inl i) d,f⟩;rcases uer j (off+new.length)with k|k
 rw[uaj (by simp;omega),uae (by simp;omega)]at a;simp at a;rw[show j-min off e.length=j-off from by omega]at a;obtain⟨u,d,f⟩:=n.at_ a;rw[show off+(j-off)=j from by omega]at d;exact⟨u,d,f⟩;rw[uae (by simp;omega),ub1]at a;rw[show off+new.length+(j-(e.take off++new).length)=j from by simp;omega]at a;obtain⟨u,d,f⟩:=l.at_ a;exact⟨u,m j u (.inr k) d,f⟩;cases h
def UZ{z:Nat->Option (Nat×Nat)}:{b:List (Nat×AV)} -> {ps:List (Nat×Value)} -> {cs d:List AC} -> {arr:Array Value}->Bq z cs b=U d->ps.length=b.length ->
  (∀ (k i:Nat) (x:AV) (v:Nat×Value),b[k]?= U (i,x)->ps[k]?= U v->v.1=i/\aK P w F R x v.2)->arr.size=cs.length->aS P w F R cs (λj u=>arr[j]?= U u) ->
  ∃ a,Instr.fill z arr ps=U a/\a.size=d.length/\aS P w F R d (λj u=>a[j]?= U u)
 |[],[],cs,d,arr,h,_,_,o,l=>by simp only[Bq,ucl]at h;subst h;exact⟨arr,rfl,o,l⟩
 |(i,x)::r,(L,v)::ps,cs,d,arr,h,f,t,o,l=>by
  obtain⟨rfl,y⟩:=t 0 i x (L,v) rfl rfl;simp only at y;simp only[Bq]at h;split at h;rename_i e n new m g;split at h;rename_i T;split at h;rename_i A c;obtain⟨Q,B,_⟩:=rf g y;have S:e+new.length<=cs.length:=by unfold ql at c;split at c;assumption;cases c
  obtain⟨C,s⟩:=Mp v.cells.toList e 0 arr;have W:v.cells.zipIdx.foldl (λcs (x:Value×Nat)=>cs.setIfInBounds (e+x.2) x.1) arr=(v.cells.toList.zipIdx 0).foldl (λcs (x:Value×Nat)=>cs.setIfInBounds (e+x.2) x.1) arr:=by rw[<- Array.foldl_toList,Array.toList_zipIdx]
  obtain⟨D,E⟩:=Hv (g':=λj u=>((v.cells.toList.zipIdx 0).foldl (λcs (x:Value×Nat)=>cs.setIfInBounds (e+x.2) x.1) arr)[j]?= U u) c l
   (B.turn λj u K p=>by simp only[s];rw[uf0 (by simp;omega)];simpa using p)
   (λj u K p=>by simp only[s];rw[uf1 (by simp;omega)];exact p)
  obtain⟨a,M,N,O⟩:=UZ h (by simpa using f) (λk i x v G H=>t (k+1) i x v (by simpa using G) (by simpa using H)) (by rw[C,o,D]) E;refine⟨a,?_,N,O⟩;simp only[Instr.fill,m];rw[uf1 (by simp;omega)];rw[<- M];congr 1;cases h;cases h;cases h
 |[],_::_,_,_,_,_,f,_,_,_=>by simp at f
 |_::_,[],_,_,_,_,f,_,_,_=>by simp at f
def zl2(a:List Field)(h:∀ f∈a,(P.info? f.type).isSome=Z):
  (a.mapM (m:=Sem) λf=>(do pure (f.offset,<- sizeOf f.type):Sem (Nat×Nat))).run P w=.ok (a.map λf=>(f.offset,P.cellsOf f.type)) w:=by
 induction a with
 |nil=>simp
 |cons f a e=>obtain⟨i,d⟩:=uar.1 (h f (by simp));rw[List.mapM_cons];have b:=e (λg c=>h g (by simp[c]));rw[ueu,ueu,jj d];simp only[ucm,uew];rw[ueu,b];simp
def qmd{b:List (Nat×AV)}{ps:Array (Nat×Value)}{x:AV}(h:JH P t b=U x)(M:ps.size=b.length)(O:∀ (k i:Nat) (x:AV) (v:Nat×Value),b[k]?= U (i,x)->ps[k]?= U v->v.1=i/\aK P w F R x v.2):
  ∃ u,(Instr.build t ps).run P w=.ok u w/\aK P w F R x u:=by
 unfold JH at h;split at h;rename_i z pl A a;split at h;rename_i W o;split at h;rename_i D d;cases h;cases r:P.info? t with
 |none=>simp[r]at A
 |some ti=>
  simp only[r,udb]at A;have B:=wC (P:=P) (w:=w) (F:=F) (R:=R) z;obtain⟨E,G,_⟩:=rf o B;have n:(zeroValue t).run P w=.ok z w:=by simp[zeroValue,typeInfo,r,A]
  obtain⟨c,C,Q,S⟩:=UZ (ps:=ps.toList) d (by simpa using M) (λk i x v H K=>O k i x v H (by simpa using K)) E G;refine⟨.agg c,?_,c,rfl,Q,S⟩;unfold Zw at a;split at a;rename_i l g;split at a;rename_i m;cases a;have N:=zl2 (w:=w) l.toList (λf L=>uc9.1 m f L);have y:(l.mapM λ(f:Field)=>(do pure (f.offset,<- sizeOf f.type):Sem (Nat×Nat))).run P w=.ok (l.map λ(f:Field)=>(f.offset,P.cellsOf f.type)) w:=by rw[Array.mapM_eq_mapM_toList];rw[Sem.run_map,N];simp only[ucm];congr 1;rw[<- uc8];simp
  have:(λ(i:Nat)=>(l.map λ(f:Field)=>(f.offset,P.cellsOf f.type))[i]?)=(λi=>(l[i]?).map λf=>(f.offset,P.cellsOf f.type)):=by simp
  simp only[Instr.build,ueu,n,ucm,ud6 g];rw[y];simp only[ucm,this,C];rfl;cases a;rename_i T e g;split at a;rename_i s;obtain⟨ei,p⟩:=uar.1 s;cases a;simp[Instr.build,n,ud6 g,jj p,C];cases a;cases a
 cases h;cases h;cases h
end
section
variable {P:Program} {B:Nat} {o:Oper} {a:Act} {w w':World} {F F':Nat->Prop} {γ γ':Nat->Value} {M m:aX} {R:Nat->Value->Prop}
def UV{s:TypeId}{f:Nat}{a:Field}(h:xF P s f=U a):∃ b,P.underlying s=U (.struct b)/\b[f]?= U a:=by unfold xF at h;split at h;exact⟨_,by assumption,h⟩;cases h
def zl1{a:Field}{i:TypeInfo}(b:P.info? a.type=U i)(c:P.cellsOf a.type≠0):(fieldPlace ad a).run P w=.ok (ad.add a.offset) w:=by simp[fieldPlace,jj b,c]
def Pk{s:TypeId}{f:Nat}{a:Field}(h:xF P s f=U a)(e:(P.info? a.type).isSome=Z)(g:P.cellsOf a.type≠0):
  (Instr.fieldAt s (.pointer (U ad)) f).run P w=.ok (.pointer (U (ad.add a.offset))) w:=by
 obtain⟨k,c,d⟩:=UV h;obtain⟨i,b⟩:=uar.1 e;simp[Instr.fieldAt,ud6 c,d,Instr.sureAddr,zl1 b g]
def th(a:Addr)(n:Nat):(a.add n).block=a.block:=by unfold Addr.add;split<;>rfl
def qv9{s:TypeId}{f:Nat}{x y:AV}(h:Mj P s x f=U y)(g:aK P w F R x v):
  ∃ u,(Instr.fieldAt s v f).run P w=.ok u w/\aK P w F R y u:=by
 unfold Mj at h;split at h;rename_i t e;split at h;rename_i a;split at h<;>try trivial
 rename_i id k;cases h;obtain⟨_,b,d,rfl⟩:=g;exact⟨_,Pk e a.1 a.2,rfl,b,d,by rw[kq]⟩;rename_i r;cases h;obtain⟨_,p,rfl,l,m⟩:=g;exact⟨_,Pk e a.1 a.2,rfl,_,rfl,by rw[th];exact l,(m.drop_ _).turn λj u _ o=>by rw[pn];exact o⟩;rename_i id sz i k;cases h;obtain⟨A,n,c,d,rfl⟩:=g;exact⟨_,Pk e a.1 a.2,A,n,c,d,by rw[pn,uei]⟩;cases h;cases h
def zg1{wide:Bool}{b:List AC}{x:AV}{a:List Value}(h:GN wide b=U x)(g:a.length=b.length)(d:aS P w F R b (λj u=>a[j]?= U u)):
  aK P w F R x (if wide then .agg a.toArray else a.headD undef):=by
 unfold GN at h;cases wide;simp only[ub3,ufx]at h |-;split at h;rename_i c;cases h;obtain⟨⟨u,i,e,f⟩,_⟩:=d;have:a.headD undef=u:=by cases a<;>simp_all
 rw[this];exact⟨e,f⟩;cases h;simp at h |-;subst h;exact⟨a.toArray,rfl,by simpa using g,by simpa using d⟩
def qwa{s:TypeId}{f:Nat}{a:Field}{e l:List AC}{x:AV}(z:xF P s f=U a)(g:(P.info? a.type).isSome=Z/\(P.underlying a.type).isSome=Z)(A:jT e a.offset (if dH P a.type then P.cellsOf a.type else 1)=U l)(C:GN (dH P a.type) l=U x)(B:aK P w F R (.agg e) v):
  ∃ u,(Instr.field s v f).run P w=.ok u w/\aK P w F R x u:=by
 obtain⟨D,t,y⟩:=UV z;obtain⟨i,b⟩:=uar.1 g.1;obtain⟨d,c⟩:=uar.1 g.2;obtain⟨h,rfl,p,r⟩:=B;obtain⟨k,E,m,n,o,_⟩:=Cv rfl p r A;refine⟨_,?_,zg1 C m n⟩;simp only[Instr.field,ueu,ud6 t,ucm,y,asAgg,uew,zv c b k,o]
def WA{d:TypeInfo}{i:Int}(b:P.underlying t=U (.slice e))(a:P.info? e=U d)(h:0<=i/\i<n):
  (Instr.indexAt t (.slice (U ad) n c) (.int k i)).run P w=.ok (.pointer (U (ad.add (i.toNat*P.cellsOf e)))) w:=by
 simp[Instr.indexAt,ud6 b,asIntOf,h,jj a]
def Gs{c:TypeInfo}{i:Int}(b:P.underlying t=U (.array n e))(a:P.info? e=U c)(h:0<=i/\i<n):
  (Instr.indexAt t (.pointer (U ad)) (.int k i)).run P w=.ok (.pointer (U (ad.add (i.toNat*P.cellsOf e)))) w:=by
 simp[Instr.indexAt,ud6 b,asIntOf,Instr.sureAddr,h,jj a]
def Py{a:Ty}{l:List a.q}{v:Value}{t e:TypeId}{p:TypeInfo}{k:IntKind}{i:Int}(h:aG w F (.sl a) l (λ_ u=>u=v))(n:P.underlying t=U (.slice e))(f:P.info? e=U p)(m:a.size=P.cellsOf e)(g:0<=i/\i<l.length):∃ u,(Instr.indexAt t v (.int k i)).run P w=.ok u w/\aK P w F R (.c (.sptr (enc a (l.getD i.toNat a.j)))) u:=by obtain⟨r,c,rfl,b,d⟩:=qbg (i:=i.toNat) h (by omega);exact⟨_,WA n f g,rfl,_,rfl,by rw[th];exact b,d.turn λj u _ o=>by rw[<- m];exact o⟩
def Ze{id sz:Nat}{g:TypeId}{o:Ob}{z:TypeInfo}{i:Int}(h:w.ownsRow B g sz (γ id) n xs)(l:M id=U o)(r:o ≠ .gone)(s:sz=P.cellsOf e)(x:P.underlying t=U (.slice e))(m:P.info? e=U z)(p:0<=i/\i<n)(d:aK P w F (av M γ) (.c (.own id)) v):
  ([]:List (Nat×Ob))=[]/\∃ u,(Instr.indexAt t v (.int k i)).run P w=.ok u w/\aK P w F (av M γ) (.optr id sz i.toNat 0) u:=by
 have y:=fV l r d.2;subst y;obtain⟨_,⟨_,rfl⟩|⟨b,c,f,a,_⟩⟩:=h;omega;refine⟨rfl,_,by rw[a];exact WA x m p,⟨b,0,V⟩,n,c,?_,by rw[<- s];rfl⟩;have:=d.2;simp only[bx]at this;rw[a]at this;exact this
def qzw{x:AV}{i:Int}{e:Eff}(L:MemOK P B w F γ M)(c:∀ i y,m i=U y->M i=U y)(h:Nn P t x i m=U e)(d:az e.need)(p:aK P w F (av M γ) x v):
  e.wr=[]/\∃ u,(Instr.indexAt t v (.int k i)).run P w=.ok u w/\aK P w F (av M γ) e.v u:=by
 unfold Nn at h;split at h;rename_i R o;split at h;rename_i r;obtain⟨ti,f⟩:=uar.1 r;split at h<;>try trivial
 rename_i id;split at h<;>try trivial
 rename_i E C l a;split at h<;>try trivial
 rename_i g;cases h;obtain⟨e',xs,s,_⟩:=qag (L.ob id _ (c _ _ a)) g.1;exact Ze s (c _ _ a) (by simp) g.2 o f d p;rename_i E C l j a;split at h<;>try trivial
 rename_i g;cases h;obtain⟨_,_,xs,s⟩:=L.ob id _ (c _ _ a);exact Ze s.own (c _ _ a) (by simp) g o f d p;rename_i C l a;split at h<;>try trivial
 rename_i g;cases h;have hv:=fV (c _ _ a) (by simp) p.2;subst hv;exact⟨rfl,Py (L.ob id _ (c _ _ a)) o f g d⟩;rename_i C l;split at h<;>try trivial
 rename_i g;cases h;exact⟨rfl,Py (by simpa only[bx]using p.2) o f g d⟩;rename_i C l;split at h<;>try trivial
 rename_i g;cases h;obtain⟨_,A,_,S⟩:=p;exact⟨rfl,Py S o f g d⟩;cases h;rename_i n R o;split at h;rename_i r;obtain⟨ti,f⟩:=uar.1 r;split at h;rename_i s;split at h<;>try trivial
 rename_i id z;cases h;obtain⟨_,b,G,rfl⟩:=p;exact⟨rfl,_,Gs o f d,⟨b,z,V⟩,⟨b,G,rfl⟩,d.1,d.2,by rw[s,Nat.mul_one]⟩;rename_i Q;cases h;obtain⟨_,D,rfl,H,K⟩:=p;exact⟨rfl,_,Gs o f d,D,⟨D,rfl,H,K⟩,d.1,d.2,by rw[s,Nat.mul_one]⟩;split at h<;>try trivial
 rename_i O;split at h<;>try trivial
 rename_i T;have N:(0:Int)<=Int.ofNat O/\Int.ofNat O<(n:Int):=⟨ub4 _,Int.ofNat_lt.2 T⟩;split at h<;>try trivial
 rename_i id z;cases h;obtain⟨_,b,G,rfl⟩:=p;exact⟨rfl,_,Gs o f N,rfl,b,G,by rw[kq];rfl⟩;rename_i Q;cases h;obtain⟨_,D,rfl,H,K⟩:=p;exact⟨rfl,_,Gs o f N,rfl,_,rfl,by rw[th];exact H,(K.drop_ _).turn λj u _ W=>by rw[pn];exact W⟩;cases h;cases h
def Pv{a:Ty}{l:List a.q}(d:aG w F (.sl a) l (λ_ u=>u=v)):∃ A c,v=.slice A l.length c/\l.length<=maxLen:=by obtain⟨A,c,b,e,f,_⟩:=d;exact⟨A,c,b.symm,by omega⟩
def Zf{id:Nat}{t:Ty}{l:List t.q}(k:MemOK P B w F γ M)(h:M id=U (.arr ety t l))(i:ety<fh):∃ A c,γ id=.slice A l.length c/\l.length<=maxLen:=by
 obtain⟨_,o,⟨m,f⟩,_⟩:=qag (k.ob id _ h) i;rcases f with ⟨a,b⟩|⟨g,d,e,a,_,_,b,n,_⟩
 exact⟨V,0,by rw[a,b],by omega⟩;exact⟨_,_,a,by omega⟩
def zct{c:AC}{k:Ty}{l:List k.q}(g:MemOK P B w F γ M)(b:∀ i y,m i=U y->M i=U y)(h:uD m c=U ⟨k,l⟩)(d:bx P w F (av M γ) c v):
  ∃ A e,v=.slice A l.length e/\l.length<=maxLen:=by
 unfold uD at h;split at h<;>try trivial
 cases h;exact Pv d;cases h;obtain⟨A,_,o⟩:=d;exact Pv o;rename_i id;split at h<;>try trivial
 rename_i n s r a;split at h<;>try trivial
 rename_i p;cases h;have f:=fV (b _ _ a) (by simp) d;subst f;exact Zf g (b _ _ a) (Nat.lt_trans p (by decide));rename_i s r a;cases h;have f:=fV (b _ _ a) (by simp) d;subst f;exact Pv (g.ob id _ (b _ _ a))
def zcs{x:AV}{e:Eff}(p:MemOK P B w F γ M)(b:∀ i y,m i=U y->M i=U y)(h:uC P t x m=U e)(k:aK P w F (av M γ) x v)(ty:TypeId):
  e.wr=[]/\∃ u,(Builtin.len_ #[t] ty #[v]).run P w=.ok u w/\aK P w F (av M γ) e.v u:=by
 have a:∀ n:Nat,n<=maxLen->inR .i64 (n:Int):=λn D=>by simp only[maxLen]at D;unfold inR;simp[IntKind.min,IntKind.max,IntKind.bits];omega
 unfold uC at h;split at h;rename_i H g;split at h<;>try trivial
 cases h;obtain⟨_,rfl⟩:=k;exact⟨rfl,_,by simp[Builtin.len_,ud6 g,goInt],rfl,rfl,a 0 (by simp)⟩;rename_i c _;split at h<;>try trivial
 rename_i G l C;cases h;obtain⟨A,o,rfl,f⟩:=zct p b C k.2;exact⟨rfl,_,by simp[Builtin.len_,ud6 g,goInt],rfl,rfl,a _ f⟩;split at h<;>try trivial
 split at h<;>try trivial
 rename_i id _ s G l d;split at h<;>try trivial
 rename_i z;cases h;have E:=fV (b _ _ d) (by simp) k.2;subst E;obtain⟨A,o,r,f⟩:=Zf p (b _ _ d) z;exact⟨rfl,_,by simp[Builtin.len_,ud6 g,goInt,r],rfl,rfl,a _ f⟩;rename_i g;split at h<;>try trivial
 cases h;obtain⟨_,rfl,f⟩:=k;exact⟨rfl,_,by simp[Builtin.len_,ud6 g,goInt],rfl,rfl,a _ f⟩;cases h
def qzv{x:AV}{i:Int}{e:Eff}(h:Np P t x i=U e)(B:az e.need)(C:aK P w F R x v):
  e.wr=[]/\∃ u,(Instr.index t v (.int k i)).run P w=.ok u w/\aK P w F R e.v u:=by
 unfold Np at h;split at h;rename_i p;split at h<;>try trivial
 rename_i b;cases h;obtain⟨g,A⟩:=B;obtain⟨_,Q⟩:=C;refine⟨rfl,?_⟩;have m:i.toNat<b.size:=by omega
 have H:b[i.toNat]?= U (b[i.toNat]):=by simp
 have l:b.data.getD i.toNat 0=b[i.toNat]:=by exact dif_pos m
 refine⟨.int .u8 b[i.toNat].toNat,?_,?_⟩;rw[Q.1];simp[Instr.index,ud6 p,asIntOf,g,H];refine⟨rfl,?_⟩;simp only[bx,l];have M:=b[i.toNat].toNat_lt;have y:IntKind.u8.min=0:=by decide
 have z:IntKind.u8.max=255:=by decide
 simp;constructor<;>omega
 rename_i n el p;split at h<;>try trivial
 rename_i K;obtain⟨D,E,G,s⟩:=K;obtain⟨ti,f⟩:=uar.1 D;obtain⟨d,l⟩:=uar.1 E;split at h<;>try trivial
 split at h<;>try trivial
 rename_i S _;split at h<;>try trivial
 rename_i r o;split at h<;>try trivial
 cases h;obtain⟨g,A⟩:=B;obtain⟨a,rfl,y,z⟩:=C;have L:=Gx o;subst L;have m:i.toNat<r.length:=by omega
 obtain⟨u,q1,T,W⟩:=z.at_ (j:=i.toNat) (c:=.int S (r.getD i.toNat 0)) (by simp[uaq m]);refine⟨rfl,u,?_,T,W⟩;have O:a.size=r.length:=by simpa using y
 have N:=zv (w:=w) (cs:=a) (off:=i.toNat) l f (by rw[s];simp;omega);simp only[Instr.index,ueu,ud6 p,ucm,asIntOf,uew,g,true_and,A,if_true,jj f,G,Nat.mul_one,N,s,ufx]
 simp_all
 cases h
end
section
variable {P:Program} {B:Nat} {o:Oper} {a:Act} {w w':World} {F F':Nat->Prop} {γ γ':Nat->Value} {M m:aX} {R:Nat->Value->Prop}
def mN:(t:Ty) -> {cs:List AC} -> {x:t.q} -> {r:List AC}->dec t cs=U (x,r)->cs.length=t.size+r.length
 |.int k,cs,x,r,h=>by simp only[dec]at h;unfold rk at h;split at h;split at h;simp at h;obtain⟨_,rfl⟩:=h;simp[Ty.size,ues];cases h;cases h
 |.bool,cs,x,r,h=>by simp only[dec]at h;unfold rj at h;split at h;simp at h;obtain⟨_,rfl⟩:=h;simp[Ty.size,ues];cases h
 |.str,cs,x,r,h=>by simp only[dec]at h;unfold rm at h;split at h;simp at h;obtain⟨_,rfl⟩:=h;simp[Ty.size,ues];cases h
 |.sl e,cs,x,r,h=>by simp only[dec]at h;unfold rl at h;split at h;split at h;simp at h;obtain⟨_,rfl⟩:=h;simp[Ty.size,ues];cases h;split at h;simp at h;obtain⟨_,rfl⟩:=h;simp[Ty.size,ues];cases h;simp at h;obtain⟨_,rfl⟩:=h;simp[Ty.size,ues];cases h
 |.unit,cs,x,r,h=>by obtain⟨_,rfl⟩:=h;simp[Ty.size]
 |.pair a b,cs,x,r,h=>by simp only[dec]at h;split at h;rename_i o m d;split at h;rename_i p n g;obtain⟨_,rfl⟩:=h;have i:=mN a d;have l:=mN b g;simp only[Ty.size];omega;cases h;cases h
 |.fm c,cs,x,r,h=>by
  simp only[dec]at h;unfold tQ at h;split at h<;>try trivial
  split at h<;>try trivial
  obtain⟨_,rfl⟩:=h;simp[Ty.size,ues]
 |.ic c t,cs,x,r,h=>by
  simp only[dec]at h;unfold tP at h;split at h<;>try trivial
  split at h<;>try trivial
  split at h<;>try trivial
  obtain⟨_,rfl⟩:=h;simp[Ty.size,ues]
 |.fc f,cs,x,r,h=>by
  simp only[dec]at h;unfold tO at h;split at h<;>try trivial
  all_goals
   split at h<;>try trivial
   obtain⟨_,rfl⟩:=h;simp[Ty.size,ues]
def aG.cell:(t:Ty) -> {x:t.q} -> {g:Nat->Value->Prop}->aG w F t x g->∀ j,j<t.size->∃ u,g j u/\u.oneCell'=Z
 |.int _,_,_,h,j,d=>by
  have:j=0:=by simp[Ty.size]at d;omega
  subst this;exact⟨_,h.1,rfl⟩
 |.bool,_,_,h,j,d=>by
  have:j=0:=by simp[Ty.size]at d;omega
  subst this;exact⟨_,h,rfl⟩
 |.str,_,_,h,j,d=>by
  have:j=0:=by simp[Ty.size]at d;omega
  subst this;exact⟨_,h.1,rfl⟩
 |.sl e,_,_,h,j,d=>by
  have:j=0:=by simp[Ty.size]at d;omega
  subst this;obtain⟨A,c,i,_⟩:=h;exact⟨_,i,rfl⟩
 |.unit,_,_,_,j,d=>by simp[Ty.size]at d
 |.pair a b,x,g,h,j,d=>by
  rcases uer j a.size with i|i
  exact aG.cell a h.1 j i;obtain⟨u,l,n⟩:=aG.cell b h.2 (j-a.size) (by simp only[Ty.size]at d;omega);rw[show a.size+(j-a.size)=j from by omega]at l;exact⟨u,l,n⟩
 |.fm o,_,_,h,j,d=>by
  have:j=0:=by simp[Ty.size]at d;omega
  subst this;obtain⟨r,m,p,i,_⟩:=h;exact⟨_,i,rfl⟩
 |.ic o t,_,_,h,j,d=>by
  have:j=0:=by simp[Ty.size]at d;omega
  subst this;rcases h with ⟨s,u,_,k,_⟩|⟨_,k⟩
  exact⟨_,k,rfl⟩;exact⟨_,k,rfl⟩
 |.fc f,_,_,h,j,d=>by
  have:j=0:=by simp[Ty.size]at d;omega
  subst this;obtain⟨u,i,k,_⟩:=h;exact⟨u,i,k⟩
def CO{t:Ty}{l:List t.q}(h:cy w F t l xs)(g:xs.length=l.length*t.size):∀ u∈xs,u.oneCell'=true:=by
 intro u i;obtain⟨k,f,rfl⟩:=List.getElem_of_mem i;have a:0<t.size:=by
  rcases ub5 t.size with b|b
  rw[b]at g;omega;exact b
 have e:k/t.size<l.length:=(Nat.div_lt_iff_lt_mul a).2 (by omega);have:=h (k/t.size) l[k/t.size] (uaq e);obtain⟨v,c,d⟩:=aG.cell t this (k%t.size) (ufl _ a);rw[uex,Nat.div_add_mod,uaq f]at c;cases c;exact d
def iH{t:Ty}{x:t.q}(h:bJ w F t x v):aK P w F R (eR t x) v:=by
 obtain⟨l,e,m⟩:=h;have d:=aG.enc (P:=P) (R:=R) t x m;unfold eR;cases g:t.wide
 ·simp;have o:v.cells = #[v]:=by cases v<;>first|rfl|(exact absurd (e.2 ⟨_,rfl⟩) (by simp[g]))
  have:∃ c,enc t x=[c]:=by cases t<;>first|(simp_all[Ty.wide,enc];done)|(rename_i f;cases f<;>simp_all[Ty.wide,enc])
  obtain⟨c,n⟩:=this;rw[n]at d |-;obtain⟨⟨u,b,i,k⟩,_⟩:=d;rw[o]at b;simp at b;subst b;exact⟨i,k⟩
 simp;obtain⟨a,rfl⟩:=e.1 g;exact⟨a,rfl,by rw[gV];exact l,d⟩
def Ui:{a:List Ty} -> {x:aa a} -> {b:List Value}->fi w F a x b->bI P w F R (Fo a x) b
 |[],_,_,h=>by cases h;trivial
 |_::_,_,_,⟨v,f,c,d,e⟩=>by subst c;exact⟨iH d,Ui e⟩
def bI.length:{b:List AV} -> {a:List Value}->bI P w F R b a->a.length=b.length
 |[],[],_=>rfl
 |_::_,_::_,h=>by simp[bI.length h.2]
 |[],_::_,h=>h.elim
 |_::_,[],h=>h.elim
def Uh{a:List Ty}{x:aa a}(h:∃ vs:Array Value,v=.tuple vs/\fi w F a x vs.toList):aK P w F R (.tup (Fo a x)) v:=by obtain⟨vs,rfl,c⟩:=h;have b:=Ui (P:=P) (R:=R) c;exact⟨vs,rfl,by have:=b.length;simpa using this,by simpa using ZP b⟩
def xq:{a:List Ty} -> {x:aa a} -> {v:Value}->jF w F a x v->aK P w F R (lq a x) v
 |[],_,_,h=>Uh h
 |[_],_,_,h=>iH h
 |t::b::r,_,_,h=>Uh h
def DD(a:∀ b,F b->F' b)(d:∀ b,F b->w'.heap[b]?= w.heap[b]?)(c:∀ id v,R id v->R' id v):{f:List AV} -> {e:List Value}->bI P w F R f e->bI P w' F' R' f e
 |[],[],_=>trivial
 |_::_,_::_,h=>⟨aK.mono a d c _ h.1,DD a d c h.2⟩
 |[],_::_,h=>h.elim
 |_::_,[],h=>h.elim
def tR{t:Ty}{x:AV}{d:t.q}(h:nX t x=U d)(b:aK P w F R x v):bJ w F t d v:=by
 unfold nX at h;split at h;rename_i c;split at h;cases h;rename_i i;split at h<;>try trivial
 rename_i y e;cases h;have l:v.cells = #[v]:=by have:=b.1;cases v<;>first|rfl|simp[Value.oneCell']at this
 obtain⟨f,_⟩:=aG.dec (g:=λj u=>v.cells[j]?= U u) t e ⟨⟨v,by simp[l],b.1,b.2⟩,uT⟩;refine⟨?_,⟨λm=>absurd m i,λ⟨k,o⟩=>?_⟩,f⟩;rw[l];cases t<;>simp_all[Ty.size,Ty.wide]
 have:=b.1;rw[o]at this;simp[Value.oneCell']at this;rename_i k;split at h;rename_i i;split at h<;>try trivial
 rename_i y e;cases h;obtain⟨a,rfl,p,n⟩:=b;have r:k.length=t.size:=by simpa using mN t e
 obtain⟨f,_⟩:=aG.dec t e n;exact⟨by show a.size=_;omega,⟨λ_=>⟨a,rfl⟩,λ_=>i⟩,f⟩;cases h;cases h
def nY:{d:List Ty} -> {e:List AV} -> {x:aa d} -> {c:List Value}->jp d e=U x->bI P w F R e c->fi w F d x c
 |[],[],_,[],_,_=>rfl
 |t::r,a::s,x,v::c,h,b=>by simp only[jp]at h;split at h;rename_i y z f g;cases h;exact⟨v,c,rfl,tR f b.1,nY g b.2⟩;cases h
 |[],[],_,_::_,_,b=>b.elim
 |_::_,_::_,_,[],_,b=>b.elim
 |[],_::_,_,_,h,_=>by simp[jp]at h
 |_::_,[],_,_,h,_=>by simp[jp]at h
def iP(M:aX)(u v:List (Nat×Ob)):aB M (u++v)=aB (aB M u) v:=by
 induction u generalizing M with
 |nil=>rfl
 |cons x u a=>exact a _
def dM(m M:aX):Prop:=∀ i y,m i=U y->M i=U y \/ ∃ e t l,y=.arr e t l/\M i=U (.frz t l)
def dM.of(h:∀ i y,m i=U y->M i=U y):dM m M:=λi y a=>.inl (h i y a)
def zrd{id:Nat}{o:Ob}(h:M id=U o):upd M id o=M:=by funext i;unfold upd;split;rename_i a;subst a;exact h.symm;rfl
def OZ{t:Ty}{l:List t.q}(d:w.ownsRow B e t.size v l.length xs)(a:cy w F t l xs)(s:∀ b,v.ownBlock=U b->F b):aG w F (.sl t) l (λ_ u=>u=v):=by
 obtain⟨K,C|⟨g,f,p,o,y,A,m,k,z,D⟩⟩:=d;obtain⟨r,n⟩:=C;refine⟨V,0,?_,by omega,by simp,λi x c=>?_⟩;rw[r,n];rw[uab n]at c;simp at c;refine⟨U ⟨g,0,V⟩,f,o.symm,m,k,λi x c=>⟨_,rfl,s g (by rw[o];rfl),?_⟩⟩;refine(a i x c).mono (λb h=>h) (λ_ _=>rfl) λj u H E=>?_;rw[kq,xg A,<- E,<- D,ub2];have:i<l.length:=(uak.1 c).1;have G:i*t.size+t.size<=l.length*t.size:=by rw[<- uey];exact ube _ this
 rw[uf0 (by omega)];simp
def RwOK.rep{e:Nat}{t:Ty}{l:List t.q}(h:RwOK P B w F v e t l (λ_=>False) xs)(y:cJ<=e){x:t.q}(d:l[i]?= U x):
  aG w (λb=>F b\/cg w (.arr e t l) v b) t x (λj u=>xs[i*t.size+j]?= U u):=by
 refine Qf (P:=P) (R:=λ_ _=>False) t x (mF _ λk c m=>?_);by_cases n:k=da e;subst n;obtain⟨D,C,u,E,f,a,o,p,z,A⟩:=h.inn i x d (λh=>h);rw[m]at f;cases f;refine⟨u,a,h.one u (ubg a),?_⟩;simp only[bx];exact OZ o (p.mono (λ_ h=>.inl h) (λ_ _=>rfl)) λb s=>.inr (.inr (.inl ⟨y,i,u,(uak.1 d).1,λh=>h,uv h.own a,s⟩));obtain⟨u,g,r⟩:=h.cells i x k c d m n;exact⟨u,g,h.one u (ubg g),bx.mono (λ_ h=>.inl h) (λ_ _=>rfl) (λ_ _ h=>h) c r⟩
def qxz{id:Nat}{t:Ty}{l:List t.q}(p:MemOK P B w F γ M)(d:∀ b,F b->b<w.heap.size)(g:M id=U (.arr e t l))(r:e<fh):
  ∃ F',Step B w F γ M w F' γ (upd M id (.frz t l))/\MemOK P B w F' γ (upd M id (.frz t l)):=by
 have a:=p.ob id _ g;refine⟨λb=>F b\/cg w (.arr e t l) (γ id) b,?_,?_⟩;refine⟨λb h=>.inl h,λ_ _=>rfl,qm g (by simp),λ_ _=>rfl,rfl,rfl,rfl,ufd _,λb h=>?_,λb h=>?_⟩;rcases h with h|h
 exact d b h;exact(jN a h).1;rcases h with h|h
 exact .inl h;exact .inr (jN a h).2.2;refine p.change g (by simp) (λb h=>.inl h) (λ_ _=>rfl) (λb h=>h.elim) (λb _ n=>⟨rfl,λh=>h.resolve_right n⟩) ?_;simp only[iA];rcases a with ⟨_,u,f,_,c,_⟩|⟨m,_,u,o⟩|⟨k,_⟩
 exact OZ f (c.mono (λb h=>.inl h) (λ_ _=>rfl)) λb d=>.inr (.inl d);exact OZ o.own (λi x s=>o.rep m s) λb d=>.inr (.inl d);exact absurd r (Nat.not_lt.2 k)
def H6{c x:AC}{u:List (Nat×Ob)}(g:MemOK P B w F γ M)(o:∀ b,F b->b<w.heap.size)(k:dM m M)(h:oO m c=U (x,u))(p:bx P w F (av M γ) c v):
  ∃ F',Step B w F γ M w F' γ (aB M u)/\MemOK P B w F' γ (aB M u)/\dM m (aB M u)/\bx P w F' (av (aB M u) γ) x v:=by
 unfold oO at h;split at h;rename_i id;split at h<;>try trivial
 rename_i e t l f;split at h<;>try trivial
 rename_i s;cases h;rcases k id _ f with d|⟨D,H,E,r,d⟩
 obtain⟨F',G,C⟩:=qxz g o d s;have n:=fV d (by simp) p;subst n;refine⟨F',G,C,λi y z=>?_,?_⟩;by_cases A:i=id;subst A;rw[f]at z;cases z;exact .inr ⟨e,t,l,rfl,kX _ _ _⟩;simp only[aB];rw[gL _ _ A];exact k i y z;simp only[bx];exact C.ob id _ (kX _ _ _);cases r;have n:=fV d (by simp) p;subst n;have a:aB M [(id,Ob.frz t l)]=M:=zrd d;refine⟨F,by rw[a];exact Step.refl o,by rw[a];exact g,by rw[a];exact k,?_⟩;exact g.ob id _ d;rename_i t l f;cases h;rcases k id _ f with d|⟨D,H,E,r,d⟩
 have n:=fV d (by simp) p;subst n;refine⟨F,Step.refl o,g,k,?_⟩;exact g.ob id _ d;cases r;cases h;exact⟨F,Step.refl o,g,k,p⟩
def CR:{cs xs:List AC} -> {u:List (Nat×Ob)} -> {M:aX} -> {F:Nat->Prop} -> {g:Nat->Value->Prop}->MemOK P B w F γ M->(∀ b,F b->b<w.heap.size)->dM m M->lB m cs=U (xs,u)->aS P w F (av M γ) cs g ->
  ∃ F',Step B w F γ M w F' γ (aB M u)/\MemOK P B w F' γ (aB M u)/\dM m (aB M u)/\xs.length=cs.length/\aS P w F' (av (aB M u) γ) xs g
 |[],xs,u,M,F,g,e,d,f,h,k=>by obtain⟨rfl,rfl⟩:=h;exact⟨F,Step.refl d,e,f,rfl,uT⟩
 |c::r,xs,u,M,F,g,e,d,f,h,k=>by simp only[lB]at h;split at h;rename_i x N y O t z;cases h;obtain⟨⟨v,n,o,p⟩,s⟩:=k;obtain⟨L,i,C,H,E⟩:=H6 e d f t p;obtain⟨l,a,D,K,A,G⟩:=CR C i.bd H z (i.repCL s);rw[iP];exact⟨l,i.trans a,D,K,by simp[A],⟨⟨v,n,o,bx.mono a.hF a.hw a.hR _ E⟩,G⟩⟩;cases h
def qam{x y:AV}{u:List (Nat×Ob)}(n:MemOK P B w F γ M)(l:∀ b,F b->b<w.heap.size)(o:dM m M)(h:sj m x=U (y,u))(e:aK P w F (av M γ) x v):
  ∃ F',Step B w F γ M w F' γ (aB M u)/\MemOK P B w F' γ (aB M u)/\dM m (aB M u)/\aK P w F' (av (aB M u) γ) y v:=by
 unfold sj at h;split at h;split at h<;>try trivial
 rename_i d;cases h;obtain⟨a,i,f,k,g⟩:=H6 n l o d e.2;exact⟨a,i,f,k,e.1,g⟩;split at h<;>try trivial
 rename_i d;cases h;obtain⟨c,p,r,s⟩:=e;obtain⟨a,i,f,k,t,g⟩:=CR n l o d s;exact⟨a,i,f,k,c,p,by rw[r,t],g⟩;cases h
def ke:{cs xs:List AV} -> {u:List (Nat×Ob)} -> {M:aX} -> {F:Nat->Prop} -> {vs:List Value}->MemOK P B w F γ M->(∀ b,F b->b<w.heap.size)->dM m M->fe m cs=U (xs,u)->bI P w F (av M γ) cs vs ->
  ∃ F',Step B w F γ M w F' γ (aB M u)/\MemOK P B w F' γ (aB M u)/\dM m (aB M u)/\bI P w F' (av (aB M u) γ) xs vs
 |[],xs,u,M,F,vs,f,e,g,h,a=>by obtain⟨rfl,rfl⟩:=h;exact⟨F,Step.refl e,f,g,a⟩
 |c::r,xs,u,M,F,[],f,e,g,h,a=>a.elim
 |c::r,xs,u,M,F,v::vs,f,e,g,h,a=>by simp only[fe]at h;split at h;rename_i x E y G n o;cases h;obtain⟨D,d,p,A,t⟩:=qam f e g n a.1;have i:=DD d.hF d.hw d.hR a.2;obtain⟨l,k,s,C,z⟩:=ke p d.bd A o i;rw[iP];exact⟨l,d.trans k,s,C,k.repA t,z⟩;cases h
def aG.flat:{t:Ty}->t.flat=Z -> {x:t.q} -> {g:Nat->Value->Prop}->aG w F t x g->aG w' F' t x g
 |.int _,_,_,_,h=>h
 |.bool,_,_,_,h=>h
 |.str,_,_,_,h=>h
 |.unit,_,_,_,h=>h
 |.sl _,c,_,_,_=>by simp[Ty.flat]at c
 |.fm _,c,_,_,_=>by simp[Ty.flat]at c
 |.ic _ t,c,_,_,h=>by
  simp only[Ty.flat]at c;rcases h with ⟨l,u,d,e,f,i,k⟩|h
  exact .inl ⟨l,u,d,e,f,i,k.flat c⟩;exact .inr h
 |.fc _,c,_,_,_=>by simp[Ty.flat]at c
 |.pair a b,c,_,_,h=>by simp only[Ty.flat,udd]at c;exact⟨aG.flat c.1 h.1,aG.flat c.2 h.2⟩
def bJ.flat{t:Ty}(a:t.flat=Z){x:t.q}(h:bJ w F t x v):bJ w' F' t x v:=⟨h.1,h.2.1,h.2.2.flat a⟩
def fi.flat:{a:List Ty}->a.all Ty.flat=Z -> {x:aa a} -> {d:List Value}->fi w F a x d->fi w' F' a x d
 |[],_,_,_,h=>h
 |t::r,b,_,_,⟨v,c,e,f,g⟩=>by simp only[uek,udd]at b;exact⟨v,c,e,f.flat b.1,fi.flat b.2 g⟩
def jF.flat:{b:List Ty}->b.all Ty.flat=Z -> {x:aa b} -> {v:Value}->jF w F b x v->jF w' F' b x v
 |[],a,_,_,⟨e,c,d⟩=>⟨e,c,fi.flat a d⟩
 |[t],a,_,_,h=>by simp only[uek,udd]at a;exact bJ.flat a.1 h
 |t::f::r,a,_,_,⟨e,c,d⟩=>⟨e,c,fi.flat a d⟩
def cy.flat{t:Ty}(a:t.flat=Z){l:List t.q}(h:cy w F t l xs):cy w' F' t l xs:=λi x b=>(h i x b).flat a
end
section
variable {P:Program} {B:Nat} {o:Oper} {a:Act} {w w':World} {F F':Nat->Prop} {γ γ':Nat->Value} {M m:aX} {R:Nat->Value->Prop}
def zos{e:Ob}{x:Obj}(a:∀ b,F b->b<w.heap.size)(f:B<=w.heap.size)(c:M d=V):Step B w F γ M (w.alloc x) F (dG γ d v) (upd M d e):=
 ⟨λ_ h=>h,λb h=>udc _ _ _ (a b h),CK c,λb h=>udc _ _ _ (by omega),rfl,rfl,rfl,by simp,λb h=>by have:=a b h;simp;omega,λb h=>.inl h⟩
def Yn{c:List AC}(m:MemOK P B w F γ M)(g:∀ b,F b->b<w.heap.size)(f:B<=w.heap.size)(i:M d=V)(l:arr.size=c.length)(n:aS P w F (av M γ) c (λj u=>arr[j]?= U u)):
  Step B w F γ M (w.alloc (.cells arr ty)) F (dG γ d (.pointer (U ⟨w.heap.size,0,V⟩))) (upd M d (.box ty c)) /\
  MemOK P B (w.alloc (.cells arr ty)) F (dG γ d (.pointer (U ⟨w.heap.size,0,V⟩))) (upd M d (.box ty c)):=by
 have e:Step B w F γ M (w.alloc (.cells arr ty)) F (dG γ d (.pointer (U ⟨w.heap.size,0,V⟩))) (upd M d (.box ty c)):=zos g f i;refine⟨e,m.new i e.hF e.hw (λb h=>?_) (λb h=>⟨udc _ _ _ h,λh=>h⟩) ?_⟩;obtain⟨a,k,rfl⟩:=h;cases k;exact ufd _;exact⟨w.heap.size,arr,rfl,ud8 w _,λh=>by have:=g _ h;omega,f,l,e.repCL n⟩
def Z5{a:List AC}:aK P w F (av (upd M d (.box ty a)) (dG γ d (.pointer (U ⟨b,0,V⟩)))) (.c (.ptr d 0)) (.pointer (U ⟨b,0,V⟩)):=by refine⟨rfl,b,?_,rfl⟩;unfold av;rw[kX];exact(ig _ _ _).symm
def yv{t:Ty}{l:List t.q}(s:MemOK P B w F γ M)(k:∀ b,F b->b<w.heap.size)(u:B<=w.heap.size)(o:M d=V)(i:w.grownBy w' V)(c:w'.ownsRow B ety t.size v l.length xs)(f:∀ g,v.ownBlock=U g->w.heap.size<=g)(e:cy w' F t l xs)(p:ety<cJ):
  Step B w F γ M w' F (dG γ d v) (upd M d (.arr ety t l))/\MemOK P B w' F (dG γ d v) (upd M d (.arr ety t l)):=by
 have a:=λb h=>i.block b h (by simp);have n:Step B w F γ M w' F (dG γ d v) (upd M d (.arr ety t l)):=
  ⟨λ_ h=>h,λb h=>a b (k b h),CK o,λb h=>a b (by omega),i.os,i.tape,i.output,i.size,λb h=>by have:=k b h;have:=i.size;omega,λb h=>.inl h⟩
 refine⟨n,s.new o n.hF n.hw (λb h=>f b ((oa p (qg c)).1 h)) (λb h=>⟨a b h,λh=>h⟩) ?_⟩;refine .inl ⟨p,xs,c,λg m r=>?_,e,CO e c.1⟩;have:=k g r;have:=f g m;omega
def o7{t:Ty}{l:List t.q}(a:v.oneCell'=Z):aK P w F (av (upd M d (.arr ety t l)) (dG γ d v)) (.c (.own d)) v:=by refine⟨a,?_⟩;simp only[bx];unfold av;rw[kX];exact(ig _ _ _).symm
def MemOK.re(h:MemOK P B w F γ M)(S:Nat->Prop){p:aX}(A:∀ i,¬ S i->p i=M i)(r:∀ i,¬ S i->γ' i=γ i)(T:∀ b,F b->w'.heap[b]?= w.heap[b]?)(Q:∀ i v,av M γ i v->av p γ' i v)(y:∀ b,b<w.heap.size->(∀ i o,S i->M i=U o->¬ cg w o (γ i) b)->w'.heap[b]?= w.heap[b]?)(K:∀ i o,S i->p i=U o->iA P B w' F (av p γ') (γ' i) o)(E:∀ i o b,S i->p i=U o->cg w' o (γ' i) b->(∃ j o0,S j/\M j=U o0/\cg w o0 (γ j) b)\/w.heap.size<=b)(D:∀ i j a m b,S i->S j->i≠j->p i=U a->p j=U m->cg w' a (γ' i) b->¬ cg w' m (γ' j) b):MemOK P B w' F γ' p:=by
 have L:∀ i a,¬ S i->M i=U a->∀ b,cg w a (γ i) b->w'.heap[b]?= w.heap[b]? /\ ¬ F b:=λi a l d b C=>by obtain⟨N,O,_⟩:=jN (h.ob i a d) C;exact⟨y b N (λj o n G R=>h.apart i j a o b (λe=>l (e ▸ n)) d G C R),O⟩
 have t:∀ i a,¬ S i->M i=U a->∀ b,cg w' a (γ i) b->cg w a (γ i) b:=λi a l d b=>xy (λb C=>(L i a l d b C).1);have z:∀ i j a m b,S i->¬ S j->p i=U a->M j=U m->cg w' a (γ' i) b->¬ cg w' m (γ j) b:=λi j a m b d n H u g f=>by
  have s:=t j m n u b f;rcases E i a b d H g with ⟨k,o0,W,k2,k3⟩|k
  exact h.apart k j o0 m b (λe=>n (e ▸ W)) k2 u k3 s;have:=(jN (h.ob j m u) s).1;omega
 refine⟨λi o d=>?_,λi j a m b x d n g f=>?_⟩;by_cases l:S i;exact K i o l d;rw[A i l]at d;rw[r i l];exact(h.ob i o d).keep (λ_ h=>h) T Q (L i o l d);by_cases l:S i;by_cases c:S j;exact D i j a m b l c x d n g f;rw[A j c]at n;rw[r j c]at f;exact z i j a m b l c d n g f;rw[A i l]at d;rw[r i l]at g;by_cases c:S j;exact z j i m a b c l n d f g;rw[A j c]at n;rw[r j c]at f;exact h.apart i j a m b x d n (t i a l d b g) (t j m c n b f)
def MemOK.moved(h:MemOK P B w F γ M){id:Nat}{o0 o:Ob}(f:M id=U o0)(y:M d=V)(E:∀ b,F b->w'.heap[b]?= w.heap[b]?)(t:∀ b,cg w' o v b->cg w o0 (γ id) b\/w.heap.size<=b)(n:∀ b,b<w.heap.size->¬ cg w o0 (γ id) b->w'.heap[b]?= w.heap[b]?)(x:iA P B w' F (av (upd (upd M id .gone) d o) (dG γ d v)) v o):MemOK P B w' F (dG γ d v) (upd (upd M id .gone) d o):=by
 have m:d≠id:=by rintro rfl;rw[y]at f;cases f
 have p:∀ c,upd (upd M id .gone) d o id=U c->c=.gone:=λc a=>by rw[gL _ _ m.symm,kX]at a;exact(ud4 a).symm
 have k:∀ c,upd (upd M id .gone) d o d=U c->c=o:=λc a=>by rw[kX]at a;exact(ud4 a).symm
 refine h.re (λi=>i=id\/i=d) (λi a=>?_) (λi a=>ga _ _ (λe=>a (.inr e))) E (λi u D=>CK (by rw[gL _ _ m];exact y) i u (qm f (λ_=>rfl) i u D))
  (λb g C=>n b g (C id o0 (.inl rfl) f)) ?_ ?_ ?_
 rw[gL _ _ (λe=>a (.inr e)),gL _ _ (λe=>a (.inl e))];rintro i c (rfl|rfl) a;obtain rfl:=p c a;trivial;obtain rfl:=k c a;rw[ig];exact x;rintro i c b (rfl|rfl) a g;obtain rfl:=p c a;exact g.elim;obtain rfl:=k c a;rw[ig]at g;exact(t b g).imp (λz=>⟨id,o0,.inl rfl,f,z⟩) (λh=>h);rintro i j c G b (rfl|rfl) (rfl|rfl) l a A r s;exact l rfl;obtain rfl:=p c a;exact r;obtain rfl:=p G A;exact s;exact l rfl
def GM{id:Nat}{k:TypeId}{t H:Ty}{l:List t.q}{O:List H.q}(D:MemOK P B w F γ M)(r:∀ b,F b->b<w.heap.size)(S:B<=w.heap.size)(p:M id=U (.arr k H O))(x:M d=V)(n:w.grownBy w' (γ id).ownBlock)(e:w'.ownsRow B ety t.size v l.length xs)(o:v.ownBlock=(γ id).ownBlock\/v.ownBlock=U w.heap.size\/v.ownBlock=V)(f:cy w' F t l xs)(y:k<cJ)(m:ety<cJ):
  Step B w F γ M w' F (dG γ d v) (upd (upd M id .gone) d (.arr ety t l))/\MemOK P B w' F (dG γ d v) (upd (upd M id .gone) d (.arr ety t l)):=by
 have A:d≠id:=by rintro rfl;rw[x]at p;cases p
 obtain⟨R,Q,G,_⟩:=iT.of (D.ob id _ p) y;have z:∀ b,F b->U b≠(γ id).ownBlock:=λb s m=>G b m.symm s;have E:Step B w F γ M w' F (dG γ d v) (upd (upd M id .gone) d (.arr ety t l)):=
  ⟨λ_ h=>h,λb h=>n.block b (r b h) (z b h),
   λi u N=>CK (by rw[gL _ _ A];exact x) i u (qm p (λ_=>rfl) i u N),
   λb h=>n.block b (by omega) (λm=>by have:=(Q.lt b m.symm).1;omega),n.os,n.tape,n.output,n.size,λb h=>by have:=r b h;have:=n.size;omega,λb h=>.inl h⟩
 refine⟨E,D.moved p x E.hw (λb h=>?_) (λb K L=>n.block b K (λm=>L (.inl m.symm))) ?_⟩;replace h:=(oa m (qg e)).1 h;refine(λh=>h.imp (.inl:(γ id).ownBlock=U b->_) (λh=>h):_\/_->_) ?_;rcases o with c|c|c
 rw[c]at h;exact .inl h;rw[c]at h;simp at h;exact .inr (by omega);rw[c]at h;cases h;refine .inl ⟨m,xs,e,λg a C=>?_,f,CO f e.1⟩;rcases o with c|c|c
 rw[c]at a;exact G g a C;rw[c]at a;simp at a;have:=r g C;omega;rw[c]at a;cases a
end
section
variable {P:Program} {B:Nat} {o:Oper} {a:Act} {w w':World} {F F':Nat->Prop} {γ γ':Nat->Value} {M m:aX} {R:Nat->Value->Prop}
def GD{t:Ty}{l:List t.q}(C:aG w F (.sl t) l (λ_ u=>u=v)):
  ∃ A c xs,v=.slice A l.length c/\l.length<=c/\(A=V->l=[])/\xs.length=l.length*t.size/\cy w F t l xs/\∀ ad,A=U ad->∀ (j:Nat) u,xs[j]?= U u->w.cell? (ad.add j)=U u:=by
 obtain⟨A,c,s,z,E,n⟩:=C;cases A with
 |none=>
  have B:l=[]:=by
   cases l with
   |nil=>rfl
   |cons x l=>obtain⟨ad,a,_⟩:=n 0 x rfl;cases a
  subst B;exact⟨V,c,[],s.symm,z,λ_=>rfl,by simp,λi x f=>by simp at f,λad a=>by cases a⟩
 |some ad=>
  refine⟨U ad,c,(List.range (l.length*t.size)).map λk=>(w.cell? (ad.add k)).getD undef,s.symm,z,(λh=>by cases h),by simp,λi x f=>?_,λg a j u b=>?_⟩;obtain⟨g,a,_,o⟩:=n i x f;cases a;refine o.mono (λ_ h=>h) (λ_ _=>rfl) λj u b D=>?_;have p:=(uak.1 f).1;have:i*t.size+j<l.length*t.size:=by
   have:i*t.size+t.size<=l.length*t.size:=by rw[<- uey];exact ube _ p
   omega
  rw[uco,List.getElem?_range this];simp[D];cases a;rw[uco]at b;have e:j<l.length*t.size:=by
   rcases uer j (l.length*t.size)with h|h
   exact h;rw[ua4 (by simpa using h)]at b;simp at b
  rw[List.getElem?_range e]at b;simp at b;have d:0<t.size:=by
   rcases ub5 t.size with m|m
   rw[m]at e;omega;exact m
  have f:=(Nat.div_lt_iff_lt_mul d).2 e;obtain⟨g,a,_,o⟩:=n (j/t.size) _ (uaq f);cases a;obtain⟨y,r,_⟩:=aG.cell t o (j%t.size) (ufl _ d);rw[uex,Nat.div_add_mod]at r;rw[r]at b |-;simpa using b
def cy.append{t:Ty}{l k:List t.q}{c:List Value}(e:cy w F t l xs)(m:xs.length=l.length*t.size)(f:cy w F t k c):cy w F t (l++k) (xs++c):=by
 intro i x a;rcases uer i l.length with h|h
 rw[uaj h]at a;refine(e i x a).mono (λ_ h=>h) (λ_ _=>rfl) λj u d b=>?_;have:i*t.size+t.size<=l.length*t.size:=by rw[<- uey];exact ube _ h
 rw[uaj (by omega)];exact b;rw[uae h]at a;refine(f (i-l.length) x a).mono (λ_ h=>h) (λ_ _=>rfl) λj u d b=>?_;have g:i*t.size=l.length*t.size+(i-l.length)*t.size:=by rw[<- uff];congr 1;omega
 rw[uae (by omega)];rw[<- b];congr 1;omega
def X9{c:AC}{t:Ty}{l:List t.q}(s:MemOK P B w F γ M)(d:∀ i y,m i=U y->M i=U y)(h:uD m c=U ⟨t,l⟩)(p:bx P w F (av M γ) c v):
  ∃ A f xs,v=.slice A l.length f/\l.length<=f/\(A=V->l=[])/\xs.length=l.length*t.size/\cy w F t l xs/\∀ ad,A=U ad->∀ (j:Nat) u,xs[j]?= U u->w.cell? (ad.add j)=U u:=by
 unfold uD at h;split at h<;>try trivial
 cases h;exact GD p;cases h;obtain⟨A,_,C⟩:=p;exact GD C;rename_i id;split at h<;>try trivial
 rename_i z E D a;split at h<;>try trivial
 rename_i k;cases h;have r:=fV (d _ _ a) (by simp) p;subst r;obtain⟨xs,b,_,e,_⟩:=iT.of (s.ob id _ (d _ _ a)) k;rcases b.2 with ⟨n,o⟩|⟨g,f,x,n,_,_,o,_⟩
 exact⟨V,0,xs,by rw[n,o],by omega,λ_=>uab o,b.1,e,λad k=>by cases k⟩;refine⟨_,_,xs,n,o,(λh=>by cases h),b.1,e,λad k=>?_⟩;cases k;exact b.cells (by rw[n];rfl);rename_i E D a;cases h;have r:=fV (d _ _ a) (by simp) p;subst r;exact GD (s.ob id _ (d _ _ a))
def qaw(t g e:TypeId)(i:TypeInfo)(f:P.underlying t=U (.slice e))(d:P.info? e=U i)(A:Option Addr)(n a:Nat)(b:n<=a)(c:Nat):
  (Builtin.append_ #[t,t] g #[.slice A n a,.slice V 0 c]).run P w=.ok (.slice A n a) w:=by
 cases A<;>simp[Builtin.append_,ud6 f,sizeOf,typeInfo,d,Builtin.lenOf,Builtin.firstCells,b,storeCells]
def tk(t l e:TypeId)(i:TypeInfo)(z:Value)(size:Nat)(x:P.underlying t=U (.slice e))(p:P.info? e=U i)(S:i.zero=U z)(f:i.size=size)(y:z.cells.size=size)(v:0<size)(s:Value)(n:Nat)(C:List Value)(b:w.ownsRow B e size s n C)(A:Option Addr)(k c:Nat)(a:List Value)(M:A=V->k=0)(D:a.length=k*size)(O:∀ ad,A=U ad->∀ (j:Nat) u,a[j]?= U u->w.cell? (ad.add j)=U u)(L:∀ u∈a,u.oneCell'=Z)(o:n+k<=maxLen)(d:(n+k)*i.bytes<=140737488355328)(N:B<=w.heap.size):
  ∃ h w',(Builtin.append_ #[t,t] l #[s,.slice A k c]).run P w=.ok h w'/\w'.ownsRow B e size h (n+k) (C++a)/\w.grownBy w' s.ownBlock/\(h.ownBlock=s.ownBlock\/h.ownBlock=U w.heap.size):=by
 cases A with
 |none=>
  have Q:=M rfl;subst Q;have R:=uab (by simpa using D);subst R;rcases b.2 with ⟨rfl,rfl⟩|⟨g,m,E,rfl,_,_,r,_⟩
  exact⟨_,w,qaw t l e i x p V 0 0 (ufd _) c,by simpa using b,⟨rfl,rfl,rfl,ufd _,λ_ _ _=>rfl⟩,.inl rfl⟩;exact⟨_,w,qaw t l e i x p _ n m r c,by simpa using b,⟨rfl,rfl,rfl,ufd _,λ_ _ _=>rfl⟩,.inl rfl⟩
 |some ad=>obtain⟨h,w',F,G,H,_,K⟩:=run_append_own_at w B t l e i z size i.bytes x p S f rfl y v s n C b ad k c a D (O ad rfl) L o d N;exact⟨h,w',F,G,H,K⟩
def qle(t F e:TypeId)(i:TypeInfo)(z:Value)(size:Nat)(L:P.underlying t=U (.slice e))(K:P.info? e=U i)(M:i.zero=U z)(p:i.size=size)(E:z.cells.size=size)(S:Option Addr)(n:Nat)(m:List Value)(R:S=V->n=0)(g:m.length=n*size)(D:∀ ad,S=U ad->∀ (j:Nat) u,m[j]?= U u->w.cell? (ad.add j)=U u)(A:Option Addr)(k c:Nat)(a:List Value)(T:0<k)(O:A=V->k=0)(s:a.length=k*size)(H:∀ ad,A=U ad->∀ (j:Nat) u,a[j]?= U u->w.cell? (ad.add j)=U u)(r:n+k<=maxLen)(f:(n+k)*i.bytes<=140737488355328)(Q:B<=w.heap.size):
  ∃ G w',(Builtin.append_ #[t,t] F #[.slice S n n,.slice A k c]).run P w=.ok G w'/\w'.ownsRow B e size G (n+k) (m++a)/\w.grownBy w' V/\G.ownBlock=U w.heap.size:=by
 subst p;obtain⟨ad,rfl⟩:∃ ad,A=U ad:=by
  cases A with
  |none=>have:=O rfl;omega
  |some ad=>exact⟨ad,rfl⟩
 have h:(m++a).length=(n+k)*i.size:=by rw[ub6,g,s,uff]
 have y:=grownCap_ge w (n+k) n e;have x:=ub7 w (n+k) n e r;have l:((n+k:Nat):Int)<=9223372036854775807:=by simp only[maxLen]at r;omega
 have d:(w.drew.alloc (.cells (m.toArray++a.toArray++Builtin.zeroCells z.cells (grownCap w (n+k) n e-(n+k))) e)).ownsRow B e i.size (.slice (U ⟨w.heap.size,0,V⟩) (n+k) (grownCap w (n+k) n e)) (n+k) (m++a):=by refine⟨h,.inr ⟨w.heap.size,_,_,rfl,Q,ud8 w.drew _,y,x,?_,?_⟩⟩;simp only[ucp,ucq,size_zeroCells,E,g,s,<- uff];congr 1;omega;simp;rw[<- ucr,<- h];exact List.take_left
 have o:w.grownBy (w.drew.alloc (.cells (m.toArray++a.toArray++Builtin.zeroCells z.cells (grownCap w (n+k) n e-(n+k))) e)) none:=⟨rfl,rfl,rfl,by simp,λb v _=>heap_alloc_old w.drew _ b v⟩;cases S with
 |none=>have W:=R rfl;subst W;have hx:=uab (by simpa using g);subst hx;have C:=run_append_nil w t F e i z L K M ad k c a s (H ad rfl) T (by simpa using l) (by have v:=f;simp at v;omega);simp at d o |-;exact⟨_,_,C,d,o,rfl⟩
 |some N=>have C:=run_append_grow w t F e i z L K M N n n m g (D N rfl) ad k c a s (H ad rfl) (by omega) l (growslice_fits (by omega) f);exact⟨_,_,C,d,o,rfl⟩
def nj{size:Nat}{s:Value}(h:w.ownsRow B t size s n xs):s.oneCell'=true:=by rcases h.2 with ⟨rfl,_⟩|⟨g,a,b,rfl,_⟩<;>rfl
def qlg{s x:AV}{e:Eff}{vs:Value}(hm:MemOK P B w F γ M)(hb:∀ b,F b->b<w.heap.size)(hB:B<=w.heap.size)(k:∀ i y,m i=U y->M i=U y)(hd:m d=V->M d=V)(h:Jw P d t s x m=U e)(T:az e.need)(hs:aK P w F (av M γ) s vs)(hx:aK P w F (av M γ) x vx):
  ∃ u w' γ',(Builtin.append_ #[t,t] ty #[vs,vx]).run P w=.ok u w'/\Step B w F γ M w' F γ' (aB M e.wr)/\MemOK P B w' F γ' (aB M e.wr)/\aK P w' F (av (aB M e.wr) γ') e.v u:=by
 unfold Jw at h;split at h<;>try trivial
 rename_i el ht;split at h<;>try trivial
 rename_i i tt hi htt hmd;have O:=hd hmd;split at h<;>try trivial
 rename_i hsz;obtain⟨r,C,K,L⟩:=hsz;obtain⟨z,hz,W⟩:∃ z,i.zero=U z/\z.cells.size=tt.size:=by
  cases hz:i.zero with
  |none=>simp[hz]at L
  |some z=>exact⟨z,rfl,by simpa[hz]using L⟩
 split at h<;>try trivial
 rename_i new f;obtain⟨A,n,a,hvx,hlc,hA,D,E,c⟩:∃ A n a,vx=.slice A new.length n/\new.length<=n/\(A=V->new=[])/\a.length=new.length*tt.size/\cy w F tt new a/\∀ ad,A=U ad->∀ (j:Nat) u,a[j]?= U u->w.cell? (ad.add j)=U u:=by
  split at f<;>try trivial
  cases f;obtain⟨_,rfl⟩:=hx;exact⟨V,0,[],rfl,ufd _,λ_=>rfl,by simp,λi x hi=>by simp at hi,λad he=>by cases he⟩;split at f<;>try trivial
  rename_i u l hl;split at f<;>try trivial
  rename_i hu;subst hu;cases f;exact X9 hm k hl hx.2
 subst hvx;have N:A=V->new.length=0:=λh=>by rw[hA h];rfl
 have H:=CO E D;split at h<;>try trivial
 cases h;obtain⟨_,rfl⟩:=hs;obtain⟨v',w',e1,p,G,e4⟩:=tk t ty el i z tt.size ht hi hz C W K (.slice V 0 0) 0 [] (ucs w B el tt.size) A new.length n a N D c H (by have:=T.1;omega) (by have:=T.2;simpa using this) hB;rw[uez,udn]at p;obtain⟨s1,s2⟩:=yv hm hb hB O G p (λg hg=>by rcases e4 with h|h<;>rw[h]at hg<;>simp[Value.ownBlock]at hg;omega) (E.mono (λ_ h=>h) (λb o=>G.block b (hb b o) (by simp[Value.ownBlock]))) r;exact⟨v',w',_,e1,s1,s2,o7 (nj p)⟩
 rename_i id;split at h<;>try trivial
 rename_i e' u l R;split at h<;>try trivial
 rename_i hu;subst hu;split at h<;>try trivial
 rename_i he';obtain⟨rfl,_⟩:=he';cases h;have Q:cY (rfl:u=u) l=l:=rfl;have hv:=fV (k _ _ R) (by simp) hs.2;subst hv;obtain⟨xs,q1,q2,q3,q4⟩:=iT.of (hm.ob id _ (k _ _ R)) r;obtain⟨v',w',e1,p,G,e4⟩:=tk t ty e' i z u.size ht hi hz C W K (γ id) l.length xs q1 A new.length n a N D c H T.1 T.2 hB;have hFb:=λb o=>G.block b (hb b o) (λhe=>q2 b he.symm o);rw[<- ub6]at p;obtain⟨s1,s2⟩:=GM hm hb hB (k _ _ R) O G p (e4.elim .inl (λh=>.inr (.inl h))) ((q3.append q1.1 E).mono (λ_ h=>h) hFb) r r;exact⟨v',w',_,e1,s1,s2,o7 (nj p)⟩
 rename_i u l;split at h<;>try trivial
 rename_i hu;subst hu;cases h;have Q:cY (rfl:u=u) l=l:=rfl;obtain⟨_,S,hvs,hrs⟩:=hs;obtain⟨S',c',xs,hv,_,hS,hxl,hxr,hxc⟩:=GD hrs;rw[hvs]at hv;cases hv;subst hvs;obtain⟨v',w',e1,p,G,e4⟩:=qle t ty el i z u.size ht hi hz C W S l.length xs (λh=>by rw[hS h];rfl) hxl hxc A new.length n a T.1 N D c T.2.1 T.2.2 hB;rw[<- ub6]at p;obtain⟨s1,s2⟩:=yv hm hb hB O G p (λg hg=>by rw[e4]at hg;simp at hg;omega) ((hxr.append hxl E).mono (λ_ h=>h) (λb o=>G.block b (hb b o) (by simp))) r;exact⟨v',w',_,e1,s1,s2,o7 (nj p)⟩
end
section
variable {P:Program} {B:Nat} {o:Oper} {a:Act} {w w':World} {F F':Nat->Prop} {γ γ':Nat->Value} {M m:aX} {R:Nat->Value->Prop}
def dg(arr:Array Value)(off:Nat)(vs:List Value):Array Value:=(arr.toList.take off++vs++arr.toList.drop (off+vs.length)).toArray
def Cs(h:off+vs.length<=arr.size):(dg arr off vs).size=arr.size:=by simp[dg];omega
def Cr(h:off+vs.length<=arr.size){j:Nat}(a:j<vs.length):(dg arr off vs)[off+j]?= vs[j]? := by simp only[dg,List.getElem?_toArray];rw[uaj (by simp;omega),uae (by simp;omega)];congr 1;simp;omega
def uQ(h:off+vs.length<=arr.size){j:Nat}(a:j<off\/off+vs.length<=j):(dg arr off vs)[j]?= arr[j]? := by
 simp only[dg,List.getElem?_toArray];rcases a with a|a
 rw[uaj (by simp;omega),uaj (by simp;omega),ub2,uf0 a];simp;rw[uae (by simp;omega),ub1];simp only[ub6,uc6,ubu];rw[show off+vs.length+(j-(min off arr.size+vs.length))=j from by omega];simp
def HA{h:TypeInfo}(c:w.heap[b]?= U (.cells arr ty (0,0)))(d:P.info? t=U h)(f:v.cells.size=P.cellsOf t)(e:off+v.cells.size<=arr.size)(a:∀ u∈v.cells,u.oneCell'=Z):(Instr.storeAt t (.pointer (U ⟨b,off,V⟩)) v).run P w=.ok () (w.setRow b (dg arr off v.cells.toList)):=by have:=run_storeCells_at (P:=P) b off ty v.cells.toList 0 arr w c (by simpa using e) (λu g=>a u (ubh.1 g));simp[Instr.storeAt,Instr.sureAddr,storeVar,jj d,f,this,dg]
def P6{a:aX}(g:∀ b,F b->b<w.heap.size)(d:¬ F b)(k:B<=b)(f:∀ i v,av M γ i v->av a γ i v):Step B w F γ M (w.setRow b arr) F γ a:=
 ⟨λ_ h=>h,λc h=>ue1 w b c _ (λe=>d (e ▸ h)),f,λc h=>ue1 w b c _ (by omega),rfl,rfl,rfl,by simp,λc h=>by have:=g c h;simpa using this,λc h=>.inl h⟩
def so{id:Nat}{l cs':List AC}(r:MemOK P B w F γ M)(n:∀ b,F b->b<w.heap.size)(k:M id=U (.box e l))(d:γ id=.pointer (U ⟨b,0,V⟩))(o:w.heap[b]?= U (.cells arr e (0,0)))(i:¬ F b)(g:B<=b)(p:off+vs.length<=arr.size)(t:arr.size=cs'.length)(s:aS P w F (av M γ) cs' (λj u=>(dg arr off vs)[j]?= U u)):
  Step B w F γ M (w.setRow b (dg arr off vs)) F γ (upd M id (.box e cs'))/\MemOK P B (w.setRow b (dg arr off vs)) F γ (upd M id (.box e cs')):=by
 have a:Step B w F γ M (w.setRow b (dg arr off vs)) F γ (upd M id (.box e cs')):=P6 n i g (qm k (by simp));refine⟨a,r.change k (by simp) a.hF a.hw (λc h=>h) (λc _ f=>⟨ue1 w b c _ (λm=>f ⟨_,d,m.symm⟩),λh=>h⟩) ?_⟩;exact⟨b,_,d,ufg w b arr _ e (0,0) o,i,g,by rw[Cs p];exact t,a.repCL s⟩
def zkj{id:Nat}{a:Ob}(b:M id=U a)(c:a ≠ .gone)(h:av M γ id v):v=γ id:=by unfold av at h;cases a<;>simp_all
def qaq{id:Nat}:{cs xs:List AC} -> {u:List (Nat×Ob)}->lB m cs=U (xs,u)->(cs.flatMap og).all (· != id)=Z->∀ M:aX,aB M u id=M id
 |[],xs,u,h,_,M=>by obtain⟨rfl,rfl⟩:=h;rfl
 |c::r,xs,u,h,f,M=>by
  simp only[lB]at h;split at h;rename_i x g y k a d;cases h;have b:(og c).all (· != id)=Z/\(r.flatMap og).all (· != id)=true:=by simpa[udo]using f
  rw[iP,qaq d b.2];unfold oO at a;split at a;rename_i i;have e:i≠id:=by have:=b.1;simpa[og]using this
  split at a<;>try trivial
  simp at a;obtain⟨_,_,rfl⟩:=a;exact gL _ _ (Ne.symm e);simp at a;obtain⟨_,rfl⟩:=a;rfl;simp at a;obtain⟨_,rfl⟩:=a;rfl;cases h
def zoy{x v:AV}{e:Eff}{E:Value}(hm:MemOK P B w F γ M)(hb:∀ b,F b->b<w.heap.size)(z:∀ i y,m i=U y->M i=U y)(h:P8 P t x v m=U e)(hn:az e.need)(hx:aK P w F (av M γ) x vx)(hv:aK P w F (av M γ) v E):
  e.v=.dead/\∃ w' F',(Instr.storeAt t vx E).run P w=.ok () w'/\Step B w F γ M w' F' γ (aB M e.wr)/\MemOK P B w' F' γ (aB M e.wr):=by
 unfold P8 at h;split at h<;>try trivial
 rename_i new hnew;obtain⟨c1,c2,c3⟩:=rf hnew hv;split at h<;>try trivial
 rename_i hi;obtain⟨ti,hti⟩:=uar.1 hi.1;have hsz:E.cells.size=P.cellsOf t:=by omega
 split at h<;>try trivial
 rename_i id f;split at h<;>try trivial
 rename_i K cs C;split at h<;>try trivial
 rename_i cs' a;cases h;obtain⟨b,d,T,rfl,e3,e4,e5,e6,e7⟩:=nM hm (z _ _ C) hx.2;have S:f+E.cells.toList.length<=d.size:=by unfold ql at a;split at a;simp;omega;cases a
 obtain⟨p1,p2⟩:=Hv (g':=λj u=>(dg d f E.cells.toList)[j]?= U u) a e7 (c2.turn λj u L D=>by
   rw[Cr S (by simp;omega)];simpa using D) (λj u L D=>by
   rw[uQ S (by simp;omega)];exact D)
 obtain⟨s1,s2⟩:=so hm hb (z _ _ C) T e3 e4 e5 S (by omega) p2;exact⟨rfl,_,F,HA e3 hti hsz (by simpa using S) c3,s1,s2⟩
 rename_i id sz i f;split at h<;>try trivial
 rename_i K p l new' u C hrs;split at h<;>try trivial
 rename_i hc;obtain⟨N,hsz',hno⟩:=hc;split at h<;>try trivial
 rename_i row a;split at h<;>try trivial
 rename_i y hdec;cases h;have hil:i<l.length:=hn;obtain⟨F1,s1,m1,t1,l1,r1⟩:=CR hm hb (dM.of z) hrs c2;have W:aB M u id=U (.arr K p l):=by rw[qaq hrs hno];exact z _ _ C
 obtain⟨b,c,d,T,e2,e3,e4,e5,e6⟩:=Sg m1 W N hil;obtain⟨A,n0,c0,f1,rfl⟩:=hx;have f2:=zkj (z _ _ C) (by simp) f1;rw[T]at f2;obtain⟨rfl,rfl,rfl⟩:=f2;subst hsz';have hlr:f+new'.length<=p.size:=by unfold ql at a;split at a;rename_i hle;rw[gV]at hle;exact hle;cases a
 have hnl:E.cells.toList.length=new'.length:=by rw[l1];simpa using c1
 have s:i*p.size+f+E.cells.toList.length<=d.size:=by rw[uey]at e5;omega
 obtain⟨p1,p2⟩:=Hv (g':=λj u=>(dg d (i*p.size+f) E.cells.toList)[i*p.size+j]?= U u) a e6
  (r1.turn λj u L D=>by rw[<- uei,Cr s (by omega)];simpa using D)
  (λj u L D=>by rw[uQ s (by omega)];exact D)
 obtain⟨q1,_⟩:=aG.dec p hdec p2;have Q:Step B w F1 γ (aB M u) (w.setRow b (dg d (i*p.size+f) E.cells.toList)) F1 γ (upd (aB M u) id (.arr K p (l.set i y))):=P6 s1.bd e3 e4 (qm W (by simp));have hmm:MemOK P B (w.setRow b (dg d (i*p.size+f) E.cells.toList)) F1 γ (upd (aB M u) id (.arr K p (l.set i y))):=by
  have hnm:∀ b',γ id ≠ .map (U b'):=λb' he=>by rw[T]at he;cases he
  refine m1.change W (by simp) Q.hF Q.hw (λc h=>(oa N hnm).2 ((oa N hnm).1 h)) (λc _ hne=>⟨ue1 w b c _ (λe'=>hne (.inl (by rw[T];simp[Value.ownBlock,e']))),λh=>h⟩) ?_;obtain⟨xs,hown,hnF,O,hone⟩:=iT.of (m1.ob id _ W) N;obtain⟨hxl,hn'|⟨g,cap,cur,hv',hbg,hg,hnc,hcm,hcs,ht⟩⟩:=hown;omega;rw[T]at hv';obtain⟨rfl,rfl⟩:=hv';rw[e2]at hg;simp at hg;subst hg;have G:cy w F1 p (l.set i y) ((dg d (i*p.size+f) E.cells.toList).toList.take (l.length*p.size)):=by
   intro k x hk;have hkl:k<l.length:=by simpa using (uak.1 hk).1
   have hkb:k*p.size+p.size<=l.length*p.size:=by rw[<- uey];exact ube _ hkl
   rcases uct k i with h1|h1|h1
   rw[ubi (by omega)]at hk;have hki:k*p.size+p.size<=i*p.size:=by rw[<- uey];exact ube _ h1
   refine(O k x hk).mono (λ_ h=>h) (λ_ _=>rfl) λj u L D=>?_;rw[ub2,uf0 (by omega),ua5,uQ s (by omega)];rw[<- ht,ub2,uf0 (by omega)]at D;simpa using D;subst h1;rw[ua0 hkl]at hk;cases hk;refine q1.mono (λ_ h=>h) (λ_ _=>rfl) λj u L D=>?_;rw[ub2,uf0 (by omega),ua5];exact D;rw[ubi (by omega)]at hk;have hki:i*p.size+p.size<=k*p.size:=by rw[<- uey];exact ube _ h1
   refine(O k x hk).mono (λ_ h=>h) (λ_ _=>rfl) λj u L D=>?_;rw[ub2,uf0 (by omega),ua5,uQ s (by omega)];rw[<- ht,ub2,uf0 (by omega)]at D;simpa using D
  have hlc:l.length*p.size<=d.size:=by rw[hcs];exact ube _ hnc
  have hxl':((dg d (i*p.size+f) E.cells.toList).toList.take (l.length*p.size)).length=(l.set i y).length*p.size:=by
   have h8:(dg d (i*p.size+f) E.cells.toList).toList.length=d.size:=by simpa using Cs s
   rw[uc6,h8,udp];omega
  refine .inl ⟨N,_,⟨hxl',.inr ⟨b,_,_,by rw[T,udp],hbg,ufg w b d _ K (0,0) e2,by rw[udp];exact hnc,hcm,by rw[Cs s];exact hcs,by rw[udp]⟩⟩,hnF,G.mono Q.hF Q.hw,CO G hxl'⟩
 have hrun:=HA e2 hti hsz (by simpa using s) c3;refine⟨rfl,_,F1,by rw[kq,uez];exact hrun,?_,?_⟩;rw[iP];exact s1.trans Q;rw[iP];exact hmm
 rename_i id f n i;split at h<;>try trivial
 rename_i K cs k y C;split at h<;>try trivial
 rename_i bz H;split at h<;>try trivial
 rename_i R hns;split at h<;>try trivial
 rename_i cs' a;cases h;obtain⟨ad,a1,a2,a3,rfl⟩:=hx;obtain⟨b,d,T,e2,e3,e4,e5,e6,e7⟩:=nM hm (z _ _ C) a1;simp at e2;subst e2;obtain⟨u,o,hu2⟩:∃ u,E.cells = #[u]/\(u=.int k y/\inR k y):=by
  obtain⟨⟨u,g1,_,g3⟩,_⟩:=c2;have:E.cells.size=1:=by simpa using c1
  refine⟨u,?_,g3⟩;apply ufs;simpa using this;intro j hj1 hj2;have:j=0:=by simp at hj2;exact hj2
  subst this;have:=(uaf.1 g1).2;simpa using this
 obtain⟨hu2,hy⟩:=hu2;subst hu2;have hseq:=Gx hns;obtain⟨g1,g2⟩:=xL H e7;have hsb:f+n<=cs.length:=by unfold jT at H;split at H;assumption;cases H
 have S:f+i.toNat+E.cells.toList.length<=d.size:=by rw[o];simp;omega
 have hnsl:R.length=n:=by rw[hseq]at g1;simpa using g1
 have hset:∀ (R:List Int) (j0:Nat),(sn R j0 i y).length=R.length/\∀ j,(sn R j0 i y)[j]?= if i=((j0+j:Nat):Int)/\j<R.length then U y else R[j]? := by
  intro R
  induction R with
  |nil=>intro j0;exact⟨rfl,λj=>by simp[sn]⟩
  |cons q r ih=>
   intro j0;obtain⟨i1,i2⟩:=ih (j0+1);refine⟨by simp[sn,i1],λj=>?_⟩;cases j with
   |zero=>
    simp only[sn,ue0,uda];by_cases hq:i=(j0:Int);rw[uf0 ⟨hq,by omega⟩];simp[hq];rw[uf1 (by omega)];have:(i==(j0:Int))=false:=by simpa using hq
    simp[this]
   |succ j=>simp only[sn,List.getElem?_cons_succ,uda];rw[i2];by_cases hq:i=((j0+1+j:Nat):Int)/\j<r.length;rw[uf0 hq,uf0 ⟨by rw[hq.1];congr 1;omega,by omega⟩];rw[uf1 hq,uf1 (λhh=>hq ⟨by rw[hh.1];congr 1;omega,by omega⟩)]
 obtain⟨z1,z2⟩:=hset R 0;obtain⟨p1,p2⟩:=Hv (g':=λj u=>(dg d (f+i.toNat) E.cells.toList)[j]?= U u) a e7
  (mF _ λj c hc=>by
   rw[uco,z2]at hc;by_cases L:i=((0+j:Nat):Int)/\j<R.length;rw[uf0 L]at hc;simp at hc;subst hc;refine⟨.int k y,?_,rfl,rfl,hy⟩;have hij:i.toNat=j:=by omega
   have:=Cr S (j:=0) (by rw[o];simp);rw[hij,ue0]at this;rw[hij,this,o];rfl;rw[uf1 L]at hc;have hcs:bz[j]?= U c:=by rw[hseq,uco];exact hc
   obtain⟨u,d1,d2⟩:=g2.at_ hcs;refine⟨u,?_,d2⟩;rw[uQ S (by rw[o];simp;omega)];exact d1)
  (λj u L D=>by rw[uQ S (by rw[o];simp at L |-;omega)];exact D)
 obtain⟨s1,s2⟩:=so hm hb (z _ _ C) T e3 e4 e5 S (by omega) p2;exact⟨rfl,_,F,by rw[kq];exact HA e3 hti hsz (by simpa using S) c3,s1,s2⟩
end
section
variable {P:Program} {B:Nat} {o:Oper} {a:Act} {w w':World} {F F':Nat->Prop} {γ γ':Nat->Value} {M m:aX} {R:Nat->Value->Prop} {Γ:Gm}
def zgb{n c:Int}{kn kc:IntKind}{e:Eff}(hm:MemOK P B w F γ M)(T:∀ b,F b->b<w.heap.size)(S:B<=w.heap.size)(W:m d=V->M d=V)(h:NI P d t n c m=U e)(hn:az e.need):
  ∃ u w' γ',(Instr.makeSlice t (.int kn n) (.int kc c)).run P w=.ok u w'/\Step B w F γ M w' F γ' (aB M e.wr)/\MemOK P B w' F γ' (aB M e.wr)/\aK P w' F (av (aB M e.wr) γ') e.v u:=by
 unfold NI at h;split at h<;>try trivial
 rename_i Q ht;split at h<;>try trivial
 rename_i i f hi htt L;split at h<;>try trivial
 rename_i z hz;split at h<;>try trivial
 rename_i cs G;split at h<;>try trivial
 rename_i x s;split at h<;>try trivial
 rename_i O;obtain⟨o,r,N,hs3⟩:=O;cases h;obtain⟨n1,n2,n3,n4⟩:=hn;obtain⟨z1,z2,_⟩:=rf G (wC (P:=P) (R:=av M γ) z);obtain⟨r1,_⟩:=aG.dec f s z2;have hr:=run_make w t Q i z ht hi hz kn kc n c n1 n2 (by rw[ue2];omega) (by simp only[maxLen]at n3;omega);have E:c.toNat<=maxLen:=by omega
 have l:∀ k,k<c.toNat*i.size->(madeCells z.cells (c.toNat*i.size))[k]?= z.cells[k%z.cells.size]? := by
  intro k C;have A:0<z.cells.size:=by omega
  have o:=ufl k A;have H:z.cells[k%z.cells.size]! = z.cells[k%z.cells.size]:=by simp[o]
  simp[madeCells,C,H]
 have p:cy (w.alloc (.cells (madeCells z.cells (c.toNat*i.size)) Q)) F f (Lrp n.toNat x) ((madeCells z.cells (c.toNat*i.size)).toList.take (n.toNat*f.size)):=by
  intro k y C;have K:k<n.toNat:=by simpa using (uak.1 C).1
  have hy:y=x:=by have:=(uak.1 C).2;simpa using this.symm
  subst hy;have hkb:k*f.size+f.size<=n.toNat*f.size:=by rw[<- uey];exact ube _ K
  have hnc:n.toNat*f.size<=c.toNat*i.size:=by rw[r];exact ube _ (by omega)
  refine r1.mono (λ_ h=>h) (λb D=>udc _ _ _ (T b D)) λj u hj hu=>?_;rw[ub2,uf0 (by omega),ua5,l _ (by omega),N];rw[show(k*f.size+j)%f.size=j from by rw[uex,Nat.mul_add_mod];exact Nat.mod_eq_of_lt hj];exact hu
 have a:(Lrp n.toNat x).length=n.toNat:=by simp
 obtain⟨s1,s2⟩:=yv hm T S (W L)
  (ubv w _ V)
  ⟨by
    rw[uc6,ubu,size_madeCells,a];have:n.toNat*f.size<=c.toNat*i.size:=by rw[r];exact ube _ (by omega)
    omega,
   .inr ⟨w.heap.size,c.toNat,_,by rw[a],S,ud8 w _,by rw[a];omega,E,by rw[size_madeCells,r],by rw[a]⟩⟩
  (λg H=>by simp[Value.ownBlock]at H;omega) p o
 exact⟨_,_,_,hr,s1,s2,o7 rfl⟩
def Va{sz:Nat}{t:Ty}(o:t.size=sz):{vs:List (Nat×AV)} -> {ps:List (Nat×Value)} -> {l:List t.q} -> {k:Nat} -> {arr:Array Value}->qq t k vs=U l->ps.length=vs.length ->
  (∀ (q i:Nat) (x:AV) (v:Nat×Value),vs[q]?= U (i,x)->ps[q]?= U v->v.1=i/\aK P w F R x v.2)->(k+vs.length)*sz<=arr.size ->
  l.length=vs.length/\∃ a,Instr.fill (λi=>U (i*sz,sz)) arr ps=U a/\a.size=arr.size/\(∀ j,j<k*sz->a[j]?= arr[j]?) /\
   ∀ (i:Nat) (x:t.q),l[i]?= U x->aG w F t x (λj u=>a[(k+i)*sz+j]?= U u)
 |[],[],l,k,arr,h,_,_,_=>by simp only[qq,ucl]at h;subst h;exact⟨rfl,arr,rfl,rfl,λ_ _=>rfl,λi x N=>by simp at N⟩
 |(i,x)::r,(T,v)::ps,l,k,arr,h,b,B,f=>by
  obtain⟨rfl,C⟩:=B 0 i x (T,v) rfl rfl;simp only at C;simp only[qq]at h;split at h<;>try trivial
  rename_i g;split at h<;>try trivial
  rename_i y l' S m;cases h;have c:=tR S C;obtain⟨W,e2,D⟩:=c;have M:k*sz+sz<=arr.size:=by have e:(k+1)*sz<=(k+(r.length+1))*sz:=ube _ (by omega);rw[uey]at e;simp at f;omega
  obtain⟨p,s⟩:=Mp v.cells.toList (k*sz) 0 arr;have hz:v.cells.zipIdx.foldl (λd (x:Value×Nat)=>d.setIfInBounds (k*sz+x.2) x.1) arr=(v.cells.toList.zipIdx 0).foldl (λd (x:Value×Nat)=>d.setIfInBounds (k*sz+x.2) x.1) arr:=by rw[<- Array.foldl_toList,Array.toList_zipIdx]
  obtain⟨E,a,G,H,A,K⟩:=Va o m (by simpa using b)
   (λq i x v e L=>B (q+1) i x v (by simpa using e) (by simpa using L)) (by rw[p];simp at f;rw[show k+1+r.length=k+(r.length+1) from by omega];exact f)
  refine⟨by simp[E],a,?_,by rw[H,p],λj O=>?_,λq z n=>?_⟩;subst g;simp only[Instr.fill];rw[uf1 (by simp;omega),<- G];congr 1;rw[A j (by rw[uey];omega),s,uf1 (by omega)];cases q with
  |zero=>simp at n;subst n;refine D.mono (λ_ h=>h) (λ_ _=>rfl) λj u O Q=>?_;rw[ue0,A _ (by rw[uey];omega),s,uf0 (by simp;omega)];simpa using Q
  |succ q=>have:=K q z (by simpa using n);rw[show k+1+q=k+(q+1) from by omega]at this;exact this
 |[],_::_,_,_,_,_,b,_,_=>by simp at b
 |_::_,[],_,_,_,_,b,_,_=>by simp at b
def qmb{i:TypeInfo}{z:Value}{e:Ty}{vs:List (Nat×AV)}{ps:Array (Nat×Value)}{l:List e.q}(hm:MemOK P B w F γ M)(hb:∀ b,F b->b<w.heap.size)(hB:B<=w.heap.size)(hd:M d=V)(ht:P.underlying t=U (.slice el))(G:P.info? el=U i)(hz:i.zero=U z)(L:i.size=e.size)(hzs:z.cells.size=e.size)(hpos:0<e.size)(hbig:n*i.size<=16777216)(h:qq e 0 vs=U l)(K:l.length=n)(T:ps.size=vs.length)(hp:∀ (q i:Nat) (x:AV) (v:Nat×Value),vs[q]?= U (i,x)->ps[q]?= U v->v.1=i/\aK P w F (av M γ) x v.2)(R:el<cJ):
  ∃ u w' γ',(Instr.buildSlice t n ps).run P w=.ok u w'/\Step B w F γ M w' F γ' (upd M d (.arr el e l))/\MemOK P B w' F γ' (upd M d (.arr el e l))/\aK P w' F (av (upd M d (.arr el e l)) γ') (.c (.own d)) u:=by
 have o:vs.length=n:=by
  have:∀ (vs:List (Nat×AV)) (k:Nat) (l:List e.q),qq e k vs=U l->l.length=vs.length:=by
   intro vs
   induction vs with
   |nil=>intro k l h;simp only[qq,ucl]at h;subst h;rfl
   |cons x r ih=>
    intro k l h;simp only[qq]at h;split at h<;>try trivial
    split at h<;>try trivial
    rename_i N;cases h;simp[ih _ _ N]
  rw[<- this vs 0 l h,K]
 have S:n<=maxLen:=by have:n*1<=n*i.size:=Nat.mul_le_mul_left _ (by omega);simp only[maxLen];omega
 have E:∀ f:Array Value,f.size=n*i.size->∃ a,Instr.fill (λj=>U (j*i.size,i.size)) f ps.toList=U a/\a.size=n*i.size/\∀ (k:Nat) (x:e.q),l[k]?= U x->aG w F e x (λj u=>a[k*i.size+j]?= U u):=by intro f h0;obtain⟨_,a,g2,g3,_,g5⟩:=Va L.symm (ps:=ps.toList) h (by simpa using T) (λq i x v h1 N=>hp q i x v h1 (by simpa using N)) (by rw[h0,uez,o];exact ufd _);exact⟨a,g2,by rw[g3,h0],λk x H=>by have:=g5 k x H;rw[uez]at this;exact this⟩
 have W:(zeroValue el).run P w=.ok z w:=by simp[zeroValue,typeInfo,G,hz]
 have C:∃ a,a.size=n*i.size/\(∀ (k:Nat) (x:e.q),l[k]?= U x->aG w F e x (λj u=>a[k*i.size+j]?= U u)) /\
   (Instr.buildSlice t n ps).run P w=.ok (.slice (U ⟨w.heap.size,0,V⟩) n n) (w.alloc (.cells a el)):=by
  have A:P.cellsOf el=i.size:=by simp[Program.cellsOf,G]
  have m:¬ (16777216<n*i.size):=by omega
  by_cases p:n*i.size=0;obtain⟨a,k1,y,D⟩:=E ((Array.range 0).map λ_=>default) (by simp[p]);refine⟨a,y,D,?_⟩;simp only[Instr.buildSlice,ueu,ud6 ht,ucm,jj G,A];simp[p,k1,newRow,Sem.run];obtain⟨a,k1,y,D⟩:=E ((Array.range (n*i.size)).map (λj=>z.cells[j%z.cells.size]!)) (by simp);refine⟨a,y,D,?_⟩;simp only[Instr.buildSlice,ueu,ud6 ht,ucm,jj G,A];simp[p,m,W,k1,newRow,newObj,Sem.run]
 obtain⟨a,y,D,hr⟩:=C;have s:cy (w.alloc (.cells a el)) F e l (a.toList.take (l.length*e.size)):=by
  intro k x H;have Q:=(uak.1 H).1;have hkb:k*e.size+e.size<=l.length*e.size:=by rw[<- uey];exact ube _ Q
  refine(D k x H).mono (λ_ h=>h) (λb O=>udc _ _ _ (hb b O)) λj u hj hu=>?_;rw[ub2,uf0 (by omega),ua5,<- L];exact hu
 obtain⟨s1,s2⟩:=yv hm hb hB hd (ubv w _ V)
  ⟨by
    have h9:a.toList.length=n*e.size:=by rw[<- L];simpa using y
    rw[uc6,h9,K];exact Nat.min_self _,.inr ⟨w.heap.size,n,_,by rw[K],hB,ud8 w _,by rw[K];exact ufd _,S,by rw[y,L],rfl⟩⟩
  (λg hg=>by simp[Value.ownBlock]at hg;omega) s R
 exact⟨_,_,_,hr,s1,s2,o7 rfl⟩
def qbh{t:Ty}{l:List t.q}{A:Option Addr}{lo hi mx:Nat}(n:aG w F (.sl t) l (λ_ u=>u=.slice A l.length c))(y:lo<=hi)(z:hi<=l.length)(B:hi<=mx)(C:mx<=c):
  aG w F (.sl t) ((l.drop lo).take (hi-lo)) (λ_ u=>u=.slice (if mx=lo then A else A.map (·.add (lo*t.size))) (hi-lo) (mx-lo)):=by
 obtain⟨p,r,f,s,v,g⟩:=n;obtain⟨rfl,_,rfl⟩:=f;have a:((l.drop lo).take (hi-lo)).length=hi-lo:=by simp;omega
 refine⟨_,mx-lo,by rw[a],by rw[a];omega,by omega,λi x b=>?_⟩;have d:i<hi-lo:=by rw[<- a];exact(uak.1 b).1
 rw[ub2,uf0 d,ub1]at b;obtain⟨e,rfl,k,m⟩:=g _ _ b;refine⟨e.add (lo*t.size),by rw[uf1 (by omega)];rfl,by rw[th];exact k,m.mono (λ_ h=>h) (λ_ _=>rfl) λj u D o=>?_⟩;rw[pn,<- o,uff,uei]
def nt{n:Int}{y:Nat}{a:BoundsCode}(b:0<=n)(c:n<=y):(Instr.sliceBound (.int k n) y a).run P w=.ok n.toNat w:=by simp[Instr.sliceBound,asIntOf,b,c]
def zh9{b:Bool}{r d:List AV}{x:Option Int}(h:y9 b r=U (x,d))(c:bI P w F R r vs):
  (b=Y/\x=V/\d=r)\/(b=Z/\∃ k n v a,x=U n/\vs=v::a/\v=.int k n/\bI P w F R d a):=by
 unfold y9 at h;split at h;simp at h;exact .inl ⟨rfl,h.1.symm,h.2.symm⟩;cases h;cases vs with
 |nil=>exact c.elim
 |cons v vs=>exact .inr ⟨rfl,_,_,v,vs,rfl,rfl,c.1.2.1,c.2⟩
 cases h
def zn4{L:TypeInfo}{x:Ty}{y:List x.q}{l h k:Option Int}{kl kh kk:IntKind}{c:AC}{n:List Prop}{A:Option Addr}{a:Nat}(K:P.underlying t=U (.slice e))(G:P.info? e=U L)(H:P.cellsOf e=x.size)(b:Pu x y l h k=U (c,n))(D:az n)(B:aG w F (.sl x) y (λ_ u=>u=.slice A y.length a)):
  ∃ u,(Instr.sliceAt t (.slice A y.length a) (l.map (.int kl)) (h.map (.int kh)) (k.map (.int kk))).run P w=.ok u w/\u.oneCell'=Z/\bx P w F R c u:=by
 have C:y.length<=a:=by obtain⟨M,N,E,O,_⟩:=B;simp at E;omega
 have g:∀ (d f mx:Nat),(Instr.sliceBounds Z y.length a (l.map (.int kl)) (h.map (.int kh)) (k.map (.int kk))).run P w=.ok (d,f,mx) w ->
   (Instr.sliceAt t (.slice A y.length a) (l.map (.int kl)) (h.map (.int kh)) (k.map (.int kk))).run P w=.ok (.slice (if mx=d then A else A.map (·.add (d*x.size))) (f-d) (mx-d)) w:=by
  intro d f mx s;simp[Instr.sliceAt,Instr.slice,ud6 K,s,jj G,H]
 unfold Pu at b;split at b;cases b;obtain⟨o,p,z⟩:=D;have s:(Instr.sliceBounds Z y.length a (l.map (.int kl)) (h.map (.int kh)) ((none:Option Int).map (.int kk))).run P w=.ok ((l.getD 0).toNat,(h.getD y.length).toNat,a) w:=by
  cases h with
  |none=>
   cases l with
   |none=>simp[Instr.sliceBounds]
   |some d=>simp at o p z;simp[Instr.sliceBounds,nt o p]
  |some f=>
   have r:f<=(a:Int):=by simp at z;omega
   have i:0<=f:=by simp at p;omega
   cases l with
   |none=>simp[Instr.sliceBounds,nt i r]
   |some d=>simp at o p z;simp[Instr.sliceBounds,nt i r,nt (P:=P) (w:=w) (y:=f.toNat) o (by omega)]
 have m:=qbh (lo:=(l.getD 0).toNat) (hi:=(h.getD y.length).toNat) B (by omega) (by omega) (by omega) (ufd _);refine⟨_,g _ _ _ s,rfl,?_⟩;rw[show((h.getD y.length)-(l.getD 0)).toNat=(h.getD y.length).toNat-(l.getD 0).toNat from by omega];exact m;rename_i q;split at b<;>try trivial
 cases b;obtain⟨o,p,z,rfl⟩:=D;have s:(Instr.sliceBounds Z y.length a (l.map (.int kl)) ((U q).map (.int kh)) ((U q).map (.int kk))).run P w=.ok ((l.getD 0).toNat,q.toNat,q.toNat) w:=by
  have r:q<=(a:Int):=by omega
  have i:0<=q:=by omega
  cases l with
  |none=>simp[Instr.sliceBounds,nt i r,nt (P:=P) (w:=w) (y:=q.toNat) i (by omega)]
  |some d=>simp at o p;simp[Instr.sliceBounds,nt i r,nt (P:=P) (w:=w) (y:=q.toNat) i (by omega),nt (P:=P) (w:=w) (y:=q.toNat) o (by omega)]
 have m:=qbh (lo:=(l.getD 0).toNat) (mx:=q.toNat) B (by omega) (by omega) (ufd _) (by omega);refine⟨_,g _ _ _ s,rfl,?_⟩;have v:((y.drop (l.getD 0).toNat).take (q-(l.getD 0)).toNat).length=q.toNat-(l.getD 0).toNat:=by simp;omega
 refine⟨_,by rw[v],?_⟩;rw[show(q-(l.getD 0)).toNat=q.toNat-(l.getD 0).toNat from by omega];exact m
def AZ:{ps:List PT} -> {cs:List AC} -> {x:ap ps} -> {vs:List Value}->jM ps cs=U x->bI P w F R (cs.map .c) vs->dm P w F ps x vs
 |[],[],_,[],_,_=>rfl
 |.d t::r,a::s,x,v::vs,h,b=>by simp only[jM]at h;split at h;rename_i y z n e;cases h;exact⟨v,vs,rfl,tR n b.1,AZ e b.2⟩;cases h
 |.ptr t::r,.sptr cs::s,x,v::vs,h,b=>by simp only[jM]at h;split at h;rename_i y q z n e;cases h;obtain⟨_,ad,i,k,l⟩:=b.1;exact⟨v,vs,rfl,⟨ad,i,k,(aG.dec t n l).1⟩,AZ e b.2⟩;cases h
 |.pfn ps K::r,.sptr [.fv D E g]::s,x,v::vs,h,b=>by
  simp only[jM]at h;split at h<;>try trivial
  rename_i C;split at h<;>try trivial
  rename_i B;split at h<;>try trivial
  rename_i y e;cases h;subst C;subst B;obtain⟨_,ad,i,k,⟨⟨u,l,_,m⟩,_⟩⟩:=b.1;exact⟨v,vs,rfl,⟨ad,u,i,k,l,m⟩,AZ e b.2⟩
 |.pfn _ _::_,.sptr [.fv _ _ _]::_,_,[],_,b=>b.elim
 |.pk f::r,.sptr [.fn H []]::s,x,v::vs,h,b=>by
  simp only[jM]at h;split at h<;>try trivial
  rename_i A;split at h<;>try trivial
  rename_i y e;cases h;subst A;obtain⟨_,ad,i,k,⟨⟨u,l,_,m⟩,_⟩⟩:=b.1;obtain⟨G,rfl,o,_⟩:=m;have p:=Array.size_eq_zero_iff.mp o;subst p;exact⟨v,vs,rfl,⟨ad,i,k,l⟩,AZ e b.2⟩
 |.pk _::_,.sptr [.fn _ []]::_,_,[],_,b=>b.elim
 |[],[],_,_::_,_,b=>b.elim
 |[],_::_,_,_,h,_=>by simp[jM]at h
 |_::_,[],_,_,h,_=>by simp[jM]at h
 |.d _::_,_::_,_,[],_,b=>b.elim
 |.ptr _::_,.sptr _::_,_,[],_,b=>b.elim
 |.fn _ _::_,_::_,_,_,h,_=>by simp[jM]at h
 |.pf _ _::_,_::_,_,_,h,_=>by simp[jM]at h
 |.ptr _::_,.dead::_,_,_,h,_ | .ptr _::_,.int _ _::_,_,_,h,_ | .ptr _::_,.bool _::_,_,_,h,_ | .ptr _::_,.str _::_,_,_,h,_ | .ptr _::_,.nil::_,_,_,h,_
 |.ptr _::_,.sl _ _::_,_,_,h,_ | .ptr _::_,.slx _ _::_,_,_,h,_ | .ptr _::_,.own _::_,_,_,h,_ | .ptr _::_,.ptr _ _::_,_,_,h,_ | .ptr _::_,.fn _ _::_,_,_,h,_ | .ptr _::_,.fv _ _ _::_,_,_,h,_ | .ptr _::_,.pv _ _ _ _::_,_,_,h,_ | .ptr _::_,.mp _::_,_,_,h,_ | .ptr _::_,.fs _ _::_,_,_,h,_=>by simp[jM]at h
def qns{t u:Ty}(h:t=u){x:t.q}(a:bJ w F t x v):bJ w F u (K7 h x) v:=by subst h;exact a
def Lf:{ps:List Ty} -> {b:List PT} -> {a:List AC} -> {f:aa ps->ap b}->lV ps b a=U f->(x:aa ps) -> {vs e:List Value}->fi w F ps x vs->bI P w F R (a.map .c) e->dm P w F b (f x) (vs++e)
 |[],b,a,f,h,x,vs,e,l,k=>by simp only[lV]at h;split at h;rename_i u i;cases h;cases l;exact AZ i k;cases h
 |t::r,.d s::b,a,f,h,x,vs,e,l,k=>by simp only[lV]at h;split at h;rename_i p;split at h;rename_i g o;cases h;obtain⟨v,m,rfl,i,n⟩:=l;exact⟨v,m++e,rfl,qns p i,Lf o x.2 n k⟩;cases h;cases h
 |_::_,[],_,_,h,_,_,_,_,_=>by simp[lV]at h
 |_::_,.ptr _::_,_,_,h,_,_,_,_,_=>by simp[lV]at h
 |_::_,.fn _ _::_,_,_,h,_,_,_,_,_=>by simp[lV]at h
 |_::_,.pf _ _::_,_,_,h,_,_,_,_,_=>by simp[lV]at h
 |_::_,.pfn _ _::_,_,_,h,_,_,_,_,_=>by simp[lV]at h
 |_::_,.pk _::_,_,_,h,_,_,_,_,_=>by simp[lV]at h
def EZ{a:List AC}(b:vs.length=a.length)(h:aS P w F R a (λj u=>vs[j]?= U u)):bI P w F R (a.map .c) vs:=by
 induction a generalizing vs with
 |nil=>cases vs with
  |nil=>trivial
  |cons _ _=>simp at b
 |cons c r i=>cases vs with
  |nil=>simp at b
  |cons v vs=>obtain⟨⟨u,d,e,f⟩,g⟩:=h;simp at d;subst d;exact⟨⟨e,f⟩,i (by simpa using b) (by simpa using g)⟩
def Z3{b a:List Ty}(k:b=a){y:aa b}{e:Ending}{d f:World}{c:Nat->Prop}(h:iB d c b y e f):iB d c a (Fa k y) e f:=by subst k;exact h
def zkr{c a d b:List Ty}(h:c=a)(k:d=b){g:aa c->aa d}(e:lL P w F c d g v):lL P w F a b (AQ h k g) v:=by subst h;subst k;exact e
def dm.mono(a:∀ b,F b->F' b)(c:∀ b,F b->w'.heap[b]?= w.heap[b]?):{ps:List PT} -> {x:ap ps} -> {vs:List Value}->dm P w F ps x vs->dm P w' F' ps x vs
 |[],_,_,h=>h
 |p::_,_,_,⟨v,l,o,g,r⟩=>by
  refine⟨v,l,o,?_,dm.mono a c r⟩;cases p with
  |d t=>exact bJ.mono a c g
  |ptr t=>obtain⟨ad,i,e,k⟩:=g;refine⟨ad,i,a _ e,k.mono a c λj u _ s=>?_⟩;rw[<- s];exact ubd (by rw[th];exact c _ e)
  |fn ps m=>exact lL.mono a c g
  |pf ps m=>exact nH.mono a c g
  |pfn ps m=>obtain⟨ad,u,i,e,k,n⟩:=g;refine⟨ad,u,i,a _ e,?_,lL.mono a c n⟩;rw[<- k];exact ubd (by rw[th];exact c _ e)
  |pk f=>obtain⟨ad,i,e,k⟩:=g;refine⟨ad,i,a _ e,?_⟩;rw[<- k];exact ubd (by rw[th];exact c _ e)
def qqc(s:io P Γ){t x:List Ty}{c:AC}{g:aa t->aa x}{n:List Prop}(h:Le Γ t x c=U (g,n))(N:az n)(B:bx P w F R c v)(_hR:∀ id u,R id u->True):lL P w F t x g v:=by
 unfold Le at h;split at h<;>try trivial
 split at h<;>try trivial
 rename_i o;split at h<;>try trivial
 rename_i l;obtain⟨rfl,_⟩:=h;exact zkr o l B;rename_i f d;split at h<;>try trivial
 rename_i E k;split at h<;>try trivial
 rename_i l;split at h<;>try trivial
 rename_i Q m;cases h;obtain⟨i,rfl,G,H⟩:=B;obtain⟨S,T⟩:=s.1 f E k;refine⟨f,i,rfl,S,λW D A K z y C=>?_⟩;have r:=C.wf;have L:=aS.mono (λb a=>(A b a).1) (λb a=>(A b a).2) (λ_ _ _=>uT) d (g':=λj u=>i.toList[j]?= U u) (λj u O=>by simpa using O) H;have p:=Lf m z C (EZ (by simpa using G) L);have:=T W D (Q z) (y++i.toList) K p (N z r);have M:(y++i.toList).toArray=y.toArray++i:=by simp
 rw[M]at this;exact this.mono λe w2 o=>Z3 l o
def zks{c a d b:List Ty}(h:c=a)(k:d=b){g:aa c->aa d}{D:aa c->Prop}(e:nH P w F c d g D v):nH P w F a b (AQ h k g) (Td h D) v:=by subst h;subst k;exact e
def qqd(p:io P Γ){i r:List Ty}{c:AC}{x:(aa i->aa r)×(aa i->Prop)}(h:Lg Γ i r c=U x)(y:bx P w F R c v):nH P w F i r x.1 x.2 v:=by
 unfold Lg at h;split at h<;>try trivial
 split at h<;>try trivial
 rename_i n;split at h<;>try trivial
 rename_i l;cases h;exact zks n l y;rename_i f d;split at h<;>try trivial
 rename_i B k;split at h<;>try trivial
 rename_i l;split at h<;>try trivial
 rename_i N m;cases h;obtain⟨g,rfl,C,D⟩:=y;obtain⟨O,Q⟩:=p.1 f B k;refine⟨f,g,rfl,O,λS A t E z s H M=>?_⟩;have G:=aS.mono (λb a=>(t b a).1) (λb a=>(t b a).2) (λ_ _ _=>uT) d (g':=λj u=>g.toList[j]?= U u) (λj u L=>by simpa using L) D;have o:=Lf m z M (EZ (by simpa using C) G);have:=Q S A (N z) (s++g.toList) E o H;have K:(s++g.toList).toArray=s.toArray++g:=by simp
 rw[K]at this;exact this.mono λe T n=>Z3 l n
def pI(d:io P Γ):{ps:List PT} -> {xs:List AV} -> {x:ap ps} -> {n:List Prop} -> {vs:List Value}->lm Γ ps xs=U (x,n)->az n->bI P w F R xs vs->dm P w F ps x vs
 |[],[],_,_,[],_,_,_=>rfl
 |p::r,a::s,x,n,v::vs,h,f,c=>by
  simp only[lm]at h;split at h;rename_i y o z t b m;cases h;refine⟨v,vs,rfl,?_,pI d m (lj.1 f).2 c.2⟩;unfold TM at b;split at b;split at b<;>try trivial
  rename_i e;obtain⟨rfl,_⟩:=b;exact tR e c.1;split at b<;>try trivial
  rename_i e;obtain⟨rfl,_⟩:=b;obtain⟨_,g,i,k,l⟩:=c.1;exact⟨g,i,k,(aG.dec _ e l).1⟩;exact qqc d b (lj.1 f).1 c.1.2 (λ_ _ _=>uT);split at b<;>try trivial
  rename_i e;obtain⟨rfl,_⟩:=b;exact qqd d e c.1.2;cases b;cases h
 |[],[],_,_,_::_,_,_,c=>c.elim
 |_::_,_::_,_,_,[],_,_,c=>c.elim
 |[],_::_,_,_,_,h,_,_=>by simp[lm]at h
 |_::_,[],_,_,_,h,_,_=>by simp[lm]at h
def bI.append{b c:List AV}{a:List Value}(h:bI P w F R b a)(k:bI P w F R c vs):bI P w F R (b++c) (a++vs):=by
 induction b generalizing a with
 |nil=>cases a with
  |nil=>exact k
  |cons _ _=>exact h.elim
 |cons x b d=>cases a with
  |nil=>exact h.elim
  |cons u a=>exact⟨h.1,d h.2⟩
def K5(e:io P Γ){k:Int}{args:List AV}(m:∀ b,F b->b<w.heap.size)(z:bI P w F R args vs):{es:List (Int×Nat)} -> {rs:List Ty} -> {y:aa rs} -> {n:List Prop} ->
  pC Γ k args es=U ⟨rs,y,n⟩->az n->∃ f,jS (es.find? (λx=>x.1==k))=.func (.func f) #[] #[]/\(∀ args o,(callFunc f args).run P o=.ok (.enter f args) o)/\Calls P f vs.toArray w (iB w F rs y)
 |[],_,_,_,h,_=>by simp[pC]at h
 |(i,f)::es,rs,y,n,h,A=>by
  simp only[pC]at h;split at h<;>try trivial
  rename_i p u;split at h<;>try trivial
  rename_i x G D;obtain⟨K,L⟩:=e.1 f p u;have a:k=i->az (G++p.ok x)->∃ c,jS (((i,f)::es).find? (λx=>x.1==k))=.func (.func c) #[] #[]/\(∀ args o,(callFunc c args).run P o=.ok (.enter c args) o)/\Calls P c vs.toArray w (iB w F p.rs (p.f x)):=λd C=>by obtain⟨g,l⟩:=lj.1 C;refine⟨f,by simp[d,jS],K,L w F x vs m (pI e D g z) l⟩
  split at h;injection h with h
  cases h;obtain⟨g,l⟩:=lk.1 A;exact a g l;split at h<;>try trivial
  rename_i B _ H N M E;split at h<;>try trivial
  rename_i v;cases h;subst v;obtain⟨g,l⟩:=lk.1 A;by_cases d:k=i;obtain⟨c,r,s,t⟩:=a d (g d);refine⟨c,r,s,?_⟩;have:(k==i)=true:=by simp[d]
  rw[this];exact t;obtain⟨c,r,s,t⟩:=K5 e m z E (l d);refine⟨c,?_,s,?_⟩;rw[<- r];have:(i==k)=false:=by rw[ubw];omega
  simp[this];have:(k==i)=false:=by rw[ubw];exact d
  rw[this];exact t
def qdn(l:io P Γ){k:Int}{e:List AC}{args:List AV}(A:w.heap[b]?= U (.cells arr ety (0,0)))(Q:arr.size=e.length)(C:∀ u∈arr,u.oneCell'=Z)(t:aS P w F R e (λj u=>arr[j]?= U u))(s:bI P w F R args vs):{es:List (Int×Nat)} -> {T:Ty} -> {z:T.q} -> {n:List Prop} ->
  D7 Γ k e args es=U ⟨T,z,n⟩->az n->e.length=T.size/\∃ f,jS (es.find? (λx=>x.1==k))=.func (.func f) #[] #[]/\(∀ args D,(callFunc f args).run P D=.ok (.enter f args) D) /\
   Calls P f (Value.pointer (U ⟨b,0,V⟩)::vs).toArray w λK w'=>∃ (u:Value) (p:List Value),K=.returned u/\p.length=T.size/\w'=w.setRow b p.toArray/\aG w F T z (λj u=>p[j]?= U u)
 |[],_,_,_,h,_=>by simp[D7]at h
 |(i,f)::es,T,z,n,h,B=>by
  simp only[D7]at h;split at h<;>try trivial
  rename_i m ps g o;have r:=l.2 f _ o;split at h<;>try trivial
  rename_i x y v S;have c:e.length=m.size:=by have:=mN m v;simp at this;omega
  have W:=(aG.dec m v t).1;have hy:=nY S s;have a:=r.calls w F b ety arr x y vs A (by omega) C W hy;split at h;injection h with h
  cases h;have d:k=i:=B;exact⟨c,f,by simp[d,jS],r.enters,a⟩;split at h<;>try trivial
  rename_i L _ T' z' ms O;split at h<;>try trivial
  rename_i N;subst N;cases h;by_cases d:k=i;refine⟨c,f,by simp[d,jS],r.enters,?_⟩;have:(k==i)=true:=by simp[d]
  rw[this];exact a;obtain⟨_,M,E,G,H⟩:=qdn l A Q C t s O (B d);refine⟨c,M,?_,G,?_⟩;rw[<- E];have:(i==k)=false:=by rw[ubw];omega
  simp[this];have:(k==i)=false:=by rw[ubw];exact d
  rw[this];exact H
def qnq(e:io P Γ){x:AV}{args:List AV}{r:AV}{n:List Prop}(h:K6 Γ x args=U (r,n))(p:az n)(c:∀ b,F b->b<w.heap.size)(s:aK P w F R x vx)(o:bI P w F R args vs):∃ f a,vx=.func (.func f) #[] a/\(∀ args G,(callFunc f args).run P G=.ok (.enter f args) G) /\
   ∃ rs y,r=lq rs y/\Calls P f (vs.toArray++a) w (iB w F rs y):=by
 unfold K6 at h;split at h<;>try trivial
 rename_i f a;obtain⟨_,i,rfl,u,v⟩:=s;unfold SZ at h;split at h<;>try trivial
 rename_i t A;split at h<;>try trivial
 rename_i y N d;cases h;obtain⟨l,m⟩:=e.1 f t A;refine⟨f,i,rfl,l,t.rs,t.f y,rfl,?_⟩;have C:=pI e d (lj.1 p).1 (o.append (EZ (vs:=i.toList) (by simpa using u) (by simpa using v)));have:=m w F y (vs++i.toList) c C (lj.1 p).2;have K:(vs++i.toList).toArray=vs.toArray++i:=by simp
 rw[K]at this;exact this;rename_i L rs g;split at h<;>try trivial
 rename_i y d;cases h;have B:=s.2;obtain⟨f,a,rfl,l,m⟩:=B;exact⟨f,a,rfl,l,rs,g y,rfl,m w F (λb z=>⟨z,rfl⟩) c y vs (nY d o)⟩;rename_i L rs g D;split at h<;>try trivial
 rename_i y d;cases h;have B:=s.2;obtain⟨f,a,rfl,l,m⟩:=B;exact⟨f,a,rfl,l,rs,g y,rfl,m w F (λb z=>⟨z,rfl⟩) c y vs p (nY d o)⟩;rename_i M k;split at h<;>try trivial
 rename_i rs y O d;cases h;have E:=s.2;simp only[bx]at E;obtain⟨f,u,v,H⟩:=K5 e c o d p;rw[u]at E;exact⟨f,#[],E,v,rs,y,rfl,by simpa using H⟩
end
section
variable {P:Program} {B:Nat} {o:Oper} {a:Act} {w w':World} {F F':Nat->Prop} {γ γ':Nat->Value} {M m:aX} {R:Nat->Value->Prop} {Γ:Gm}
def dn{S:Sem Value}(b:execOp a.eval o=(do pure (.value (<- S)):Sem Next))(c:S.run P w=.ok u w'):(execOp a.eval o).run P w=.ok (.value u) w':=by rw[b];simp[c]
def zjj{p:Bool}{x y r:AV}(h:Cw p x y=U r)(a:p=Z->aK P w F R x u)(b:p=Y->aK P w F R y v):aK P w F R r (if p then u else v):=by
 unfold Cw at h;split at h<;>try trivial
 cases h;cases p;exact⟨(b rfl).1,(b rfl).2⟩;exact⟨(a rfl).1,(a rfl).2⟩;split at h<;>try trivial
 rename_i c;subst c;cases h;cases p;exact⟨(b rfl).1,(b rfl).2⟩;exact⟨(a rfl).1,(a rfl).2⟩
def Yf:{r:List AV} -> {x y:Int} -> {vs:List Value}->uK k x r=U y->inR k x->bI P w F R r vs->(vs.foldlM (m:=Sem) Builtin.min2 (.int k x)).run P w=.ok (.int k y) w/\inR k y
 |[],x,y,[],h,d,_=>by simp only[uK,ucl]at h;subst h;exact⟨by simp,d⟩
 |.c (.int l z)::r,x,y,v::vs,h,d,a=>by
  simp only[uK]at h;split at h<;>try trivial
  rename_i g;subst g;obtain⟨⟨_,rfl,i⟩,a⟩:=a;have b:inR k (if z<x then z else x):=by split<;>assumption
  obtain⟨e,f⟩:=Yf h b a;refine⟨?_,f⟩;simp[Builtin.min2,e]
 |[],_,_,_::_,_,_,a=>a.elim
 |_::_,_,_,[],_,_,a=>a.elim
 |.dead::_,_,_,_::_,h,_,_ | .agg _::_,_,_,_::_,h,_,_ | .tup _::_,_,_,_::_,h,_,_ | .optr _ _ _ _::_,_,_,_::_,h,_,_ | .aptr _ _ _::_,_,_,_::_,h,_,_ | .maybe _ _ _::_,_,_,_::_,h,_,_=>by simp[uK]at h
 |.c .dead::_,_,_,_::_,h,_,_ | .c (.bool _)::_,_,_,_::_,h,_,_ | .c (.str _)::_,_,_,_::_,h,_,_ | .c .nil::_,_,_,_::_,h,_,_ | .c (.sl _ _)::_,_,_,_::_,h,_,_
 |.c (.slx _ _)::_,_,_,_::_,h,_,_ | .c (.own _)::_,_,_,_::_,h,_,_ | .c (.ptr _ _)::_,_,_,_::_,h,_,_ | .c (.sptr _)::_,_,_,_::_,h,_,_ | .c (.fn _ _)::_,_,_,_::_,h,_,_ | .c (.fv _ _ _)::_,_,_,_::_,h,_,_ | .c (.pv _ _ _ _)::_,_,_,_::_,h,_,_ | .c (.mp _)::_,_,_,_::_,h,_,_ | .c (.fs _ _)::_,_,_,_::_,h,_,_=>by simp[uK]at h
def XZ:{r:List AV} -> {x y:Int} -> {vs:List Value}->uJ k x r=U y->inR k x->bI P w F R r vs->(vs.foldlM (m:=Sem) Builtin.max2 (.int k x)).run P w=.ok (.int k y) w/\inR k y
 |[],x,y,[],h,d,_=>by simp only[uJ,ucl]at h;subst h;exact⟨by simp,d⟩
 |.c (.int l z)::r,x,y,v::vs,h,d,a=>by
  simp only[uJ]at h;split at h<;>try trivial
  rename_i g;subst g;obtain⟨⟨_,rfl,i⟩,a⟩:=a;have b:inR k (if x<z then z else x):=by split<;>assumption
  obtain⟨e,f⟩:=XZ h b a;refine⟨?_,f⟩;simp[Builtin.max2,e]
 |[],_,_,_::_,_,_,a=>a.elim
 |_::_,_,_,[],_,_,a=>a.elim
 |.dead::_,_,_,_::_,h,_,_ | .agg _::_,_,_,_::_,h,_,_ | .tup _::_,_,_,_::_,h,_,_ | .optr _ _ _ _::_,_,_,_::_,h,_,_ | .aptr _ _ _::_,_,_,_::_,h,_,_ | .maybe _ _ _::_,_,_,_::_,h,_,_=>by simp[uJ]at h
 |.c .dead::_,_,_,_::_,h,_,_ | .c (.bool _)::_,_,_,_::_,h,_,_ | .c (.str _)::_,_,_,_::_,h,_,_ | .c .nil::_,_,_,_::_,h,_,_ | .c (.sl _ _)::_,_,_,_::_,h,_,_
 |.c (.slx _ _)::_,_,_,_::_,h,_,_ | .c (.own _)::_,_,_,_::_,h,_,_ | .c (.ptr _ _)::_,_,_,_::_,h,_,_ | .c (.sptr _)::_,_,_,_::_,h,_,_ | .c (.fn _ _)::_,_,_,_::_,h,_,_ | .c (.fv _ _ _)::_,_,_,_::_,h,_,_ | .c (.pv _ _ _ _)::_,_,_,_::_,h,_,_ | .c (.mp _)::_,_,_,_::_,h,_,_ | .c (.fs _ _)::_,_,_,_::_,h,_,_=>by simp[uJ]at h
def I2:{u:List (Nat×Ob)} -> {m M:aX}->(∀ i y,m i=U y->M i=U y)->∀ i y,aB m u i=U y->aB M u i=U y
 |[],_,_,h=>h
 |(id,c)::r,m,M,h=>I2 (u:=r) λi y a=>by by_cases b:i=id;subst b;rw[kX]at a |-;exact a;rw[gL _ _ b]at a |-;exact h i y a
def V3{id:Nat}{K:TypeId}{A a r:List AC}{u:List (Nat×Ob)}(D:MemOK P B w F γ M)(N:∀ b,F b->b<w.heap.size)(f:∀ i y,m i=U y->M i=U y)(s:m id=U (.box e A))(h:lB m A=U (a,u))(o:aB m u id=U (.box K r)):
  ∃ F' b,γ id=.pointer (U ⟨b,0,V⟩)/\F' b/\Step B w F γ M w F' γ (aB M (u++[(id,.fbox a)]))/\MemOK P B w F' γ (aB M (u++[(id,.fbox a)])) /\
   aS P w F' (av (aB M (u++[(id,.fbox a)])) γ) a (λj u=>w.cell? ⟨b,j,V⟩=U u):=by
 obtain⟨b,H,p,n,S,T,W,L⟩:=D.ob id _ (f _ _ s);obtain⟨l,G,E,t1,l1,Q⟩:=CR D N (dM.of f) h L;have k:=I2 f _ _ o;obtain⟨R,z,C,f2,f3,f4,f5,f6⟩:=E.ob id _ k;rw[p]at C;simp at C;have g:Step B w l γ (aB M u) w (λc=>l c\/c=b) γ (upd (aB M u) id (.fbox a)):=
  ⟨λc h=>.inl h,λ_ _=>rfl,qm k (by simp),λ_ _=>rfl,rfl,rfl,rfl,ufd _,λc h=>h.elim (G.bd c) (λh=>by subst h;exact(uaf.1 n).1),λc h=>h.elim .inl (λh=>.inr (by omega))⟩
 have d:aS P w (λc=>l c\/c=b) (av (upd (aB M u) id (.fbox a)) γ) a (λj u=>w.cell? ⟨b,j,V⟩=U u):=
  (g.repCL Q).turn λj v _ O=>by rw[xg n];exact O
 have t:MemOK P B w (λc=>l c\/c=b) γ (upd (aB M u) id (.fbox a)):=by refine E.change k (by simp) g.hF g.hw (λc h=>h.elim) (λc _ x=>⟨rfl,λh=>h.elim (λh=>h) (λh=>absurd ⟨_,p,h.symm⟩ x)⟩) ?_;exact⟨b,p,Or.inr rfl,d⟩
 refine⟨λc=>l c\/c=b,b,p,Or.inr rfl,?_,?_,?_⟩;rw[iP];exact G.trans g;rw[iP];exact t;rw[iP];exact d
def H7:{xs:List AV} -> {cs:List AC} -> {u:List (Nat×Ob)} -> {m M:aX} -> {F:Nat->Prop} -> {vs:List Value}->MemOK P B w F γ M->(∀ b,F b->b<w.heap.size)->(∀ i y,m i=U y->M i=U y)->zu m xs=U (cs,u)->bI P w F (av M γ) xs vs ->
  ∃ F',Step B w F γ M w F' γ (aB M u)/\MemOK P B w F' γ (aB M u)/\bI P w F' (av (aB M u) γ) (cs.map .c) vs
 |[],cs,u,m,M,F,[],o,s,l,h,a=>by obtain⟨rfl,rfl⟩:=h;exact⟨F,Step.refl s,o,uT⟩
 |x::r,cs,u,m,M,F,v::vs,o,s,l,h,a=>by
  unfold zu at h;split at h;rename_i f;cases f;rename_i id r' f;cases f;split at h<;>try trivial
  rename_i e H k;split at h<;>try trivial
  rename_i W u1 n;split at h<;>try trivial
  rename_i e2 cs2 t;split at h<;>try trivial
  rename_i y S A;cases h;obtain⟨T,b,K,L,g,Q,D⟩:=V3 o s l k n t;obtain⟨p,d,C,E⟩:=H7 Q g.bd (I2 l) A (DD g.hF g.hw g.hR a.2);obtain⟨_,R,G,rfl⟩:=a.1;have N:R=b:=by unfold av at G;rw[l _ _ k]at G;simp only[K,ubt,ucl,Addr.mk.injEq,and_true]at G;exact G
  subst N;rw[iP];refine⟨p,g.trans d,C,⟨rfl,⟨R,0,V⟩,rfl,d.hF _ L,d.repCL (D.turn λj u _ O=>?_)⟩,E⟩;rw[kq,uez];exact O;rename_i H k;split at h<;>try trivial
  rename_i y S A;cases h;obtain⟨b,K,L,D⟩:=L4 o (l _ _ k) a.1.2;obtain⟨p,d,C,E⟩:=H7 o s l A a.2;subst K;refine⟨p,d,C,⟨rfl,⟨b,0,V⟩,rfl,d.hF _ L,d.repCL (D.turn λj u _ O=>?_)⟩,E⟩;rw[kq,uez];exact O;rename_i c r' _ f;cases f;split at h<;>try trivial
  rename_i y u1 n;split at h<;>try trivial
  rename_i z S A;cases h;obtain⟨T,g,Q,t1,D⟩:=H6 o s (dM.of l) n a.1.2;obtain⟨p,d,C,E⟩:=H7 Q g.bd (I2 l) A (DD g.hF g.hw g.hR a.2);rw[iP];exact⟨p,g.trans d,C,⟨a.1.1,bx.mono d.hF d.hw d.hR _ D⟩,E⟩;cases h
 |[],_,_,_,_,_,_::_,_,_,_,_,a=>a.elim
 |_::_,_,_,_,_,_,[],_,_,_,_,a=>a.elim
def qnr{a:List AC}(h:bI P w F R (a.map .c) vs):vs.length=a.length/\aS P w F R a (λj u=>vs[j]?= U u):=by
 induction a generalizing vs with
 |nil=>cases vs with
  |nil=>exact⟨rfl,uT⟩
  |cons _ _=>exact h.elim
 |cons c r e=>cases vs with
  |nil=>exact h.elim
  |cons v vs=>obtain⟨b,d⟩:=e h.2;exact⟨by simp[b],⟨v,rfl,h.1.1,h.1.2⟩,by simpa using d⟩
def cy.take{t:Ty}{l:List t.q}(h:cy w F t l xs)(i:Nat):cy w F t (l.take i) (xs.take (i*t.size)):=by
 intro j x a;rw[ub2]at a;split at a;rename_i b;refine(h j x a).mono (λ_ h=>h) (λ_ _=>rfl) λm u d c=>?_;have:j*t.size+t.size<=i*t.size:=by rw[<- uey];exact ube _ b
 rw[ub2,uf0 (by omega)];exact c;cases a
def cy.drop{t:Ty}{l:List t.q}(h:cy w F t l xs)(i:Nat):cy w F t (l.drop i) (xs.drop (i*t.size)):=by intro j x a;rw[ub1]at a;refine(h (i+j) x a).mono (λ_ h=>h) (λ_ _=>rfl) λm u c b=>?_;rw[ub1,<- b,uff,uei]
def zl3{a:String}(h:GK P a ty=U f)(u:Value)(d:Array Value):(callMethod (.iface ty u) a d).run P w=(callFunc f (#[u]++d)).run P w:=by
 unfold GK at h
 split at h<;>try (cases h;done)
 rename_i i r m o
 split at h<;>try (cases h;done)
 rename_i p b
 split at h<;>try (cases h;done)
 rename_i g l
 split at h<;>try (cases h;done)
 rename_i n
 simp at h
 subst h
 have c:p.path = #[]:=by simpa using n
 have e:(method (P.types.size+Made.depth-1+1) ty u a).run P w=.ok (g,u) w:=by simp[method,typeInfo,m,b,c,l,follow,receiverAt,ud6 o,Place.get]
 have k:P.types.size+Made.depth-1+1=P.types.size+Made.depth:=by unfold Made.depth;omega
 rw[k]at e
 simp only[callMethod,ueu,run_program,ucm]
 rw[e]
 simp
def Nj{a:String}{k:Int}:{es b:List (Int×Nat)} -> {p:Int×Nat}->BQ P a es=U b->b.find? (λx=>x.1==k)=U p->∃ ty,dd es k=U ty/\GK P a ty=U p.2
 |[],b,p,h,c=>by simp only[BQ,ucl]at h;subst h;cases c
 |(m,ty)::es,b,p,h,c=>by
  simp only[BQ]at h;split at h<;>try trivial
  rename_i f e o r;cases h;cases d:(m==k);have g:e.find? (λx=>x.1==k)=U p:=by simpa[d]using c
  obtain⟨i,l,n⟩:=Nj r g;refine⟨i,?_,n⟩;unfold dd at l |-;simpa[d]using l;have s:(m,f)=p:=by simpa[d]using c
  subst s;exact⟨ty,by simp[dd,d],o⟩
def Tb{k:Int}{args:List AV}:{es:List (Int×Nat)} -> {rs:List Ty} -> {y:aa rs} -> {n:List Prop}->pC Γ k args es=U ⟨rs,y,n⟩->az n->∃ p,es.find? (λx=>x.1==k)=U p
 |[],_,_,_,h,_=>by simp[pC]at h
 |(i,f)::es,rs,y,n,h,c=>by
  by_cases a:k=i;exact⟨(i,f),by simp[a]⟩;have b:(i==k)=false:=by rw[ubw];omega
  simp only[pC]at h;split at h<;>try trivial
  split at h<;>try trivial
  split at h;injection h with h
  cases h;exact absurd (lk.1 c).1 a;split at h<;>try trivial
  rename_i e _ m s r l;split at h<;>try trivial
  cases h;obtain⟨o,d⟩:=lk.1 c;obtain⟨p,g⟩:=Tb l (d a);exact⟨p,by simpa[b]using g⟩
def qzq(h:BS P t=Z):∃ b,P.underlying t=U (.interface b):=by unfold BS at h;split at h;rename_i b a;exact⟨b,a⟩;cases h
def qzr{b:Array (String×TypeId)}(a:P.underlying t=U (.interface b)):(Op.equalIn (d+1) t (.iface ty u) .nilIface).run P w=.ok Y w:=by simp[Op.equalIn,ud6 a]
def qzs{b:Array (String×TypeId)}(a:P.underlying t=U (.interface b)):(Op.equalIn (d+1) t .nilIface .nilIface).run P w=.ok Z w:=by simp[Op.equalIn,ud6 a]
def Gn{a:List (Int×Nat)}{t:Ty}{x:Int×t.q}(h:bx P w F R (.ic a t x) v):(∃ ty u,dd a x.1=U ty/\v=.iface ty u/\bJ w F t x.2 u)\/(dd a x.1=V/\v=.nilIface):=by
 rcases h with ⟨ty,u,b,c,d,e,f⟩|⟨b,c⟩
 exact .inl ⟨ty,u,b,c.symm,d,e,f⟩;exact .inr ⟨b,c.symm⟩
def uR{d:Nat}{size:Nat}(h:w.ownsRow B e size v n xs)(f:∀ g,v.ownBlock=U g->d<=g):w.ownsRow d e size v n xs:=by refine⟨h.1,h.2.imp id ?_⟩;rintro⟨g,b,c,rfl,_,a⟩;exact⟨g,b,c,rfl,f g rfl,a⟩
def ziv{a:Nat}{h i:TypeId}{d f:Ty}{l:List d.q}{x:List f.q}(p:MemOK P B w F γ M)(c:a≠b)(k:M a=U (.arr h d l))(m:M b=U (.arr i f x)):
  ∀ g,(γ b).ownBlock=U g->(γ a).ownBlock≠U g:=λg o n=>p.apart b a _ _ g (λe=>c e.symm) m k (.inl o) (.inl n)
def zlu{r:Row}{args:List AV}{e:Eff}(C:DX P f r)(N:MemOK P B w F γ M)(hb:∀ b,F b->b<w.heap.size)(hB:B<=w.heap.size)(s:∀ i y,m i=U y->M i=U y)(hd:m d=V->M d=V)(h:OY r d args m=U e)(hn:az e.need)(hr:bI P w F (av M γ) args vs):
  (∀ as w,(callFunc f as).run P w=.ok (.enter f as) w)/\Calls P f vs.toArray w λen w'=>∃ u γ',en=.returned u/\Step B w F γ M w' F γ' (aB M e.wr)/\MemOK P B w' F γ' (aB M e.wr)/\aK P w' F (av (aB M e.wr) γ') e.v u:=by
 unfold OY at h;split at h<;>try trivial
 rename_i e0 T D a H;split at h<;>try trivial
 rename_i t1 l hl;split at h<;>try trivial
 rename_i h1;subst h1;split at h<;>try trivial
 rename_i n;cases h
 match vs,hr with
 |[v1],⟨⟨_,L⟩,_⟩=>obtain⟨A,c,O,rfl,hc,hA,S,W,hxc⟩:=X9 N s hl L;refine⟨C.enters,(C.calls w l.length c A O hc (λe=>by rw[hA e];rfl) S hxc (CO W S) hn.1 hn.2).mono λen w2 hp=>?_⟩;obtain⟨v',rfl,p,k⟩:=hp;have E:=λb z=>p.block b (hb b z) (by simp);have R:=uR k λg hg=>ueq hB (k.lt g hg).1;obtain⟨s1,m1⟩:=yv N hb hB (hd H) p R (λg hg=>(k.lt g hg).1) (cy.mono (λ_ h=>h) E W) n;exact⟨v',_,rfl,s1,m1,o7 (nj k)⟩
 rename_i e0 T D a i b H;split at h<;>try trivial
 rename_i e1 t1 l e2 o x hma hmb;split at h<;>try trivial
 rename_i h1;subst h1;split at h<;>try trivial
 rename_i h2;subst h2;split at h<;>try trivial
 rename_i he;obtain⟨n,rfl,rfl,hab⟩:=he;cases h;obtain⟨⟨h0,h0'⟩,hm1,h63,hby⟩:=hn
 match vs,hr with
 |[v1,v2,v3],⟨⟨_,L⟩,⟨_,hv2⟩,⟨_,hv3⟩,_⟩=>
  have t:=s _ _ hma;have G:=s _ _ hmb;have g1:=fV t (by simp) L;have g3:=fV G (by simp) hv3;have g2:=hv2.1;subst g1 g3 g2;obtain⟨j,rfl⟩:∃ j:Nat,i=j:=⟨i.toNat,by omega⟩;obtain⟨O,q1,q2,q3,q4⟩:=iT.of (N.ob a _ t) n;obtain⟨ns,r1,r2,r3,r4⟩:=iT.of (N.ob b _ G) n;have r1':=r1;rw[hm1]at r1';refine⟨C.enters,(C.calls w B l.length j (γ a) (γ b) O ns hB q1 r1' (ziv N hab t G) (by omega) q4 r4 h63 hby).mono λen w2 hp=>?_⟩;obtain⟨v',rfl,p,k,hbl⟩:=hp;have E:=λb z=>p.block b (hb b z) (λhe=>q2 b he.symm z);have K:cy w2 F o (je (j:Int) (cY rfl l) (cY rfl x)) (O.take (j*o.size)++ns++O.drop (j*o.size)):=by
   have hc:je (j:Int) (cY (rfl:o=o) l) (cY (rfl:o=o) x)=l.take j++x++l.drop j:=rfl;rw[hc];have n:(O.take (j*o.size)).length=(l.take j).length*o.size:=by rw[uc6,uc6,q1.1,udq (show j<=l.length by omega),udq (ube _ (show j<=l.length by omega))]
   refine cy.mono (λ_ h=>h) E (cy.append (cy.append (q3.take j) n r3) ?_ (q3.drop j));rw[ub6,ub6,n,r1.1,uff]
  have Q:(je (j:Int) (cY (rfl:o=o) l) (cY (rfl:o=o) x)).length=l.length+1:=by show(l.take j++x++l.drop j).length=_;simp;omega
  rw[<- Q]at k;obtain⟨s1,m1⟩:=GM N hb hB t (hd H) p k (hbl.elim .inl (λh=>.inr (.inl h))) K n n;exact⟨v',_,rfl,s1,m1,o7 (nj k)⟩
end
section
variable {P:Program} {B:Nat} {o:Oper} {a:Act} {w w':World} {F F':Nat->Prop} {γ γ':Nat->Value} {M m:aX} {R:Nat->Value->Prop} {Γ:Gm}
def Ty.atom:Ty->Bool
 |.unit | .pair _ _=>Y
 |_=>Z
def rn{t:Ty}(a:t.atom=Z){b:List AC}{x:t.q}{r:List AC}(h:dec t b=U (x,r)):∃ c,b=c::r/\dec t [c]=U (x,[]):=by
 cases t with
 |unit=>cases a
 |pair _ _=>cases a
 |int k=>
  simp only[dec,rk]at h |-;split at h<;>try trivial
  split at h<;>try trivial
  cases h;exact⟨_,rfl,by simp[*]⟩
 |bool=>
  simp only[dec,rj]at h |-;split at h<;>try trivial
  cases h;exact⟨_,rfl,by simp⟩
 |str=>
  simp only[dec,rm]at h |-;split at h<;>try trivial
  cases h;exact⟨_,rfl,by simp⟩
 |sl e=>
  simp only[dec,rl]at h |-;split at h<;>try trivial
  split at h<;>try trivial
  rename_i a;subst a;cases h;exact⟨_,rfl,by simp⟩;split at h<;>try trivial
  rename_i a;subst a;cases h;exact⟨_,rfl,by simp⟩;cases h;exact⟨_,rfl,by simp⟩
 |fm d=>
  simp only[dec,tQ]at h |-;split at h<;>try trivial
  split at h<;>try trivial
  cases h;exact⟨_,rfl,by simp[*]⟩
 |ic d t=>
  simp only[dec,tP]at h |-;split at h<;>try trivial
  split at h<;>try trivial
  rename_i a;subst a;split at h<;>try trivial
  cases h;exact⟨_,rfl,by simp[*]⟩
 |fc f=>
  simp only[dec,tO]at h |-;split at h<;>try trivial
  split at h<;>try trivial
  cases h;exact⟨_,rfl,by simp[*]⟩;split at h<;>try trivial
  cases h;exact⟨_,rfl,by simp[*]⟩
def qrv{t:Ty}(a:t.atom=Z)(x:t.q):∃ c,enc t x=[c]:=by
 cases t with
 |unit=>cases a
 |pair _ _=>cases a
 |fc f=>cases f<;>exact⟨_,rfl⟩
 |_=>exact⟨_,rfl⟩
def ro:(t:Ty) -> {cs:List AC} -> {x:t.q} -> {r:List AC}->dec t cs=U (x,r)->∀ (k:Nat) (c:AC),(enc t x)[k]?= U c->∃ (b:AC) (d:Ty) (g:d.q),cs[k]?= U b/\d.atom=Z/\dec d [b]=U (g,[])/\enc d g=[c]
 |.unit,_,_,_,_,k,c,a=>by simp[enc]at a
 |.pair t u,cs,x,r,h,k,c,a=>by
  simp only[dec]at h;split at h<;>try trivial
  rename_i g v m;split at h<;>try trivial
  rename_i B A n;cases h;have D:=mN t m;rcases uer k (enc t g).length with o|o
  simp only[enc]at a;rw[uaj o]at a;exact ro t m k c a;simp only[enc]at a;rw[uae o]at a;obtain⟨b,d,y,p,w⟩:=ro u n _ c a;refine⟨b,d,y,?_,w⟩;rw[gV]at p o;have z:v=cs.drop t.size:=dec_drop t m;rw[z,ub1]at p;rw[<- p];congr 1;omega
 |.int i,cs,x,r,h,k,c,a=>atomCase (t:=.int i) rfl h a
 |.bool,cs,x,r,h,k,c,a=>atomCase (t:=.bool) rfl h a
 |.str,cs,x,r,h,k,c,a=>atomCase (t:=.str) rfl h a
 |.sl e,cs,x,r,h,k,c,a=>atomCase (t:=.sl e) rfl h a
 |.fm l,cs,x,r,h,k,c,a=>atomCase (t:=.fm l) rfl h a
 |.ic l t,cs,x,r,h,k,c,a=>atomCase (t:=.ic l t) rfl h a
 |.fc f,cs,x,r,h,k,c,a=>atomCase (t:=.fc f) rfl h a
where
 atomCase {t:Ty} (s:t.atom=Z) {cs:List AC} {x:t.q} {r:List AC} (h:dec t cs=U (x,r)) {k:Nat} {c:AC} (a:(enc t x)[k]?= U c):∃ (b:AC) (d:Ty) (g:d.q),cs[k]?= U b/\d.atom=Z/\dec d [b]=U (g,[])/\enc d g=[c]:=by
  obtain⟨b,rfl,m⟩:=rn s h;obtain⟨C,n⟩:=qrv s x;rw[n]at a;cases k with
  |zero=>simp at a;subst a;exact⟨b,t,x,rfl,s,m,n⟩
  |succ k=>simp at a
 dec_drop:(t:Ty) -> {cs:List AC} -> {x:t.q} -> {r:List AC}->dec t cs=U (x,r)->r=cs.drop t.size
  |.unit,_,_,_,h=>by simp only[dec,ucl,ueh]at h;simp[Ty.size,h.2]
  |.pair t u,cs,x,r,h=>by
   simp only[dec]at h;split at h<;>try trivial
   rename_i g v m;split at h<;>try trivial
   rename_i B A n;cases h;rw[dec_drop u n,dec_drop t m,List.drop_drop];rfl
  |.int i,cs,x,r,h=>by obtain⟨b,rfl,_⟩:=rn (t:=.int i) rfl h;rfl
  |.bool,cs,x,r,h=>by obtain⟨b,rfl,_⟩:=rn (t:=.bool) rfl h;rfl
  |.str,cs,x,r,h=>by obtain⟨b,rfl,_⟩:=rn (t:=.str) rfl h;rfl
  |.sl e,cs,x,r,h=>by obtain⟨b,rfl,_⟩:=rn (t:=.sl e) rfl h;rfl
  |.fm l,cs,x,r,h=>by obtain⟨b,rfl,_⟩:=rn (t:=.fm l) rfl h;rfl
  |.ic l t,cs,x,r,h=>by obtain⟨b,rfl,_⟩:=rn (t:=.ic l t) rfl h;rfl
  |.fc f,cs,x,r,h=>by obtain⟨b,rfl,_⟩:=rn (t:=.fc f) rfl h;rfl
def TN{a b:Ty}{l:List b.q}{d:a.q}(c:a.atom=Z)(h:dec a [.sl b l]=U (d,[])):enc a d=[.sl b l]:=by
 cases a with
 |sl e=>
  simp only[dec,rl]at h;split at h<;>try trivial
  rename_i i;subst i;cases h;rfl
 |unit=>cases c
 |pair _ _=>cases c
 |int k=>simp[dec,rk]at h
 |bool=>simp[dec,rj]at h
 |str=>simp[dec,rm]at h
 |fm g=>simp[dec,tQ]at h
 |ic g t=>simp[dec,tP]at h
 |fc f=>simp[dec,tO]at h
def qqe{a:Ty}{c:a.q}(b:a.atom=Z)(h:dec a [.nil]=U (c,[])):∃ g,enc a c=[.sl g []]:=by
 cases a with
 |sl e=>simp only[dec,rl]at h;cases h;exact⟨e,rfl⟩
 |unit=>cases b
 |pair _ _=>cases b
 |int k=>simp[dec,rk]at h
 |bool=>simp[dec,rj]at h
 |str=>simp[dec,rm]at h
 |fm d=>simp[dec,tQ]at h
 |ic d t=>simp[dec,tP]at h
 |fc f=>simp[dec,tO]at h
def J1{a:Ty}{b:a.q}{d c:AC}(h:dec a [d]=U (b,[]))(i:enc a b=[c])(k:u.oneCell'=Z)(l:bx P w F R d u):bx P w F (λ_ _=>False) c u:=by have f:aG w F a b (λj v=>j=0/\v=u):=(aG.dec (P:=P) (R:=R) a h ⟨⟨u,⟨rfl,rfl⟩,k,l⟩,uT⟩).1;have e:=aG.enc (P:=P) (R:=λ_ _=>False) a b f;rw[i]at e;obtain⟨⟨m,⟨_,rfl⟩,_,g⟩,_⟩:=e;exact g
def I1(a:List Nat)(d:Nat)(O:Ob)(M:aX)(i:Nat):aB M (a.map (λk=>(k,Ob.gone))++[(d,O)]) i=if i=d then U O else if i∈a then U .gone else M i:=by
 rw[iP];show upd _ d O i=_;unfold upd;by_cases c:i=d;simp[c];simp only[uf1 c]
 induction a generalizing M with
 |nil=>simp[aB]
 |cons k a e=>simp only[uel,aB];rw[e];by_cases b:i∈a;simp[b];simp only[uf1 b,uej,b,or_false];unfold upd;rfl
def MemOK.mk_(h:MemOK P B w F γ M)(c:List Nat){O:Ob}(Q:M d=V)(G:∀ k∈c,∃ o,M k=U o)(hO:O ≠ .gone)(z:∀ b,F b->b<w.heap.size)(hB:B<=w.heap.size)(R:∀ b,F b->w'.heap[b]?= w.heap[b]?)(H:w'.os=w.os)(L:w'.tape=w.tape)(t:w'.output=w.output)(x:w.heap.size<=w'.heap.size)(l:∀ b,b<w.heap.size->(∀ k o,k∈c->M k=U o->¬ cg w o (γ k) b)->w'.heap[b]?= w.heap[b]?)(s:iA P B w' F (λ_ _=>False) v O)(D:∀ b,cg w' O v b->(∃ k o,k∈c/\M k=U o/\cg w o (γ k) b)\/w.heap.size<=b):
  Step B w F γ M w' F (dG γ d v) (aB M (c.map (λk=>(k,Ob.gone))++[(d,O)]))/\MemOK P B w' F (dG γ d v) (aB M (c.map (λk=>(k,Ob.gone))++[(d,O)])):=by
 have hdk:d ∉ c:=λn=>by obtain⟨o,r⟩:=G d n;rw[Q]at r;cases r
 have N:∀ i u,av M γ i u->av (aB M (c.map (λk=>(k,Ob.gone))++[(d,O)])) (dG γ d v) i u:=λi u y=>by unfold av at y |-;rw[I1];by_cases a:i=d;subst a;rw[Q]at y;exact y.elim;rw[uf1 a];by_cases n:i∈c;simp[n];rw[uf1 n,ga _ _ a];exact y
 refine⟨⟨λ_ h=>h,R,N,λb f=>?_,H,L,t,x,λb f=>ucb (z b f) x,λ_ h=>.inl h⟩,?_⟩;exact l b (by omega) λk o n r m=>by have:=(jN (h.ob k o r) m).2.2;omega
 have g:∀ i o,(i∈c\/i=d)->aB M (c.map (λk=>(k,Ob.gone))++[(d,O)]) i=U o->(i=d/\o=O)\/(i≠d/\o=.gone):=λi o p a=>by rw[I1]at a;by_cases m:i=d;rw[uf0 m]at a;exact .inl ⟨m,(ud4 a).symm⟩;rw[uf1 m,uf0 (p.resolve_right m)]at a;exact .inr ⟨m,(ud4 a).symm⟩
 refine h.re (λi=>i∈c\/i=d) (λi a=>?_) (λi a=>ga _ _ (λe=>a (.inr e))) R N (λb f hn=>l b f λk o n r=>hn k o (.inl n) r) ?_ ?_ ?_;rw[I1,uf1 (λe=>a (.inr e)),uf1 (λe=>a (.inl e))];intro i o p a;rcases g i o p a with ⟨rfl,rfl⟩|⟨_,rfl⟩
 rw[ig];exact s.keep (λ_ h=>h) (λ_ _=>rfl) (λ_ _ h=>h.elim) (λb f=>⟨rfl,(jN (γ:=λ_=>v) (id:=0) s f).2.1⟩);trivial;intro i o b p a f;rcases g i o p a with ⟨rfl,rfl⟩|⟨_,rfl⟩
 rw[ig]at f;exact(D b f).imp (λ⟨k,o,S,T,W⟩=>⟨k,o,.inl S,T,W⟩) (λh=>h);exact f.elim;intro i j oi oj b p K E a hj A C;rcases g i oi p a with ⟨rfl,rfl⟩|⟨_,rfl⟩
 rcases g j oj K hj with ⟨rfl,rfl⟩|⟨_,rfl⟩
 exact E rfl;exact C;exact A
def Cu{O:Ob}(e:List Nat)(b:O ≠ .gone)(a:v.oneCell'=Z):aK P w F (av (aB M (e.map (λk=>(k,Ob.gone))++[(d,O)])) (dG γ d v)) (.c (.own d)) v:=by refine⟨a,?_⟩;simp only[bx];unfold av;rw[I1,uf0 rfl,ig];cases O<;>first|rfl|exact absurd rfl b
def qa0{e a:Nat}(h:Pl e off a=Z):vC (fJ e off a)=e/\da (fJ e off a)=off/\mz (fJ e off a)=a/\cJ<=fJ e off a/\fJ e off a<fh/\a<cJ:=ucx h
def zl6{d o:Ty}{l:List o.q}{n:List AC}{x:d.q}(a:dec d (n.set off (.sl o l))=U (x,[]))(h:off<n.length)(B:aS P w F R n g):
  (enc d x)[off]?= U (.sl o l)/\∀ (k:Nat) c,(enc d x)[k]?= U c->k≠off->∃ u,g k u/\bx P w F (λ_ _=>False) c u:=by
 have A:=mN d a;have b:off<(enc d x).length:=by rw[gV];simp at A;omega
 refine⟨?_,λk c y z=>?_⟩;obtain⟨r,C,D,f,p,m,i⟩:=ro d a off _ (uaq b);rw[ua0 h]at f;cases f;have:=TN p m;rw[this]at i;rw[uaq b];exact ufy U (List.cons.inj i).1.symm;obtain⟨r,C,D,f,p,m,i⟩:=ro d a k c y;rw[ubi (λe=>z e.symm)]at f;obtain⟨u,s,t,v⟩:=B.at_ f;exact⟨u,s,J1 m i t v⟩
def qzy{a:Nat}{r:Ty}{c:AC}{l:List r.q}{u:List (Nat×Ob)}(K:MemOK P B w F γ M)(f:∀ i y,m i=U y->M i=U y)(h:Nq m a r c=U (l,u))(H:a<cJ)(z:bx P w F (av M γ) c v):
  ∃ (t:List Nat) (g:List Value),u=t.map (λk=>(k,Ob.gone))/\(∀ k∈t,∃ o,M k=U o)/\w.ownsRow B a r.size v l.length g/\cy w F r l g/\(∀ y∈g,y.oneCell'=Z)/\∀ b,v.ownBlock=U b->¬ F b/\∃ k o,k∈t/\M k=U o/\cg w o (γ k) b:=by
 unfold Nq at h;split at h<;>try trivial
 cases h;obtain rfl:v=.slice V 0 0:=z;exact⟨[],[],rfl,λk s=>by simp at s,ucs _ _ _ _,λi x O=>by simp at O,λy Q=>by simp at Q,λb p=>by simp[Value.ownBlock]at p⟩;rename_i k;split at h<;>try trivial
 rename_i e T S s;split at h<;>try trivial
 rename_i L;subst L;split at h<;>try trivial
 rename_i G;subst G;cases h;have n:=f _ _ s;have N:=fV n (by simp) z;subst N;obtain⟨g,A,C,D,E⟩:=iT.of (K.ob k _ n) H;exact⟨[k],g,rfl,λR d=>by simp at d;subst d;exact⟨_,n⟩,A,D,E,λb p=>⟨C b p,k,_,by simp,n,.inl p⟩⟩
def qeb{i:TypeInfo}(h:(i.zero.any λz=>z.cells.size==n)=Z):∃ z,i.zero=U z/\z.cells.size=n:=by
 cases a:i.zero with
 |none=>simp[a]at h
 |some z=>exact⟨z,rfl,by simpa[a]using h⟩
def zlz{i:TypeInfo}{z:Value}(s:P.underlying t=U (.slice el))(d:P.info? el=U i)(u:i.zero=U z)(B:v.cells.size=i.size)(h:i.size<=16777216)(k:0<i.size):
  (Instr.buildSlice t 1 #[(0,v)]).run P w=.ok (.slice (U ⟨w.heap.size,0,V⟩) 1 1) (w.alloc (.cells v.cells el)):=by
 have f:(zeroValue el).run P w=.ok z w:=by simp[zeroValue,typeInfo,d,u]
 have c:P.cellsOf el=i.size:=by simp[Program.cellsOf,d]
 have o:¬ (16777216<i.size):=by omega
 have e:¬ (i.size=0):=by omega
 have p:∀ a:Array Value,a.size=i.size->Instr.fill (λj=>U (j*i.size,i.size)) a [(0,v)]=U v.cells:=by
  intro a A;obtain⟨y,l⟩:=Mp v.cells.toList 0 0 a;have g:v.cells.zipIdx.foldl (λb (x:Value×Nat)=>b.setIfInBounds (0*i.size+x.2) x.1) a=(v.cells.toList.zipIdx 0).foldl (λb (x:Value×Nat)=>b.setIfInBounds (0+x.2) x.1) a:=by rw[<- Array.foldl_toList,Array.toList_zipIdx,Nat.zero_mul]
  simp only[Instr.fill];rw[uf1 (by simp;omega)];show U _=U _;congr 1;refine Eq.trans g (uci λj=>?_);rw[l j];by_cases r:j<v.cells.size;simp[r];omega;have m:v.cells[j]?= none:=by simp;omega
  have n:a[j]?= none:=by simp;omega
  simp[m,n]
 simp only[Instr.buildSlice,ueu,ud6 s,ucm,jj d,c];simp[e,o,f,p _ _,newRow,newObj,Sem.run]
def CW{e:Nat}{a:Ty}{l:List a.q}(h:RwOK P B w F v e a l K xs)(m:innB w e a.size l.length K v b):
  ∃ i u,i<l.length/\¬ K i/\xs[i*a.size+da e]?= U u/\u.ownBlock=U b:=by
 obtain⟨i,u,d,f,g,k⟩:=m;obtain⟨_,_,n,_,_,c,_⟩:=h.inn i _ (uaq d) f;obtain rfl:=WD h.own c g;exact⟨i,u,d,f,c,k⟩
def qmc{x:AV}{e:Eff}(hm:MemOK P B w F γ M)(C:∀ b,F b->b<w.heap.size)(hB:B<=w.heap.size)(L:∀ i y,m i=U y->M i=U y)(hd:m d=V->M d=V)(ht:P.underlying t=U (.slice el))(h:JI P Γ d el x m=U e)(hx:aK P w F (av M γ) x v):
  ∃ u w' γ',(Instr.buildSlice t 1 #[(0,v)]).run P w=.ok u w'/\Step B w F γ M w' F γ' (aB M e.wr)/\MemOK P B w' F γ' (aB M e.wr)/\aK P w' F (av (aB M e.wr) γ') e.v u:=by
 unfold JI at h;split at h<;>try trivial
 rename_i o Q tt i cs s htt W T hmd;split at h<;>try trivial
 rename_i t' c ht' hc;split at h<;>try trivial
 rename_i l u hin;split at h<;>try trivial
 rename_i y p;split at h<;>try trivial
 rename_i r;obtain⟨A,hs,hpos,D,hz⟩:=r;obtain⟨z,hz,hzs⟩:=qeb hz;obtain⟨r1,R,r3,r4,r5,r6⟩:=qa0 A;cases h;obtain⟨c1,c2,c3⟩:=rf T hx;have H:o<cs.length:=(uak.1 hc).1;have E:=mN tt p;simp at E;obtain⟨p1,p2⟩:=zl6 p H c2;obtain⟨S,q1,q2,q3⟩:=c2.at_ hc;obtain⟨ks,ys,rfl,k1,k2,k3,k4,k5⟩:=qzy hm L hin r6 q3;have K:=zlz (w:=w) ht W hz (v:=v) (by omega) D (by omega);have f:∀ b,b<w.heap.size->(w.alloc (.cells v.cells el)).heap[b]?= w.heap[b]? := λb h=>udc _ _ _ h;have N:∀ b,S.ownBlock=U b->b<w.heap.size:=λb a=>(k2.lt b a).2;have s:RwOK P B (w.alloc (.cells v.cells el)) F (.slice (U ⟨w.heap.size,0,V⟩) 1 1) (fJ el o Q) tt [y] (λ_=>False) v.cells.toList:=by
  refine⟨⟨by simp;omega,.inr ⟨w.heap.size,1,_,rfl,hB,by rw[r1];exact ud8 w _,ufd _,by decide,by omega,by rw[ua3 (by simp;omega)]⟩⟩,λg hg hF=>?_,λu hu=>c3 u (ubh.1 hu),?_,?_,?_⟩;simp[Value.ownBlock]at hg;have:=C g hF;omega;intro j x' k c' n hk G;cases j with
  |succ j=>simp at n
  |zero=>simp at n;subst n;rw[R]at G;obtain⟨u',e1,e2⟩:=p2 k c' hk G;exact⟨u',by simpa using e1,bx.mono (λ_ h=>h) (λb a=>f b (C b a)) (λ_ _ h=>h) c' e2⟩
  intro j x' n _;cases j with
  |succ j=>simp at n
  |zero=>simp at n;subst n;refine⟨t',l,S,ys,by rw[R];exact p1,by rw[R];simpa using q1,by rw[r3];exact rS k2 (λb a=>f b (N b a)),k3.mono (λ_ h=>h) (λb a=>f b (C b a)),k4,λb a=>⟨λhe=>?_,(k5 b a).1⟩⟩;simp[Value.ownBlock]at he;have:=N b a;omega
  intro i j S uj b W n _ _ hij;simp at W n;omega
 obtain⟨s1,s2⟩:=hm.mk_ ks (O:=.arr (fJ el o Q) tt [y]) (v:=.slice (U ⟨w.heap.size,0,V⟩) 1 1) (hd hmd) k1 (by simp) C hB (λb a=>f b (C b a)) rfl rfl rfl (by simp) (λb a _=>f b a) (.inr (.inl ⟨r4,r5,_,s⟩)) (by
  intro b a;rcases a with a|⟨_,a⟩|a
  simp[Value.ownBlock]at a;exact .inr (by omega);obtain⟨i,u,h1,_,h2,h3⟩:=CW s a;have hi0:i=0:=by simpa using h1
  subst hi0;rw[R]at h2;have:S=u:=by
   have h4:v.cells[o]?= U u:=by simpa using h2
   rw[q1]at h4;exact ud4 h4
  subst this;exact .inl (k5 b h3).2;cases a)
 exact⟨_,_,_,K,s1,s2,Cu ks (by simp) rfl⟩
def zga{n c:Int}{kn kc:IntKind}{e:Eff}(hm:MemOK P B w F γ M)(hb:∀ b,F b->b<w.heap.size)(hB:B<=w.heap.size)(hd:m d=V->M d=V)(h:NK P Γ d t n c m=U e)(hn:az e.need):
  ∃ u w' γ',(Instr.makeSlice t (.int kn n) (.int kc c)).run P w=.ok u w'/\Step B w F γ M w' F γ' (aB M e.wr)/\MemOK P B w' F γ' (aB M e.wr)/\aK P w' F (av (aB M e.wr) γ') e.v u:=by
 unfold NK at h;split at h<;>try trivial
 rename_i S ht;split at h<;>try trivial
 rename_i f inn i o hrw0 hi htt hmd;split at h<;>try trivial
 rename_i z hz;split at h<;>try trivial
 rename_i cs hcs;split at h<;>try trivial
 rename_i x C D;split at h<;>try trivial
 rename_i K;obtain⟨T,N,hs2,hs3⟩:=K;obtain⟨r1,r2,r3,r4,r5,r6⟩:=qa0 T;cases h;obtain⟨n1,n2,n3,n4⟩:=hn;obtain⟨z1,z2,z3⟩:=rf hcs (wC (P:=P) (w:=w) (F:=F) (R:=av M γ) z);have hr:=run_make w t S i z ht hi hz kn kc n c n1 n2 (by rw[ue2];omega) (by simp only[maxLen]at n3;omega);have hcn:c.toNat<=maxLen:=by omega
 have A:∀ k,k<c.toNat*i.size->(madeCells z.cells (c.toNat*i.size))[k]?= z.cells[k%z.cells.size]? := by
  intro k p;have hpos:0<z.cells.size:=by omega
  have H:=ufl k hpos;have hg:z.cells[k%z.cells.size]! = z.cells[k%z.cells.size]:=by simp[H]
  simp[madeCells,p,hg]
 have E:∀ b,b<w.heap.size->(w.alloc (.cells (madeCells z.cells (c.toNat*i.size)) S)).heap[b]?= w.heap[b]? := λb h=>udc _ _ _ h;have l:(Lrp n.toNat x).length=n.toNat:=by simp
 have hdl:=mN o C;have s:f<o.size:=by have:=(uak.1 D).1;simp at hdl;omega
 have G:∀ k j,k<n.toNat->j<o.size->((madeCells z.cells (c.toNat*i.size)).toList.take (n.toNat*o.size))[k*o.size+j]?= z.cells[j]? := λk j p hj=>by
  have hkb:k*o.size+o.size<=n.toNat*o.size:=by rw[<- uey];exact ube _ p
  have hnc:n.toNat*o.size<=c.toNat*i.size:=by rw[N];exact ube _ (by omega)
  rw[ub2,uf0 (by omega),ua5,A _ (by omega),hs2];rw[show(k*o.size+j)%o.size=j from by rw[uex,Nat.mul_add_mod];exact Nat.mod_eq_of_lt hj]
 have hx:∀ k y,(Lrp n.toNat x)[k]?= U y->k<n.toNat/\y=x:=λk y p=>by have r:=(uak.1 p);exact⟨by simpa using r.1,by have:=r.2;simpa using this.symm⟩
 have Q:z.cells[f]?= U (.slice V 0 0):=by obtain⟨u,e1,_,e3⟩:=z2.at_ D;have e4:u=.slice V 0 0:=e3;rw[e4]at e1;exact e1
 have hxi:∃ t',(enc o x)[f]?= U (.sl t' []):=by
  have ho':f<(enc o x).length:=by rw[gV];exact s
  obtain⟨c0,t1,x1,a1,a2,a3,a4⟩:=ro o C f _ (uaq ho');rw[D]at a1;cases a1;obtain⟨t',r⟩:=qqe a2 a3;rw[r]at a4;refine⟨t',?_⟩;rw[uaq ho'];exact ufy U (List.cons.inj a4).1.symm
 have hrw:RwOK P B (w.alloc (.cells (madeCells z.cells (c.toNat*i.size)) S)) F (.slice (U ⟨w.heap.size,0,V⟩) n.toNat c.toNat) (fJ S f inn) o (Lrp n.toNat x) (λ_=>False) ((madeCells z.cells (c.toNat*i.size)).toList.take (n.toNat*o.size)):=by
  refine⟨⟨?_,.inr ⟨w.heap.size,c.toNat,_,by rw[l],hB,by rw[r1];exact ud8 w _,by rw[l];omega,hcn,by rw[size_madeCells,N],by rw[l]⟩⟩,λg hg hF=>?_,λu hu=>?_,?_,?_,?_⟩;rw[uc6,ubu,size_madeCells,l];have:n.toNat*o.size<=c.toNat*i.size:=by rw[N];exact ube _ (by omega)
  omega;simp[Value.ownBlock]at hg;have:=hb g hF;omega;have hu':=ubq hu;obtain⟨k,p,rfl⟩:=List.getElem_of_mem hu';have hk':k<c.toNat*i.size:=by simpa[size_madeCells]using p
  have r:=A k hk';have H:k%z.cells.size<z.cells.size:=ufl k (by omega);rw[uam (by simpa using p),uam H]at r;have h2:=ud4 r;rw[Array.getElem_toList,h2];exact z3 _ (Array.getElem_mem H);intro k y j c' p W hne;obtain⟨L,rfl⟩:=hx k y p;have hj:j<o.size:=by have:=(uak.1 W).1;rw[gV]at this;exact this
  obtain⟨c0,t1,x1,a1,a2,a3,a4⟩:=ro o C j c' W;obtain⟨u,e1,e2,e3⟩:=z2.at_ a1;exact⟨u,by rw[G k j L hj];exact e1,bx.mono (λ_ h=>h) (λb a=>E b (hb b a)) (λ_ _ h=>h) c' (J1 a3 a4 e2 e3)⟩;intro k y p _;obtain⟨L,rfl⟩:=hx k y p;obtain⟨t',r⟩:=hxi;exact⟨t',[],.slice V 0 0,[],by rw[r2];exact r,by rw[r2,G k f L s];exact Q,ucs _ _ _ _,λi x hx=>by simp at hx,λy hy=>by simp at hy,λb a=>by simp[Value.ownBlock]at a⟩;intro k j ui uj b p hj _ _ _ r _ h3;rw[l]at p;rw[r2,G k f p s,Q]at r;cases r;simp[Value.ownBlock]at h3
 obtain⟨s1,s2⟩:=hm.mk_ [] (O:=.arr (fJ S f inn) o (Lrp n.toNat x)) (v:=.slice (U ⟨w.heap.size,0,V⟩) n.toNat c.toNat) (hd hmd) (λk p=>by simp at p) (by simp) hb hB (λb a=>E b (hb b a)) rfl rfl rfl (by simp) (λb a _=>E b a) (.inr (.inl ⟨r4,r5,_,hrw⟩)) (by
  intro b a;rcases a with a|⟨_,a⟩|a
  simp[Value.ownBlock]at a;exact .inr (by omega);obtain⟨k,u,r,_,h2,h3⟩:=CW hrw a;rw[l]at r;rw[r2,G k f r s,Q]at h2;cases h2;simp[Value.ownBlock]at h3;cases a)
 exact⟨_,_,_,hr,s1,s2,Cu [] (by simp) rfl⟩
def zl7{e:Nat}{tt:Ty}:RwOK P B w F (.slice V 0 0) e tt [] (λ_=>False) []:=
 ⟨by simpa using ucs w B (vC e) tt.size,λg d=>by simp[Value.ownBlock]at d,λu h=>by simp at h,λi x k c a=>by simp at a,λi x a=>by simp at a,λi j l m b f=>absurd f (Nat.not_lt_zero i)⟩
def qlq{sz:Nat}{a c:List α}{k:Nat}(h:a.length=n*sz)(b:i<n)(d:k<sz):(a++c)[i*sz+k]?= a[i*sz+k]? := by
 have:i*sz+sz<=n*sz:=by rw[<- uey];exact ube _ b
 rw[uaj (by omega)]
def qlr{sz:Nat}{a b:List α}{k:Nat}(h:a.length=n*sz)(c:n<=i):(a++b)[i*sz+k]?= b[(i-n)*sz+k]? := by
 have:n*sz+(i-n)*sz=i*sz:=by rw[<- uff];congr 1;omega
 rw[uae (by omega)];congr 1;omega
def qa2{vs v':Value}{e:Nat}{tt:Ty}{l o:List tt.q}{M:List Value}(z:RwOK P B w F vs e tt l (λ_=>False) xs)(K:RwOK P B w F vx e tt o (λ_=>False) M)(hb:∀ b,F b->b<w.heap.size)(hg:w.grownBy w' vs.ownBlock)(hown:w'.ownsRow B (vC e) tt.size v' (l.length+o.length) (xs++M))(hv:v'.ownBlock=vs.ownBlock\/v'.ownBlock=U w.heap.size)(R:∀ b,vs.ownBlock=U b\/innB w e tt.size l.length (λ_=>False) vs b->¬ (vx.ownBlock=U b\/innB w e tt.size o.length (λ_=>False) vx b)):
  RwOK P B w' F v' e tt (l++o) (λ_=>False) (xs++M)/\∀ b,innB w' e tt.size (l++o).length (λ_=>False) v' b->innB w e tt.size l.length (λ_=>False) vs b\/innB w e tt.size o.length (λ_=>False) vx b:=by
 have h1:=z.own.1;have hF:∀ b,F b->w'.heap[b]?= w.heap[b]? := λb a=>hg.block b (hb b a) (λH=>z.nf b H.symm a);have y:∀ b,b<w.heap.size->vs.ownBlock≠U b->w'.heap[b]?= w.heap[b]? /\ v'.ownBlock≠U b:=λb hlt hne=>⟨hg.block b hlt (λH=>hne H.symm),λH=>hv.elim (λh=>hne (h ▸ H)) (λh=>by rw[h]at H;simp at H;omega)⟩
 have T:∀ (x:tt.q) k c,(enc tt x)[k]?= U c->k<tt.size:=λx k c hc=>by have:=(uak.1 hc).1;rw[gV]at this;exact this
 have n:∀ i,i<(l++o).length->(∃ x,i<l.length/\l[i]?= U x/\(l++o)[i]?= U x/\∀ k,k<tt.size->(xs++M)[i*tt.size+k]?= xs[i*tt.size+k]?) \/
   (∃ x,l.length<=i/\o[i-l.length]?= U x/\(l++o)[i]?= U x/\∀ k,(xs++M)[i*tt.size+k]?= M[(i-l.length)*tt.size+k]?):=λi d=>by
  rcases uer i l.length with h|h
  exact .inl ⟨_,h,uaq h,by rw[uaj h,uaq h],λk hk=>qlq h1 h hk⟩;rw[ub6]at d;exact .inr ⟨_,h,uaq (by omega),by rw[uae h,uaq (by omega)],λk=>qlr h1 h⟩
 have m:∀ i x u,(l++o)[i]?= U x->(∃ r p,(enc tt x)[da e]?= U (.sl r p))->(xs++M)[i*tt.size+da e]?= U u->(i<l.length/\xs[i*tt.size+da e]?= U u)\/(l.length<=i/\M[(i-l.length)*tt.size+da e]?= U u):=λi x u d W N=>by
  obtain⟨r,p,W⟩:=W;rcases n i (uak.1 d).1 with ⟨A,D,_,_,s⟩|⟨A,D,_,_,s⟩
  exact .inl ⟨D,by rw[<- s _ (T _ _ _ W)];exact N⟩;exact .inr ⟨D,by rw[<- s];exact N⟩
 have hR:RwOK P B w' F v' e tt (l++o) (λ_=>False) (xs++M):=by
  refine⟨by rw[ub6];exact hown,λg S hF'=>?_,λu N=>?_,?_,?_,?_⟩;rcases hv with h|h
  exact z.nf g (h ▸ S) hF';rw[h]at S;simp at S;have:=hb g hF';omega;rcases udt.1 N with N|N
  exact z.one u N;exact K.one u N;intro i x k c d hc hk;rcases n i (uak.1 d).1 with ⟨A,D,t,f,s⟩|⟨A,D,t,f,s⟩
  rw[d]at f;cases f;obtain⟨u,e1,e2⟩:=z.cells i x k c t hc hk;exact⟨u,by rw[s k (T _ _ _ hc)];exact e1,bx.mono (λ_ h=>h) hF (λ_ _ h=>h) c e2⟩;rw[d]at f;cases f;obtain⟨u,e1,e2⟩:=K.cells _ x k c t hc hk;exact⟨u,by rw[s k];exact e1,bx.mono (λ_ h=>h) hF (λ_ _ h=>h) c e2⟩;intro i x d _;rcases n i (uak.1 d).1 with ⟨A,D,t,f,s⟩|⟨A,D,t,f,s⟩
  rw[d]at f;cases f;obtain⟨r,p,u,zs,C,O,b3,b4,b5,b6⟩:=z.inn i x t (λh=>h);have v:=λb a=>y b (b3.lt b a).2 (b6 b a).1;exact⟨r,p,u,zs,C,by rw[s _ (T _ _ _ C)];exact O,rS b3 (λb a=>(v b a).1),b4.mono (λ_ h=>h) hF,b5,λb a=>⟨(v b a).2,(b6 b a).2⟩⟩;rw[d]at f;cases f;obtain⟨r,p,u,zs,C,O,b3,b4,b5,b6⟩:=K.inn _ x t (λh=>h);have v:=λb (a:u.ownBlock=U b)=>y b (b3.lt b a).2 (λH=>R b (.inl H) (.inr (K.innB (uak.1 t).1 (λh=>h) O a)));exact⟨r,p,u,zs,C,by rw[s];exact O,rS b3 (λb a=>(v b a).1),b4.mono (λ_ h=>h) hF,b5,λb a=>⟨(v b a).2,(b6 b a).2⟩⟩;intro i j ui uj b d hj _ _ hij hui huj E G;have hsl:∀ i,i<(l++o).length->∃ x,(l++o)[i]?= U x/\∃ r p,(enc tt x)[da e]?= U (.sl r p):=λi d=>by
   rcases n i d with ⟨A,D,t,f,s⟩|⟨A,D,t,f,s⟩
   obtain⟨r,p,_,_,C,_⟩:=z.inn i A t (λh=>h);exact⟨A,f,r,p,C⟩;obtain⟨r,p,_,_,C,_⟩:=K.inn _ A t (λh=>h);exact⟨A,f,r,p,C⟩
  obtain⟨xi,c1,c2⟩:=hsl i d;obtain⟨xj,d1,d2⟩:=hsl j hj;rw[ub6]at d hj;rcases m i xi ui c1 c2 hui with ⟨p1,L⟩|⟨p1,L⟩
  rcases m j xj uj d1 d2 huj with ⟨q1,q2⟩|⟨q1,q2⟩
  exact z.disj i j ui uj b p1 q1 (λh=>h) (λh=>h) hij L q2 E G;exact R b (.inr (z.innB p1 (λh=>h) L E)) (.inr (K.innB (by omega) (λh=>h) q2 G));rcases m j xj uj d1 d2 huj with ⟨q1,q2⟩|⟨q1,q2⟩
  exact R b (.inr (z.innB q1 (λh=>h) q2 G)) (.inr (K.innB (by omega) (λh=>h) L E));exact K.disj _ _ ui uj b (by omega) (by omega) (λh=>h) (λh=>h) (by omega) L q2 E G
 refine⟨hR,λb a=>?_⟩;obtain⟨i,u,Q,_,h2,h3⟩:=CW hR a;obtain⟨r,p,u',_,C,O,_⟩:=hR.inn i _ (uaq Q) (λh=>h);rw[h2]at O;cases O;rw[ub6]at Q;rcases m i _ u (uaq (by rw[ub6];exact Q)) ⟨r,p,C⟩ h2 with ⟨p1,L⟩|⟨p1,L⟩
 exact .inl (z.innB p1 (λh=>h) L h3);exact .inr (K.innB (by omega) (λh=>h) L h3)
def RwOK.of{e:Nat}{t:Ty}{l:List t.q}(h:iA P B w F R v (.arr e t l))(a:cJ<=e)(b:e<fh):∃ xs,RwOK P B w F v e t l (λ_=>False) xs:=by
 rcases h with ⟨k,_⟩|⟨_,_,h⟩|⟨k,_⟩
 exact absurd k (Nat.not_lt.2 a);exact h;exact absurd b (Nat.not_lt.2 k)
def qlf{k:Nat}{s:AV}{e:Eff}{vs:Value}(hm:MemOK P B w F γ M)(hb:∀ b,F b->b<w.heap.size)(hB:B<=w.heap.size)(hsub:∀ i y,m i=some y->M i=some y)(hd:m d=none->M d=none)(h:Jy P d t s k m=some e)(hn:az e.need)(hs:aK P w F (av M γ) s vs)(hx:aK P w F (av M γ) (.c (.own k)) vx):
  ∃ u w' γ',(Builtin.append_ #[t,t] ty #[vs,vx]).run P w=.ok u w'/\Step B w F γ M w' F γ' (aB M e.wr)/\MemOK P B w' F γ' (aB M e.wr)/\aK P w' F (av (aB M e.wr) γ') e.v u:=by
 unfold Jy at h;split at h<;>try trivial
 rename_i el ht;split at h<;>try trivial
 rename_i i e2 tt l2 hi hk hmd;split at h<;>try trivial
 rename_i hcond;obtain⟨r1,r2,r3,hsz1,hsz2,hz0⟩:=hcond;obtain⟨z,hz,hzs⟩:=qeb hz0;have hMk:=hsub _ _ hk;have hvx:=fV hMk (by simp) hx.2;subst hvx;obtain⟨ys,hy⟩:=RwOK.of (hm.ob k _ hMk) r1 r2;obtain⟨A,cap,hvk,hAn,hcell⟩:∃ A cap,γ k=.slice A l2.length cap/\(A=none->l2.length=0)/\∀ ad,A=some ad->∀ (j:Nat) u,ys[j]?= some u->w.cell? (ad.add j)=some u:=by
  rcases hy.own.2 with ⟨h3,h4⟩|⟨g,cap,cur,h3,_⟩
  exact⟨none,0,by rw[h3,h4],λ_=>h4,λad he=>by cases he⟩;refine⟨_,_,h3,(λh=>by cases h),λad he=>?_⟩;cases he;exact hy.own.cells (by rw[h3];rfl)
 split at h<;>try trivial
 cases h;obtain⟨_,rfl⟩:=hs;obtain⟨v',w',e1,e2',e3,e4⟩:=tk t ty el i z tt.size ht hi hz hsz1 hzs hsz2 (.slice none 0 0) 0 [] (ucs w B el tt.size) A l2.length cap ys hAn hy.own.1 hcell hy.one (by have:=hn.1;omega) (by have:=hn.2;simpa using this) hB;obtain⟨p1,p2⟩:=qa2 (zl7 (e:=e2) (tt:=tt)) hy hb e3 (by rw[r3];simpa using e2') e4 (λb hb'=>by
  rcases hb' with hb'|⟨_,_,hb',_⟩
  simp[Value.ownBlock]at hb';exact absurd hb' (Nat.not_lt_zero _))
 rw[udn,udn]at p1;rw[udn]at p2;have hold:∀ b,b<w.heap.size->w'.heap[b]?= w.heap[b]? := λb h=>e3.block b h (by simp[Value.ownBlock]);obtain⟨s1,s2⟩:=hm.mk_ [k] (O:=.arr e2 tt l2) (v:=v') (hd hmd) (λk' hk'=>by simp at hk';subst hk';exact⟨_,hMk⟩) (by simp) hb hB (λb hb'=>hold b (hb b hb')) e3.os e3.tape e3.output e3.size (λb hb' _=>hold b hb') (.inr (.inl ⟨r1,r2,_,p1⟩)) (by
  intro b hb';rcases hb' with hb'|⟨_,hb'⟩|hb'
  rcases e4 with h|h
  rw[h]at hb';simp[Value.ownBlock]at hb';rw[h]at hb';simp at hb';exact .inr (by omega);rcases p2 b hb' with ⟨_,_,h0,_⟩|h0
  exact absurd h0 (Nat.not_lt_zero _);exact .inl ⟨k,_,by simp,hMk,.inr (.inl ⟨r1,h0⟩)⟩;exact absurd hb' (qg p1.own b))
 rw[<- hvk]at e1;exact⟨v',w',_,e1,s1,s2,Cu [k] (by simp) (nj p1.own)⟩;rename_i id;split at h<;>try trivial
 rename_i e3' u0 l hid;split at h<;>try trivial
 rename_i hu;subst hu;split at h<;>try trivial
 rename_i hc;obtain⟨rfl,hne⟩:=hc;cases h;have hMi:=hsub _ _ hid;have hv:=fV hMi (by simp) hs.2;subst hv;obtain⟨xs,hxs⟩:=RwOK.of (hm.ob id _ hMi) r1 r2;have hown:=hxs.own;rw[r3]at hown;obtain⟨v',w',e1,e2',e3,e4⟩:=tk t ty el i z u0.size ht hi hz hsz1 hzs hsz2 (γ id) l.length xs hown A l2.length cap ys hAn hy.own.1 hcell hy.one hn.1 hn.2 hB;obtain⟨p1,p2⟩:=qa2 hxs hy hb e3 (by rw[r3];exact e2') e4 (λb hb1 hb2=>hm.apart id k _ _ b hne hMi hMk (hb1.imp id_ (λh=>.inl ⟨r1,h⟩)) (hb2.imp id_ (λh=>.inl ⟨r1,h⟩)));have hold:∀ b,b<w.heap.size->(γ id).ownBlock≠some b->w'.heap[b]?= w.heap[b]? := λb h hne=>e3.block b h (λhe=>hne he.symm);obtain⟨s1,s2⟩:=hm.mk_ [id,k] (O:=.arr e3' u0 (l++l2)) (v:=v') (hd hmd) (λk' hk'=>by
   simp at hk';rcases hk' with rfl|rfl
   exact⟨_,hMi⟩;exact⟨_,hMk⟩) (by simp) hb hB (λb hb'=>hold b (hb b hb') (λhe=>hxs.nf b he hb')) e3.os e3.tape e3.output e3.size (λb hb' hno=>hold b hb' (λhe=>hno id _ (by simp) hMi (.inl he))) (.inr (.inl ⟨r1,r2,_,p1⟩)) (by
  intro b hb';rcases hb' with hb'|⟨_,hb'⟩|hb'
  rcases e4 with h|h
  exact .inl ⟨id,_,by simp,hMi,.inl (h ▸ hb')⟩;rw[h]at hb';simp at hb';exact .inr (by omega);rcases p2 b hb' with h0|h0
  exact .inl ⟨id,_,by simp,hMi,.inr (.inl ⟨r1,h0⟩)⟩;exact .inl ⟨k,_,by simp,hMk,.inr (.inl ⟨r1,h0⟩)⟩;exact absurd hb' (qg p1.own b))
 rw[<- hvk]at e1;exact⟨v',w',_,e1,s1,s2,Cu [id,k] (by simp) (nj p1.own)⟩
where
 id_ {α:Prop} (h:α):α:=h
def zcv{id sz:Nat}{e:Eff}(hm:MemOK P B w F γ M)(hb:∀ b,F b->b<w.heap.size)(hsub:∀ i y,m i=U y->M i=U y)(hd:m d=V->M d=V)(h:ND P d t id sz i off m=U e)(hn:az e.need)(hx:aK P w F (av M γ) (.optr id sz i off) v):
  ∃ u γ',(Instr.loadAt t v).run P w=.ok u w/\Step B w F γ M w F γ' (aB M e.wr)/\MemOK P B w F γ' (aB M e.wr)/\aK P w F (av (aB M e.wr) γ') e.v u:=by
 unfold ND at h;split at h<;>try trivial
 rename_i p N l hid hmd;split at h<;>try trivial
 rename_i S R hli;split at h<;>try trivial
 rename_i hc;obtain⟨r1,r2,rfl,rfl,r3,hw,hi1,hi2⟩:=hc;cases h;have H:i<l.length:=hn;have r:=hsub _ _ hid;have T:=hd hmd;have K:d≠id:=by rintro rfl;rw[T]at r;cases r
 obtain⟨xs,g⟩:=RwOK.of (hm.ob id _ r) r1 r2;have hgd:l.getD i N.j=l[i]:=by rw[uah,uaq H];rfl
 rw[hgd]at hli;obtain⟨t'',li',u,ys,a1,a2,a3,a4,a5,a6⟩:=g.inn i _ (uaq H) (λh=>h);rw[hli]at a1;cases a1;obtain⟨A,n,c,g1,rfl⟩:=hx;have g2 : .slice (U A) n c=γ id:=by unfold av at g1;rw[r]at g1;exact g1
 obtain⟨A',n',c',g3,g4⟩:=uv g.own a2;rw[<- g2]at g3;cases g3;obtain⟨ds,hds⟩:=uar.1 hi2;refine⟨u,dG γ d u,?_,?_⟩;simp[Instr.loadAt,Instr.sureAddr,loadVar,CV hds,hw,Sem.run,g4];have D:∀ j,aB M [(id,Ob.hole p N l i),(d,.arr (mz p) S R)] j=if j=d then U (.arr (mz p) S R)else if j=id then U (.hole p N l i)else M j:=λj=>by simp only[aB,upd]
 have hR:∀ j Q,av M γ j Q->av (aB M [(id,Ob.hole p N l i),(d,.arr (mz p) S R)]) (dG γ d u) j Q:=λj Q f=>by unfold av at f |-;rw[D];by_cases C:j=d;subst C;rw[T]at f;exact f.elim;rw[uf1 C];by_cases h2:j=id;subst h2;rw[r]at f;rw[uf0 rfl,ga _ _ C];exact f;rw[uf1 h2,ga _ _ C];exact f
 have s:∀ j o,(j=id\/j=d)->aB M [(id,Ob.hole p N l i),(d,.arr (mz p) S R)] j=U o->(j=d/\o=.arr (mz p) S R)\/(j=id/\o=.hole p N l i):=λj o L f=>by rw[D]at f;by_cases C:j=d;rw[uf0 C]at f;exact .inl ⟨C,(ud4 f).symm⟩;rw[uf1 C,uf0 (L.resolve_right C)]at f;exact .inr ⟨L.resolve_right C,(ud4 f).symm⟩
 have z:RwOK P B w F (γ id) p N l (· = i) xs:=⟨g.own,g.nf,g.one,g.cells,λj x f _=>g.inn j x f (λh=>h),λj k uj uk b f hk _ _=>g.disj j k uj uk b f hk (λh=>h) (λh=>h)⟩;have hnm:∀ b,u ≠ .map (U b):=qg a3;have O:∀ b,cg w (.arr (mz p) S R) u b->u.ownBlock=U b:=λb a=>(oa r3 hnm).1 a;refine⟨⟨λ_ h=>h,λ_ _=>rfl,hR,λ_ _=>rfl,rfl,rfl,rfl,ufd _,hb,λ_ h=>.inl h⟩,hm.re (λj=>j=id\/j=d) (λj f=>?_) (λj f=>ga _ _ (λe=>f (.inr e))) (λ_ _=>rfl) hR (λ_ _ _=>rfl) ?_ ?_ ?_,?_⟩;show aB M _ j=M j;rw[D,uf1 (λe=>f (.inr e)),uf1 (λe=>f (.inl e))];intro j o L f;rcases s j o L f with ⟨rfl,rfl⟩|⟨rfl,rfl⟩
 rw[ig];exact .inl ⟨r3,ys,a3,λb a=>(a6 b a).2,a4,a5⟩;rw[ga _ _ K.symm];exact⟨r1,r2,xs,z⟩;intro j o b L f a;refine .inl ⟨id,_,.inl rfl,r,?_⟩;rcases s j o L f with ⟨rfl,rfl⟩|⟨rfl,rfl⟩
 rw[ig]at a;exact .inr (.inl ⟨r1,g.innB H (λh=>h) a2 (O b a)⟩);rw[ga _ _ K.symm]at a;rcases a with a|⟨j,Q,q1,_,q3⟩
 exact .inl a;exact .inr (.inl ⟨r1,j,Q,q1,λh=>h,q3⟩);have key:∀ b,u.ownBlock=U b->¬ cg w (.hole p N l i) (γ id) b:=λb hub a=>by
  rcases a with a|a
  exact(a6 b hub).1 a;obtain⟨j,Q,q1,q2,q3,q4⟩:=CW z a;exact g.disj j i Q u b q1 H (λh=>h) (λh=>h) q2 q3 a2 q4 hub
 intro j k oj ok b L hs' W f hk E G;rcases s j oj L f with ⟨rfl,rfl⟩|⟨rfl,rfl⟩
 rcases s k ok hs' hk with ⟨rfl,rfl⟩|⟨rfl,rfl⟩
 exact W rfl;rw[ig]at E;rw[ga _ _ K.symm]at G;exact key b (O b E) G;rcases s k ok hs' hk with ⟨rfl,rfl⟩|⟨rfl,rfl⟩
 rw[ig]at G;rw[ga _ _ K.symm]at E;exact key b (O b G) E;exact W rfl;refine⟨nj a3,?_⟩;simp only[bx];unfold av;rw[D,uf0 rfl,ig]
def ziz{sz j:Nat}(h:w.ownsRow B e sz v n xs)(r:j<n*sz):
  ∃ b arr a,v=.slice (U ⟨b,0,V⟩) n a/\w.heap[b]?= U (.cells arr e (0,0))/\B<=b/\j+1<=arr.size/\∀ u,(w.setRow b (dg arr j [u])).ownsRow B e sz v n (xs.set j u):=by
 obtain⟨t,⟨_,rfl⟩|⟨b,a,c,rfl,o,p,g,l,m,y⟩⟩:=h;simp at r;have x:n*sz<=a*sz:=ube _ g;have s:j + [Value.nilFunc].length<=c.size:=by simp;omega
 refine⟨b,c,a,rfl,p,o,by omega,λu=>?_⟩;have f:j + [u].length<=c.size:=by simp;omega
 refine⟨by simp[t],.inr ⟨b,a,_,rfl,o,ufg w b c _ e (0,0) p,g,l,by rw[Cs f];exact m,?_⟩⟩;rw[<- y];refine List.ext_getElem? λk=>?_;rw[ub2,List.getElem?_set];by_cases i:k<n*sz;rw[uf0 i,ua5];by_cases d:j=k;subst d;rw[uf0 rfl,uf0 (by simp;omega)];have:=Cr f (j:=0) (by simp);simpa using this;rw[uf1 d,uQ f (by simp;omega),ub2,uf0 i,ua5];rw[uf1 i];by_cases d:j=k;omega;rw[uf1 d,ub2,uf1 i]
def zox{id sz k:Nat}{e:Eff}{vk:Value}(hm:MemOK P B w F γ M)(hb:∀ b,F b->b<w.heap.size)(hsub:∀ i y,m i=U y->M i=U y)(h:P9 P t id sz i off k m=U e)(hn:az e.need)(hx:aK P w F (av M γ) (.optr id sz i off) v)(hk:aK P w F (av M γ) (.c (.own k)) vk):
  e.v=.dead/\∃ w',(Instr.storeAt t v vk).run P w=.ok () w'/\Step B w F γ M w' F γ (aB M e.wr)/\MemOK P B w' F γ (aB M e.wr):=by
 unfold P9 at h;split at h<;>try trivial
 rename_i C a l j e2 t2 l2 hid hmk;split at h<;>try trivial
 rename_i t' ht';split at h<;>try trivial
 rename_i g;obtain⟨rfl,rfl,r3,rfl,rfl,hi1,hcell,hne⟩:=g;split at h<;>try trivial
 rename_i y K;cases h;obtain⟨hil,rfl⟩:i<l.length/\i=j:=hn;have G:=hsub _ _ hid;have hMk:=hsub _ _ hmk;obtain⟨r1,r2,xs,r⟩:=hm.ob id _ G;have hvk:=fV hMk (by simp) hk.2;subst hvk;obtain⟨zs,z1,z2,z3,z4⟩:=iT.of (hm.ob k _ hMk) r3;have N:(γ k).oneCell'=true:=nj z1;have hcl:(γ k).cells = #[γ k]:=by cases E:γ k<;>first|rfl|(rw[E]at N;simp[Value.oneCell']at N)
 have hgd:l.getD i a.j=l[i]:=by rw[uah,uaq hil];rfl
 rw[hgd]at K;have hlen:=mN a K;have z:da C<a.size:=by
  unfold Pr at ht';split at ht'<;>try trivial
  rename_i E;have:=(uak.1 E).1;rw[gV]at this;exact this
 have hpos:i*a.size+da C<l.length*a.size:=by
  have:i*a.size+a.size<=l.length*a.size:=by rw[<- uey];exact ube _ hil
  omega
 obtain⟨b,R,cap,hv,hh,hBb,hja,hset⟩:=ziz r.own hpos;obtain⟨A,n,c,g1,rfl⟩:=hx;have g2 : .slice (U A) n c=γ id:=by unfold av at g1;rw[G]at g1;exact g1
 rw[hv]at g2;cases g2;have hbo:(γ id).ownBlock=U b:=by rw[hv];rfl
 obtain⟨ti,hti⟩:=uar.1 hi1;have hrun:(Instr.storeAt t (.pointer (U ((⟨b,0,V⟩:Addr).add (i*a.size+da C)))) (γ k)).run P w=.ok () (w.setRow b (dg R (i*a.size+da C) [γ k])):=by rw[kq,uez];have:=HA (P:=P) (v:=γ k) hh hti (by rw[hcl];exact hcell.symm) (by rw[hcl];simpa using hja) (λu hu=>by rw[hcl]at hu;simp at hu;rw[hu];exact N);rw[hcl]at this;exact this
 have hnF:¬ F b:=r.nf b hbo;have L:∀ c,c≠b->(w.setRow b (dg R (i*a.size+da C) [γ k])).heap[c]?= w.heap[c]? := λc g=>ue1 w b c _ g;have hM':∀ j,aB M [(k,Ob.gone),(id,.arr C a (l.set i y))] j=if j=id then U (.arr C a (l.set i y))else if j=k then U .gone else M j:=λj=>by simp only[aB,upd]
 have hR:∀ j u',av M γ j u'->av (aB M [(k,Ob.gone),(id,.arr C a (l.set i y))]) γ j u':=λj u' s=>by unfold av at s |-;rw[hM'];by_cases f:j=id;subst f;rw[G]at s;rw[uf0 rfl];exact s;rw[uf1 f];by_cases S:j=k;subst S;rw[uf0 rfl];trivial;rw[uf1 S];exact s
 have H:∀ c,(γ k).ownBlock=U c->¬ cg w (.hole C a l i) (γ id) c:=λc g hc'=>hm.apart k id _ _ c (λe=>hne e.symm) hMk G (.inl g) hc';have hFk:∀ c,F c->(w.setRow b (dg R (i*a.size+da C) [γ k])).heap[c]?= w.heap[c]? := λc g=>L c (λe=>hnF (e ▸ g));have hst:Step B w F γ M (w.setRow b (dg R (i*a.size+da C) [γ k])) F γ (aB M [(k,Ob.gone),(id,.arr C a (l.set i y))]):=P6 hb hnF hBb hR;have d:∀ (j q:Nat),j≠i->q<a.size->(xs.set (i*a.size+da C) (γ k))[j*a.size+q]?= xs[j*a.size+q]? := λj q s E=>by
  refine ubi λhe=>?_;rcases uer j i with f|f
  have:j*a.size+a.size<=i*a.size:=by rw[<- uey];exact ube _ f
  omega;have:i*a.size+a.size<=j*a.size:=by rw[<- uey];exact ube _ (by omega)
  omega
 have hsame:∀ q,q≠da C->(xs.set (i*a.size+da C) (γ k))[i*a.size+q]?= xs[i*a.size+q]? := λq E=>ubi (by omega);have D:(xs.set (i*a.size+da C) (γ k))[i*a.size+da C]?= U (γ k):=ua0 (by rw[r.own.1];exact hpos);have hsz:∀ (x:a.q) q c,(enc a x)[q]?= U c->q<a.size:=λx q c g=>by have:=(uak.1 g).1;rw[gV]at this;exact this
 have hoffc:da C<(enc a l[i]).length:=by rw[gV];exact z
 have hyo:(enc a y)[da C]?= U (.sl t' l2):=by obtain⟨c0,t1,x1,a1,a2,a3,a4⟩:=ro a K (da C) _ (uaq (by rw[gV];exact z));rw[ua0 hoffc]at a1;cases a1;rw[TN a2 a3]at a4;rw[uaq (by rw[gV];exact z)];exact ufy U (List.cons.inj a4).1.symm
 have hrow:∀ j x,(l.set i y)[j]?= U x->(j=i/\x=y)\/(j≠i/\l[j]?= U x):=λj x s=>by by_cases f:j=i;subst f;rw[ua0 hil]at s;exact .inl ⟨rfl,(ud4 s).symm⟩;rw[ubi (λe=>f e.symm)]at s;exact .inr ⟨f,s⟩
 have hinb:∀ j x,j≠i->l[j]?= U x->∀ u c,xs[j*a.size+da C]?= U u->u.ownBlock=U c->c≠b:=λj x s hx u c hu g he=>by obtain⟨_,_,u',_,_,b2,_,_,_,b6⟩:=r.inn j x hx s;rw[hu]at b2;cases b2;exact(b6 c g).1 (he ▸ hbo)
 have hkb:∀ c,(γ k).ownBlock=U c->c≠b:=λc g he=>H c g (.inl (he ▸ hbo));have hR2:RwOK P B (w.setRow b (dg R (i*a.size+da C) [γ k])) F (γ id) C a (l.set i y) (λ_=>False) (xs.set (i*a.size+da C) (γ k)):=by
  refine⟨by rw[udp];exact hset (γ k),r.nf,λu hu=>?_,?_,?_,?_⟩;rcases uap hu with f|f
  exact r.one u f;rw[f];exact N;intro j x q c s g E;rcases hrow j x s with ⟨rfl,rfl⟩|⟨f,S⟩
  obtain⟨c0,t1,x1,a1,a2,a3,a4⟩:=ro a K q c g;rw[ubi (λe=>E e.symm)]at a1;obtain⟨u,b1,b2⟩:=r.cells j _ q c0 (uaq hil) a1 E;exact⟨u,by rw[hsame q E];exact b1,bx.mono (λ_ h=>h) hFk (λ_ _ h=>h) c (J1 a3 a4 (r.one u (ubg b1)) b2)⟩;obtain⟨u,b1,b2⟩:=r.cells j x q c S g E;exact⟨u,by rw[d j q f (hsz _ _ _ g)];exact b1,bx.mono (λ_ h=>h) hFk (λ_ _ h=>h) c b2⟩;intro j x s _;rcases hrow j x s with ⟨rfl,rfl⟩|⟨f,S⟩
  exact⟨t',l2,γ k,zs,hyo,D,rS z1 (λc g=>L c (hkb c g)),z3.mono (λ_ h=>h) hFk,z4,λc g=>⟨λhe=>H c g (.inl he),z2 c g⟩⟩;obtain⟨tq,li,u,ys,b1,b2,b3,b4,b5,b6⟩:=r.inn j x S f;exact⟨tq,li,u,ys,b1,by rw[d j _ f z];exact b2,rS b3 (λc g=>L c (hinb j x f S u c b2 g)),b4.mono (λ_ h=>h) hFk,b5,b6⟩;intro p q up uq c hp E _ _ hpq O Q T W;rw[udp]at hp E;by_cases f:p=i;subst f;rw[D]at O;cases O;rw[d q _ (λe=>hpq e.symm) z]at Q;exact H c T (.inr ⟨q,uq,E,λe=>hpq e.symm,uv r.own Q,W⟩);by_cases S:q=i;subst S;rw[D]at Q;cases Q;rw[d p _ f z]at O;exact H c W (.inr ⟨p,up,hp,f,uv r.own O,T⟩);rw[d p _ f z]at O;rw[d q _ S z]at Q;exact r.disj p q up uq c hp E f S hpq O Q T W
 have hat:∀ j o,(j=id\/j=k)->aB M [(k,Ob.gone),(id,.arr C a (l.set i y))] j=U o->(j=id/\o=.arr C a (l.set i y))\/(j≠id/\o=.gone):=λj o hs s=>by rw[hM']at s;by_cases f:j=id;rw[uf0 f]at s;exact .inl ⟨f,(ud4 s).symm⟩;rw[uf1 f,uf0 (hs.resolve_left f)]at s;exact .inr ⟨f,(ud4 s).symm⟩
 refine⟨rfl,_,hrun,hst,hm.re (λj=>j=id\/j=k) (λj s=>?_) (λ_ _=>rfl) hst.hw hR (λc _ hno=>L c (λhe=>hno id _ (.inl rfl) G (.inl (he ▸ hbo)))) ?_ ?_ ?_⟩;show aB M _ j=M j;rw[hM',uf1 (λe=>s (.inl e)),uf1 (λe=>s (.inr e))];intro j o hs s;rcases hat j o hs s with ⟨rfl,rfl⟩|⟨_,rfl⟩
 exact .inr (.inl ⟨r1,r2,_,hR2⟩);trivial;intro j o c hs s g;rcases hat j o hs s with ⟨rfl,rfl⟩|⟨_,rfl⟩
 refine .inl ?_;rcases g with g|⟨_,g⟩|g
 exact⟨j,_,.inl rfl,G,.inl g⟩;obtain⟨p,u,q1,_,q3,q4⟩:=CW hR2 g;rw[udp]at q1;by_cases f:p=i;subst f;rw[D]at q3;cases q3;exact⟨k,_,.inr rfl,hMk,.inl q4⟩;rw[d p _ f z]at q3;exact⟨j,_,.inl rfl,G,.inr ⟨p,u,q1,f,uv r.own q3,q4⟩⟩;exact absurd g (qg r.own c);exact g.elim;intro p q op oq c hs hs' hpq hp E T W;rcases hat p op hs hp with ⟨rfl,rfl⟩|⟨_,rfl⟩
 rcases hat q oq hs' E with ⟨rfl,rfl⟩|⟨_,rfl⟩
 exact hpq rfl;exact W;exact T
def Fc{a:TypeId}(c:P.underlying a=U (.int .i64))(b:Bool)(d:Nat)(n:Int):(Instr.checkKey b (d+1) a (.int .i64 n)).run P w=.ok () w:=by simp[Instr.checkKey,ud6 c]
def Mm{n:Int}:(es:List MapEntry)->(l:List (Int×α))->(i:Nat)->es.length=l.length->(∀ (j:Nat) (e:MapEntry) (x:Int×α),es[j]?= U e->l[j]?= U x->e.key=.int .i64 x.1) ->
  (Instr.findNow (.int .i64) (.int .i64 n) es i=U V/\(∀ z,jf l n z=z)/\∀ y,eZ l n y=l++[(n,y)]) \/
  (∃ (j:Nat) (e:MapEntry) (x:Int×α),Instr.findNow (.int .i64) (.int .i64 n) es i=U (U (i+j,e.val))/\es[j]?= U e/\l[j]?= U x/\x.1=n/\(∀ z,jf l n z=x.2)/\∀ y,eZ l n y=l.set j (n,y))
 |[],[],i,_,_=>.inl ⟨rfl,λ_=>rfl,λ_=>rfl⟩
 |[],_::_,_,h,_=>by simp at h
 |_::_,[],_,h,_=>by simp at h
 |e::es,x::l,i,h,m=>by
  have t:e.key=.int .i64 x.1:=m 0 e x rfl rfl;simp only[Instr.findNow,t,Instr.sameNow,if_true];by_cases a:x.1=n;refine .inr ⟨0,e,x,by simp[a],rfl,rfl,a,λz=>by simp[jf,a],λy=>by simp[eZ,a]⟩;have s:(n==x.1)=false:=by rw[ubw];exact λh=>a h.symm
  have b:(x.1==n)=false:=by rw[ubw];exact a
  simp only[s];rcases Mm (n:=n) es l (i+1) (by simpa using h) (λj g k u v=>m (j+1) g k (by simpa using u) (by simpa using v))with ⟨c,d,f⟩|⟨j,g,k,c,d,f,o,p,r⟩
  refine .inl ⟨c,λz=>?_,λy=>?_⟩;have:=d z;simp only[jf]at this |-;rw[List.find?_cons,b];exact this;simp[eZ,b,f];refine .inr ⟨j+1,g,k,?_,by simpa using d,by simpa using f,o,λz=>?_,λy=>?_⟩;rw[c];congr 3;omega;have:=p z;simp only[jf]at this |-;rw[List.find?_cons,b];exact this;simp[eZ,b,r]
def NN{a:Ty}(h:Cf P t=U (e,a)):∃ k,P.underlying t=U (.map k e)/\P.underlying k=U (.int .i64)/\a.flat=Z/\a.wide=false:=by
 unfold Cf at h;split at h<;>try trivial
 rename_i k g d;split at h<;>try trivial
 rename_i f c _;split at h<;>try trivial
 rename_i b;cases h;exact⟨k,d,c,b⟩
def Pq{t:Ty}(h:t.wide=Y):t.size=1:=by cases t<;>first|rfl|(simp[Ty.wide]at h)
def Oj(h:v.oneCell'=Z):v.cells = #[v]:=by cases v<;>first|rfl|simp[Value.oneCell']at h
def zgc{e:Eff}(s:MemOK P B w F γ M)(f:∀ b,F b->b<w.heap.size)(l:B<=w.heap.size)(p:m d=V->M d=V)(h:NJ P d t m=U e):
  ∃ u w' γ',(Instr.makeMap t V).run P w=.ok u w'/\Step B w F γ M w' F γ' (aB M e.wr)/\MemOK P B w' F γ' (aB M e.wr)/\aK P w' F (av (aB M e.wr) γ') e.v u:=by
 unfold NJ at h;split at h<;>try trivial
 rename_i E D y g;cases h;obtain⟨k,_,_,o,G⟩:=NN y;have c:∀ b,b<w.heap.size->(w.alloc (.map #[] 0)).heap[b]?= w.heap[b]? := λb h=>udc _ _ _ h;obtain⟨A,C⟩:=s.mk_ [] (O:=.arr fh (.pair (.int .i64) D) []) (v:=.map (U w.heap.size)) (p g) (λk r=>by simp at r) (by simp) f l (λb a=>c b (f b a)) rfl rfl rfl (by simp) (λb a _=>c b a)
  (.inr (.inr ⟨ufd _,_,#[],0,rfl,ud8 w _,λh=>by have:=f _ h;omega,l,by simp[Ty.flat,o],rfl,ufj _,λi x z=>by simp at z⟩)) (by
   intro b a;rcases a with a|⟨_,i,u,n,_⟩|a
   simp[Value.ownBlock]at a;exact absurd n (Nat.not_lt_zero i);cases a;exact .inr (ufd _))
 exact⟨_,_,_,rfl,A,C,Cu [] (by simp) rfl⟩
def Aq.of{e:Nat}{t:Ty}{l:List t.q}(h:iA P B w F R v (.arr e t l))(a:fh<=e):Aq B w F t l v:=by
 rcases h with ⟨k,_⟩|⟨_,k,_⟩|⟨_,h⟩
 exact absurd (Nat.lt_trans k (by decide)) (Nat.not_lt.2 a);exact absurd k (Nat.not_lt.2 a);exact h
def zcx{id:Nat}{n:Int}{e:Eff}(hm:MemOK P B w F γ M)(o:∀ i y,m i=U y->M i=U y)(h:NF P t id n m=U e)(hx:aK P w F (av M γ) (.c (.own id)) v):
  e.wr=[]/\∃ u,(Instr.lookup t v (.int .i64 n) Y).run P w=.ok u w/\aK P w F (av M γ) e.v u:=by
 unfold NF at h;split at h<;>try trivial
 rename_i el vt eb W l ht K;split at h<;>try trivial
 rename_i z O;split at h<;>try trivial
 rename_i z0 Q;split at h<;>try trivial
 rename_i hc;obtain⟨G,rfl⟩:=hc;cases h;obtain⟨k,h1,C,h3,D⟩:=NN ht;have hM:=o _ _ K;have hv:=fV hM (by simp) hx.2;subst hv;obtain⟨b,a,ck,q1,q2,q3,q4,q5,q6,q7,q8⟩:=Aq.of (hm.ob id _ hM) G;have S:(zeroValue el).run P w=.ok z w:=by
  cases H:P.info? el with
  |none=>simp[H]at O
  |some i=>simp[H]at O;simp[zeroValue,typeInfo,H,O]
 have d:(Instr.checkKey a.isEmpty 10000 k (.int .i64 n)).run P w=.ok () w:=Fc C a.isEmpty 9999 n;have g:(getObj b).run P w=.ok (.map a ck) w:=by simp[getObj,Sem.run,q2]
 refine⟨rfl,?_⟩;have f:∀ (j:Nat) (e:MapEntry) (x:Int×W.q),a.toList[j]?= U e->l[j]?= U x->e.key=.int .i64 x.1:=λj e x he N=>by obtain⟨e',p,_,_,T⟩:=q8 j x N;rw[ua5]at he;rw[he]at p;cases p;have:=T.1.1;simpa using this
 rcases Mm (n:=n) a.toList l 0 (by simpa using q6) f with ⟨A,r,_⟩|⟨j,e',x,A,r,a3,a4,a5,_⟩
 refine⟨z,?_,?_⟩;rw[q1];simp[Instr.lookup,ud6 h1,g,d,Instr.findKey,ud6 C,A,S];rw[r];exact iH (tR Q (wC (P:=P) (R:=λ_ _=>False) z));refine⟨e'.val,?_,?_⟩;rw[q1];simp[Instr.lookup,ud6 h1,g,d,Instr.findKey,ud6 C,A];rw[a5];obtain⟨e'',p,_,s,T⟩:=q8 j x a3;rw[ua5]at r;rw[r]at p;cases p;refine iH ⟨by rw[Oj s,Pq D];rfl,⟨λhw=>(by rw[D]at hw;cases hw),λ⟨cs,E⟩=>(by rw[E]at s;simp[Value.oneCell']at s)⟩,?_⟩;refine(aG.flat (w':=w) (F':=F) h3 T.2).mono (λ_ h=>h) (λ_ _=>rfl) λq u hq hu=>?_;rw[Pq D]at hq;have L:q=0:=by omega
 subst L;rw[Oj s];simpa[Ty.size]using hu
def zre{id:Nat}{n:Int}{x:AV}{e:Eff}(hm:MemOK P B w F γ M)(hb:∀ b,F b->b<w.heap.size)(hsub:∀ i y,m i=some y->M i=some y)(h:PY P t id n x m=some e)(hn:az e.need)(hin:inR .i64 n)(hv:aK P w F (av M γ) (.c (.own id)) v)(hx:aK P w F (av M γ) x vx):
  e.v=.dead/\∃ w',(Instr.mapUpdate t v (.int .i64 n) vx).run P w=.ok () w'/\Step B w F γ M w' F γ (aB M e.wr)/\MemOK P B w' F γ (aB M e.wr):=by
 unfold PY at h;split at h<;>try trivial
 rename_i el vt eb vt' l ht hid;split at h<;>try trivial
 rename_i y hy;split at h<;>try trivial
 rename_i hc;obtain⟨hge,rfl⟩:=hc;cases h;have hlen:l.length<maxLen:=hn;obtain⟨k,h1,h2,h3,h4⟩:=NN ht;have hM:=hsub _ _ hid;have hv:=fV hM (by simp) hv.2;subst hv;obtain⟨b,es,ck,q1,q2,q3,q4,q5,q6,q7,q8⟩:=Aq.of (hm.ob id _ hM) hge;have hck:(Instr.checkKey false 10000 k (.int .i64 n)).run P w=.ok () w:=Fc h2 false 9999 n;have hob:(getObj b).run P w=.ok (.map es ck) w:=by simp[getObj,Sem.run,q2]
 have hblt:b<w.heap.size:=(uaf.1 q2).1;have hso:∀ o:Obj,(setObj b o).run P w=.ok () { w with heap:=w.heap.setIfInBounds b o }:=λo=>by simp[setObj,Sem.run,q2]
 have hkey:∀ (j:Nat) (e:MapEntry) (x:Int×vt'.q),es.toList[j]?= some e->l[j]?= some x->e.key=.int .i64 x.1:=λj e x he hx'=>by
  obtain⟨e',k1,_,_,k4⟩:=q8 j x hx';rw[ua5]at he;rw[he]at k1;cases k1;have:=k4.1.1;simpa using this
 obtain⟨d1,d2,d3⟩:=tR hy hx;have hone:vx.oneCell'=true:=by
  cases hvx:vx with
  |agg cs=>
   have:=d2.2 ⟨cs,hvx⟩;rw[h4]at this;cases this
  |tuple cs=>
   rw[hvx]at hx;cases x with
   |c a=>simp[aK,Value.oneCell']at hx
   |agg cs=>simp[aK]at hx
   |_=>simp[nX]at hy
  |_=>rfl
 have hrep:aG w (λ_=>False) vt' y (λj u=>j=0/\u=vx):=by
  refine(aG.flat (w':=w) (F':=λ_=>False) h3 d3).mono (λ_ h=>h) (λ_ _=>rfl) λj u hj hu=>?_;rw[Pq h4]at hj;have hj0:j=0:=by omega
  subst hj0;rw[Oj hone]at hu;exact⟨rfl,by simpa using hu.symm⟩
 have hpair:aG w (λ_=>False) (.pair (.int .i64) vt') (n,y) (λj u=>[Value.int .i64 n,vx][j]?= some u):=by
  refine⟨⟨by simp,hin⟩,hrep.mono (λ_ h=>h) (λ_ _=>rfl) λj u _ hu=>?_⟩;obtain⟨rfl,rfl⟩:=hu;simp[Ty.size]
 have hend:∀ (es':Array MapEntry) ck',es'.size=(eZ l n y).length->(eZ l n y).length<=maxLen->(∀ (i:Nat) x,(eZ l n y)[i]?= some x->∃ e,es'[i]?= some e/\e.key.oneCell'=true/\e.val.oneCell'=true/\aG w (λ_=>False) (.pair (.int .i64) vt') x (λj u=>[e.key,e.val][j]?= some u)) ->
   Step B w F γ M { w with heap:=w.heap.setIfInBounds b (.map es' ck') } F γ (aB M [(id,.arr eb (.pair (.int .i64) vt') (eZ l n y))])/\MemOK P B { w with heap:=w.heap.setIfInBounds b (.map es' ck') } F γ (aB M [(id,.arr eb (.pair (.int .i64) vt') (eZ l n y))]):=by
  intro es' ck' g1 g2 g3;have hoth:∀ c,c≠b->({ w with heap:=w.heap.setIfInBounds b (.map es' ck') }:World).heap[c]?= w.heap[c]? := λc hc=>by
   show(w.heap.setIfInBounds b _)[c]?= _;rw[Array.getElem?_setIfInBounds];rw[uf1 (λe=>hc e.symm)]
  have hsame:({ w with heap:=w.heap.setIfInBounds b (.map es' ck') }:World).heap[b]?= some (.map es' ck'):=by
   show(w.heap.setIfInBounds b _)[b]?= _;rw[Array.getElem?_setIfInBounds];simp[hblt]
  have hst:Step B w F γ M { w with heap:=w.heap.setIfInBounds b (.map es' ck') } F γ (upd M id (.arr eb (.pair (.int .i64) vt') (eZ l n y))):=
   ⟨λ_ h=>h,λc h=>hoth c (λe=>q3 (e ▸ h)),qm hM (by simp),λc h=>hoth c (by omega),rfl,rfl,rfl,by simp,λc h=>by have:=hb c h;simpa using this,λ_ h=>.inl h⟩
  refine⟨hst,hm.change hM (by simp) hst.hF hst.hw (λc hc=>?_) (λc _ hne=>⟨hoth c (λe=>hne (.inr (.inr (e ▸ q1)))),λh=>h⟩) (.inr (.inr ⟨hge,b,es',ck',q1,hsame,q3,q4,q5,g1,g2,λi x hx=>?_⟩))⟩
  ·rcases hc with hc|⟨_,i,u,_,_,⟨A,_,_,hc,_⟩,_⟩|hc
   ·rw[q1]at hc;simp[Value.ownBlock]at hc
   ·rw[q1]at hc;cases hc
   ·exact .inr (.inr hc)
  ·obtain⟨e,k1,k2,k3,k4⟩:=g3 i x hx;exact⟨e,k1,k2,k3,k4.mono (λ_ h=>h) (λ_ h=>h.elim) (λ_ _ _ h=>h)⟩
 refine⟨rfl,?_⟩;rcases Mm (n:=n) es.toList l 0 (by simpa using q6) hkey with ⟨a1,_,a3⟩|⟨j,e',x',a1,a2,a3,a4,_,a6⟩
 ·rw[a3]at hend |-;refine⟨_,?_,hend (es.push ⟨.int .i64 n,vx,ck⟩) (ck+1) (by simp[q6]) (by simp;omega) λi x hx=>?_⟩
  ·rw[q1];simp[Instr.mapUpdate,ud6 h1,hob,hck,Instr.findKey,ud6 h2,a1,hso]
  ·rcases uer i l.length with hi|hi
   ·rw[uaj hi]at hx;obtain⟨e,k1,k2⟩:=q8 i x hx;exact⟨e,by rw[Array.getElem?_push_lt (by omega)];rw[uam (by omega)]at k1;exact k1,k2⟩
   ·rw[uae hi]at hx;have hi0:i-l.length=0:=by
     have:=(uak.1 hx).1;simp at this;omega
    rw[hi0]at hx;simp at hx;subst hx;refine⟨⟨.int .i64 n,vx,ck⟩,?_,rfl,hone,hpair⟩;have:i=es.size:=by omega
    subst this;simp
 ·have a2':es[j]?= some e':=by rw[<- ua5];exact a2
  rw[a6]at hend |-;have hkx:=hkey j e' x' a2 a3;have hjl:j<l.length:=(uak.1 a3).1;have hsb:(Instr.keyThatStays e'.key (.int .i64 n)).run P w=.ok (.int .i64 n) w:=by
   rw[hkx,a4];simp[Instr.keyThatStays,Instr.sameBits]
  refine⟨_,?_,hend (es.modify j λe=>{ e with key:=.int .i64 n,val:=vx }) ck (by simp[q6]) (by simp;omega) λi x hx=>?_⟩
  ·rw[q1];simp[Instr.mapUpdate,ud6 h1,hob,hck,Instr.findKey,ud6 h2,a1,a2',hsb,hso]
  ·by_cases hi:i=j
   ·subst hi;rw[ua0 hjl]at hx;cases hx;exact⟨{ e' with key:=.int .i64 n,val:=vx },by rw[Array.getElem?_modify];simp[a2'],rfl,hone,hpair⟩
   ·rw[ubi (λe=>hi e.symm)]at hx;obtain⟨e,k1,k2⟩:=q8 i x hx;exact⟨e,by rw[Array.getElem?_modify];simp[hi,Ne.symm hi,k1],k2⟩
def qzt{x:AV}{e:Eff}(h:Nl P t x=U e)(i:aK P w F R x v):e.wr=[]/\∃ u,(Instr.makeInterface t v).run P w=.ok u w/\aK P w F R e.v u:=by
 unfold Nl at h;split at h<;>try trivial
 rename_i p id a;cases h;obtain⟨_,b,c,rfl⟩:=i;exact⟨rfl,_,by simp[Instr.makeInterface,ud6 a],rfl,b,c,rfl⟩;rename_i d a _;split at h<;>try trivial
 rename_i r g;split at h<;>try trivial
 rename_i y o;cases h;obtain⟨c,l,m⟩:=tR o i;have f:∀ k,d ≠ .interface k:=λk n=>by subst n;simp[mD,a]at g
 refine⟨rfl,.iface t v,?_,rfl,.inl ⟨t,v,by simp[dd],rfl,c,l,m⟩⟩;simp only[Instr.makeInterface,ueu,ud6 a,ucm];cases d<;>first|(exact absurd rfl (f _))|rfl
def qlh{xt:TypeId}{ok:Bool}{g:List (Int×Nat)}{t:Ty}{x:Int×t.q}{e:Eff}(h:Jz P ty ok g t x=U e)(p:az e.need)(s:aK P w F R (.c (.ic g t x)) v):
  e.wr=[]/\∃ u,(Instr.typeAssert v xt ty ok).run P w=.ok u w/\aK P w F R e.v u:=by
 have f:(∃ d,P.underlying ty=U d/\∀ m,d ≠ .interface m)->dd g x.1=U ty->∃ u,(Instr.typeAssert v xt ty ok).run P w=.ok u w/\aK P w F R (if ok then .tup [eR t x.2,.c (.bool Z)]else eR t x.2) u:=by
  rintro⟨d,n,a⟩ o;rcases Gn s.2 with ⟨z,u,b,rfl,y⟩|⟨b,_⟩
  rw[o]at b;cases b;have r:=iH (P:=P) (R:=R) y;cases ok with
  |true=>
   refine⟨.tuple #[u,.bool Z],?_,?_⟩;simp only[Instr.typeAssert,ueu,ud6 n,ucm];cases d<;>first|(exact absurd rfl (a _))|simp
   exact⟨_,rfl,rfl,⟨u,rfl,r⟩,⟨_,rfl,rfl,rfl⟩,uT⟩
  |false=>refine⟨u,?_,r⟩;simp only[Instr.typeAssert,ueu,ud6 n,ucm];cases d<;>first|(exact absurd rfl (a _))|simp
  rw[o]at b;cases b
 unfold Jz at h;split at h<;>try trivial
 rename_i A k l;cases h;exact⟨rfl,f ⟨_,l,λm i=>by cases i⟩ p⟩;rename_i q k l;cases h;exact⟨rfl,f ⟨_,l,λm i=>by cases i⟩ p⟩
def zcw(s:io P Γ){Q:AV}{a:List AV}{e:Eff}{W:Value}(T:MemOK P B w F γ M)(C:∀ b,F b->b<w.heap.size)(hB:B<=w.heap.size)(r:∀ i y,m i=U y->M i=U y)(h:NE Γ Q a m=U e)(hn:az e.need)(hf:aK P w F (av M γ) Q W)(ha:bI P w F (av M γ) a vs):
  e.wr=[]/\∃ f d,W=.func (.func f) #[] d/\(∀ a L,(callFunc f a).run P L=.ok (.enter f a) L)/\Calls P f (vs.toArray++d) w λO w'=>∃ u,O=.returned u/\Step B w F γ M w' F γ M/\MemOK P B w' F γ M/\aK P w' F (av M γ) e.v u:=by
 unfold NE at h;split at h<;>try trivial
 split at h<;>try trivial
 rename_i f d A u K;split at h<;>try trivial
 rename_i ct D;split at h<;>try trivial
 rename_i l;split at h<;>try trivial
 rename_i x n hx;cases h;obtain⟨N,z,m1,t1,r1⟩:=ke T C (dM.of r) K ha;obtain⟨_,t,rfl,e1,e2⟩:=hf;obtain⟨E,G⟩:=lj.1 hn;have k:bI P w N (av (aB M u) γ) (d.map .c) t.toList:=EZ (by simpa using e1) (aS.mono z.hF z.hw z.hR d (λ_ _ h=>h) (by simpa using e2));have H:=pI s hx E (r1.append k);obtain⟨q1,q2⟩:=s.1 f ct D;refine⟨rfl,f,t,rfl,q1,?_⟩;have S:=q2 w N x _ z.bd H G;have fU:(vs++t.toList).toArray=vs.toArray++t:=by simp
 rw[fU]at S;refine S.mono λO L hp=>?_;obtain⟨v2,F2,rfl,g,hF2,R,p⟩:=hp;obtain⟨s2,m2⟩:=Step.below (F':=F) T hB C g (λ_ h=>h) (λb o=>⟨.inl o,ucb (C b o) g.size⟩);exact⟨v2,rfl,s2,m2,xq (p.flat l)⟩
def Zb{e:Eff}{S:Sem Unit}(d:execOp a.eval o=(do S;pure .skip:Sem Next))(b:e.v=.dead)(g:S.run P w=.ok () w')(h:Step B w F γ M w' F γ (aB M e.wr))(f:MemOK P B w' F γ (aB M e.wr)):wz P B o a w F γ M e.v e.wr:=by
 rw[b];intro K Q c;unfold Oper.wp;have:(execOp a.eval o).run P w=.ok .skip w':=by rw[d];simp[g]
 rw[this];exact c undef w' F γ h f trivial
def qpf(hΓ:io P Γ){op:Op}{vs:List AV}{e:Eff}(O:o.op=op)(L:MemOK P B w F γ M)(N:∀ b,F b->b<w.heap.size)(hB:B<=w.heap.size)(z:∀ i y,m i=U y->M i=U y)(hd:m d=V->M d=V)(D:KR P Γ d op vs m=U e)(hn:az e.need)(p:bI P w F (av M γ) vs (op.operands.toList.map a.eval)):wz P B o a w F γ M e.v e.wr:=by
 unfold KR at D;split at D<;>try trivial
 rename_i t n ps v;split at D<;>try trivial
 rename_i el ht;split at D<;>try trivial
 rename_i G;obtain⟨rfl,R⟩:=G;obtain⟨h,rfl⟩:∃ h,ps = #[(0,h)]:=by
  have l:ps.toList.length=1:=by simpa using ufy List.length R
  match hp:ps.toList,l with
  |[(i,h)],_=>rw[hp]at R;simp at R;subst R;exact⟨h,by rw[<- uc8,hp]⟩
 have hx:aK P w F (av M γ) v (a.eval h):=by
  have l:(Op.buildSlice t 1 #[(0,h)]).operands.toList.map a.eval=[a.eval h]:=by simp[Op.operands]
  rw[l]at p;exact p.1
 obtain⟨u,w',T,l,A,C,H⟩:=qmc L N hB z hd ht D hx;exact jW (dn (S:=Instr.buildSlice t 1 #[(0,a.eval h)]) (by unfold execOp;rw[O];simp) l) A C H;rename_i t n0 c0 kn n kc c;obtain⟨⟨_,e1,_⟩,⟨_,e2,_⟩,_⟩:=p;obtain⟨u,w',T,l,A,C,H⟩:=zga (kn:=kn) (kc:=kc) L N hB hd D hn;exact jW (dn (S:=Instr.makeSlice t (a.eval n0) (a.eval c0)) (by unfold execOp;rw[O]) (by rw[e1,e2];exact l)) A C H;rename_i t h id sz i off;obtain⟨u,T,l,A,C,H⟩:=zcv L N z hd D hn p.1;exact jW (dn (S:=Instr.loadAt t (a.eval h)) (by unfold execOp;rw[O]) l) A C H;rename_i t h v0 id sz i off k;obtain⟨l,w',A,C,H⟩:=zox L N z D hn p.1 p.2.1;exact Zb (S:=Instr.storeAt t (a.eval h) (a.eval v0)) (by unfold execOp;rw[O]) l A C H;rename_i g ts s k;split at D<;>try trivial
 rename_i t t' hts;split at D<;>try trivial
 rename_i htt;subst htt;have E:(Op.call ⟨.builtin .append,g,ts⟩).operands.toList.map a.eval=(g.map a.eval).toList:=by simp[Op.operands,Call.operands]
 rw[E]at p;obtain⟨v1,v2,hv,hs,hx⟩:∃ v1 v2,g.map a.eval = #[v1,v2]/\aK P w F (av M γ) s v1/\aK P w F (av M γ) (.c (.own k)) v2:=by
  cases hl:(g.map a.eval).toList with
  |nil=>rw[hl]at p;exact p.elim
  |cons v r=>cases r with
   |nil=>rw[hl]at p;exact p.2.elim
   |cons v2 r=>cases r with
    |nil=>rw[hl]at p;exact⟨v,v2,by rw[<- uc8,hl],p.1,p.2.1⟩
    |cons _ _=>rw[hl]at p;exact p.2.2.elim
 have hts':ts = #[t,t]:=by rw[<- uc8,hts]
 obtain⟨u,w',T,A,C,H,h5⟩:=qlf (ty:=0) L N hB z hd D hn hs hx;refine jW ?_ C H h5;unfold execOp;rw[O];simp only[resolve,ueu,uew,ucm,invoke,hv,hts'];have hbb:∀ ty cs,builtin .append #[t,t] ty cs #[v1,v2]=(do pure (.value (<- Builtin.append_ #[t,t] 0 #[v1,v2])):Sem Next):=λty cs=>rfl;rw[hbb];simp[A];rename_i t;obtain⟨u,w',T,l,A,C,H⟩:=zgc L N hB hd D;exact jW (dn (S:=Instr.makeMap t V) (by unfold execOp;rw[O];rfl) l) A C H;rename_i t h y0 id n;obtain⟨hx,⟨_,hy,_⟩,_⟩:=p;obtain⟨l,u,A,C⟩:=zcx L z D hx;rw[l];exact eo L N (dn (S:=Instr.lookup t (a.eval h) (a.eval y0) Y) (by unfold execOp;rw[O]) (by rw[hy];exact A)) C;rename_i t h y0 z0 id n v;obtain⟨hx,⟨_,hy,hin⟩,hv,_⟩:=p;obtain⟨l,w',A,C,H⟩:=zre L N z D hn hin hx hv;exact Zb (S:=Instr.mapUpdate t (a.eval h) (a.eval y0) (a.eval z0)) (by unfold execOp;rw[O]) l (by rw[hy];exact A) C H;rename_i t h v;obtain⟨l,u,A,C⟩:=qzt D p.1;rw[l];exact eo L N (dn (S:=Instr.makeInterface t (a.eval h)) (by unfold execOp;rw[O]) A) C;rename_i h xt ty ok es t x;obtain⟨l,u,A,C⟩:=qlh (xt:=xt) D hn p.1;rw[l];exact eo L N (dn (S:=Instr.typeAssert (a.eval h) xt ty ok) (by unfold execOp;rw[O]) A) C;rename_i f first cap id
 split at D<;>try trivial
 rename_i G;cases D;obtain⟨l,A⟩:=G;obtain⟨h,rfl⟩:∃ h,first = #[h]:=Array.size_eq_one_iff.1 l
 obtain rfl:=Array.eq_empty_of_size_eq_zero A;have E:(Op.makeFunc (.func f) #[h] #[]).operands.toList.map a.eval=[a.eval h]:=by simp[Op.operands]
 rw[E]at p;obtain⟨⟨_,b,e1,e2⟩,_⟩:=p;refine eo L N (dn (S:=Instr.makeFunc (.func f) ((#[h]:Array Operand).map a.eval) ((#[]:Array Operand).map a.eval)) (u:=.func (.func f) #[a.eval h] #[]) (by unfold execOp;rw[O]) (by simp[Instr.makeFunc])) ⟨rfl,b,e1,by rw[e2]⟩;rename_i f0 g ts fv args;have E:(Op.call ⟨.value f0,g,ts⟩).operands.toList.map a.eval=a.eval f0::(g.map a.eval).toList:=by simp[Op.operands,Call.operands]
 rw[E]at p;obtain⟨l,f,W,e1,e2,e3⟩:=zcw hΓ L N hB z D hn p.1 p.2;rw[l];intro K Q hK;unfold Oper.wp;have hrun:(execOp a.eval o).run P w=.ok (.enter f (g.map a.eval++W)) w:=by unfold execOp;rw[O];simp[resolve,e1,Deferred.ofValue,invoke,e2]
 rw[hrun];show Calls P f (g.map a.eval++W) w _;rw[ubf]at e3;refine e3.mono λen w2 hp=>?_;obtain⟨u,rfl,s1,m1,r1⟩:=hp;exact hK u w2 F γ s1 m1 r1
def qax{a:String}{r:Bool}(h:NS P a ty=U (f,r))(c:Addr)(e:Array Value):
  (r=Y->(callMethod (.iface ty (.pointer (U c))) a e).run P w=(callFunc f (#[.pointer (U c)]++e)).run P w) /\
  (r=Z->∀ u,w.cell? c=U u->(callMethod (.iface ty (.pointer (U c))) a e).run P w=(callFunc f (#[u]++e)).run P w):=by
 unfold NS at h;split at h<;>try trivial
 rename_i i B x z;split at h<;>try trivial
 rename_i K g;split at h<;>try trivial
 rename_i t A v;split at h<;>try trivial
 rename_i o;obtain⟨o,p⟩:=o;simp at h;obtain⟨rfl,m⟩:=h;have k:K.path = #[]:=by simpa using o
 have F:P.types.size+Made.depth-1+1=P.types.size+Made.depth:=by unfold Made.depth;omega
 have l:∀ u,(method (P.types.size+Made.depth-1+1) ty (.pointer (U c)) a).run P w=.ok (t,u) w->(callMethod (.iface ty (.pointer (U c))) a e).run P w=(callFunc t (#[u]++e)).run P w:=λu y=>by rw[F]at y;simp only[callMethod,ueu,run_program,ucm];rw[y];simp
 refine⟨λd=>l _ ?_,λd u E=>l u ?_⟩;have b:A=true:=by rw[d]at m;simpa using m
 subst b;simp[method,typeInfo,x,g,k,v,follow,receiverAt,ud6 z,Place.get];have b:A=false:=by rw[d]at m;simpa using m
 subst b;obtain⟨_,C,D⟩:=p.resolve_left (by simp);obtain⟨L,n⟩:=uar.1 C;have G:(loadVar B c).run P w=.ok u w:=by simp[loadVar,CV n,D,Sem.run,E]
 have H:∀ s:String,(Builtin.ssaWrapNilChk_ #[ty] ty #[.pointer (U c),strVal "", strVal s]).run P w=.ok (.pointer (U c)) w:=λs=>rfl;simp[method,typeInfo,x,g,k,v,follow,receiverAt,ud6 z,Place.get,H,asAddr,G]
end
section
variable {P:Program} {B:Nat} {o:Oper} {a:Act} {w w':World} {F F':Nat->Prop} {γ γ':Nat->Value} {M m:aX} {R:Nat->Value->Prop} {Γ:Gm}
def qed{idx:List Nat}:{xs:List AV} -> {vs:List Value}->bI P w F R xs vs->∀ (q i:Nat) (x:AV) (v:Nat×Value),(idx.zip xs)[q]?= U (i,x)->(idx.zip vs)[q]?= U v->v.1=i/\aK P w F R x v.2:=by
 induction idx with
 |nil=>intro xs vs _ q i x v h;simp at h
 |cons k idx d=>
  intro xs vs c q i x v a b;cases xs with
  |nil=>simp at a
  |cons y xs=>cases vs with
   |nil=>exact c.elim
   |cons u vs=>cases q with
    |zero=>simp at a b;obtain⟨rfl,rfl⟩:=a;subst b;exact⟨rfl,c.1⟩
    |succ q=>exact d c.2 q i x v (by simpa using a) (by simpa using b)
def kp(P:Program)(w:World)(F:Nat->Prop)(R:Nat->Value->Prop)(b:Tmp->Value):AV->Value->Prop
 |.maybe g a v,u=>b g=.bool a->aK P w F R v u
 |v,u=>aK P w F R v u
def qK(P:Program)(w:World)(F:Nat->Prop)(R:Nat->Value->Prop)(b:Tmp->Value):List AV->List Value->Prop
 |[],[]=>True
 |a::r,v::s=>kp P w F R b a v/\qK P w F R b r s
 |_,_=>False
def kp.plain{b:Tmp->Value}{x:AV}(h:kp P w F R b x v)(a:iL x=Z):aK P w F R x v:=by cases x<;>first|exact h|simp[iL]at a
def qK.plain{d:Tmp->Value}:{b:List AV} -> {c:List Value}->qK P w F R d b c->b.all iL=Z->bI P w F R b c
 |[],[],_,_=>trivial
 |x::r,v::s,h,a=>by simp only[uek,udd]at a;exact⟨h.1.plain a.1,qK.plain h.2 a.2⟩
 |[],_::_,h,_=>h.elim
 |_::_,[],h,_=>h.elim
def qao{c x:AC}{u:List (Nat×Ob)}(hd:m d=none)(h:oO m c=some (x,u))(M:aX):aB M u d=M d:=by
 unfold oO at h;split at h;rename_i id;split at h<;>try trivial
 rename_i hid;split at h<;>try trivial
 obtain⟨_,rfl⟩:=h;exact gL _ _ (λe=>by subst e;rw[hd]at hid;cases hid);simp at h;obtain⟨_,rfl⟩:=h;rfl;simp at h;obtain⟨_,rfl⟩:=h;rfl
def qap(a:m d=V):{cs xs:List AC} -> {u:List (Nat×Ob)}->lB m cs=U (xs,u)->∀ M:aX,aB M u d=M d
 |[],xs,u,h,M=>by obtain⟨_,rfl⟩:=h;rfl
 |c::r,xs,u,h,M=>by simp only[lB]at h;split at h;rename_i b e;obtain⟨_,rfl⟩:=h;rw[iP,qap a e,qao a b];cases h
def zlx{x y:AV}{u:List (Nat×Ob)}(b:m d=V)(h:sj m x=U (y,u))(M:aX):aB M u d=M d:=by
 unfold sj at h;split at h<;>try trivial
 split at h<;>try trivial
 rename_i a;obtain⟨_,rfl⟩:=h;exact qao b a M;split at h<;>try trivial
 rename_i a;obtain⟨_,rfl⟩:=h;exact qap b a M
def qan(a:m d=V):{cs xs:List AV} -> {u:List (Nat×Ob)}->fe m cs=U (xs,u)->∀ M:aX,aB M u d=M d
 |[],xs,u,h,M=>by obtain⟨_,rfl⟩:=h;rfl
 |c::r,xs,u,h,M=>by simp only[fe]at h;split at h;rename_i b e;obtain⟨_,rfl⟩:=h;rw[iP,qan a e,zlx a b];cases h
def zcu{c:AC}{e:Ty}{l:List e.q}(h:NC c=U ⟨e,l⟩)(a:bx P w F R c v):∃ A b,v=.slice A l.length b/\aG w F (.sl e) l (λ_ u=>u=v):=by
 unfold NC at h;split at h<;>try trivial
 cases h;obtain⟨A,c,d,_⟩:=id a;exact⟨A,c,d.symm,a⟩;cases h;obtain⟨A,d,a⟩:=a;exact⟨A,_,d,a⟩
def Ot{x:Option Operand}{l:Option Int}{r d:List AV}{e:List Value}(h:y9 x.isSome r=U (l,d))(c:bI P w F R r (x.toList.map a.eval++e)):
  (∃ k:IntKind,x.map a.eval=l.map (.int k))/\bI P w F R d e:=by
 rcases zh9 h c with ⟨b,rfl,rfl⟩|⟨b,k,n,v,m,rfl,f,g,i⟩
 cases x with
 |none=>exact⟨⟨.i64,rfl⟩,by simpa using c⟩
 |some x=>simp at b
 cases x with
 |none=>simp at b
 |some x=>obtain⟨rfl,rfl⟩:=f;exact⟨⟨k,by simp[g]⟩,i⟩
def qp3{E:Nat->Value}{m M:aX}{lo a mx:Bool}{x:AV}{r:List AV}{e:Eff}(hm:MemOK P B w F E M)(hb:∀ b,F b->b<w.heap.size)(hB:B<=w.heap.size)(O:∀ i y,m i=U y->M i=U y)(hd:m d=V->M d=V)(h:KW P d t lo a mx x r m=U e)(hn:az e.need)(hx:aK P w F (av M E) x vx)(hr:bI P w F (av M E) r vs):
  lo=Y/\a=Z/\mx=Y/\∃ vh u γ',vs=[vh]/\(Instr.sliceAt t vx V (U vh) V).run P w=.ok u w/\Step B w F E M w F γ' (aB M e.wr)/\MemOK P B w F γ' (aB M e.wr)/\aK P w F (av (aB M e.wr) γ') e.v u:=by
 unfold KW at h;split at h<;>try trivial
 rename_i id k q;split at h<;>try trivial
 rename_i el T o l ht hid hmd;split at h<;>try trivial
 rename_i W;cases h;obtain⟨n1,n2⟩:0<=q/\q<=l.length:=hn;obtain⟨f,W⟩:=W;obtain⟨ti,Q⟩:=uar.1 W.1;cases vs with
 |nil=>exact hr.elim
 |cons vh vs=>
  cases vs with
  |cons _ _=>exact hr.2.elim
  |nil=>
   obtain⟨⟨_,rfl,_⟩,_⟩:=hr;have R:=O _ _ hid;have G:=hd hmd;have hv:=fV R (by simp) hx.2;subst hv;obtain⟨xs,q1,q2,q3,q4⟩:=iT.of (hm.ob id _ R) f;have p:(l.take q.toNat).length=q.toNat:=by simp;omega
   have A:=q1.1;have hle:q.toNat*o.size<=l.length*o.size:=ube _ (by omega);have C:cy w F o (l.take q.toNat) (xs.take (q.toNat*o.size)):=λi y a=>by
    have hi':l[i]?= U y:=by rw[ub2]at a;split at a;exact a;cases a
    have hiq:i<q.toNat:=by rw[ub2]at a;split at a;assumption;cases a
    refine(q3 i y hi').mono (λ_ h=>h) (λ_ _=>rfl) (λj u hj hu=>?_);have:i*o.size+j<q.toNat*o.size:=by have:(i+1)*o.size<=q.toNat*o.size:=ube _ hiq;rw[uff]at this;omega
    rw[ub2,uf0 this];exact hu
   refine⟨rfl,rfl,rfl,.int k q,?_⟩;rcases q1.2 with ⟨L,hz⟩|⟨g,c,S,N,hg,H,hcap,K,hsz,D⟩
   have z:q.toNat=0:=by omega
   have n:(Instr.sliceAt t (E id) V (U (.int k q)) V).run P w=.ok (.slice V 0 0) w:=by
    rw[L];have s:(Instr.sliceBounds Z 0 0 V (U (.int k q)) V).run P w=.ok (0,0,0) w:=by simp[Instr.sliceBounds,nt (y:=0) n1 (by omega),z]
    simp[Instr.sliceAt,Instr.slice,ud6 ht,s,jj Q]
   obtain⟨s1,s2⟩:=GM hm hb hB R G (ub8 _ _) (by rw[p,z];exact ucs w B T o.size) (.inr (.inr rfl))
    (λi y a=>by rw[z]at a;simp at a) f f
   exact⟨_,_,rfl,n,s1,s2,o7 rfl⟩;have n:(Instr.sliceAt t (E id) V (U (.int k q)) V).run P w=.ok (.slice (U ⟨g,0,V⟩) q.toNat c) w:=by
    rw[N];have s:(Instr.sliceBounds Z l.length c V (U (.int k q)) V).run P w=.ok (0,q.toNat,c) w:=by simp[Instr.sliceBounds,nt (y:=c) n1 (by omega)]
    simp only[Instr.sliceAt,Instr.slice,ud6 ht,s,jj Q,ueu,Result.andThen];simp[Addr.add]
   obtain⟨s1,s2⟩:=GM hm hb hB R G (ub8 _ _)
    (by rw[p];refine⟨by rw[uc6,A];omega,.inr ⟨g,c,S,rfl,hg,H,by omega,K,hsz,?_⟩⟩;rw[<- D,ud9];congr 1;omega)
    (.inl (by rw[N];rfl)) C f f
   exact⟨_,_,rfl,n,s1,s2,o7 rfl⟩
def XB:{vs:List AV} -> {b:List AC} -> {u:List (Nat×Ob)} -> {e:List Value}->ox vs=U (b,u)->bI P w F R vs e->u=[]/\bI P w F R (b.map .c) e
 |[],_,_,e,h,d=>by obtain⟨rfl,rfl⟩:=h;exact⟨rfl,d⟩
 |.c a::r,b,u,[],h,d=>d.elim
 |.c a::r,b,u,v::e,h,d=>by
  simp only[ox]at h;split at h<;>try trivial
  rename_i y _ f;cases h;exact⟨rfl,d.1,(XB f d.2).2⟩
 |.dead::_,_,_,_,h,_=>by simp[ox]at h
 |.agg _::_,_,_,_,h,_=>by simp[ox]at h
 |.tup _::_,_,_,_,h,_=>by simp[ox]at h
 |.optr _ _ _ _::_,_,_,_,h,_=>by simp[ox]at h
 |.aptr _ _ _::_,_,_,_,h,_=>by simp[ox]at h
 |.maybe _ _ _::_,_,_,_,h,_=>by simp[ox]at h
def qbm{a:Ty}:(n:Nat) -> {cs:List AC} -> {l:List a.q} -> {g:Nat->Value->Prop}->vF.splitN a n cs=U l->aS P w F R cs g ->
  l.length=n/\∀ (i:Nat) (x:a.q),l[i]?= U x->aG w F a x (λj u=>g (i*a.size+j) u)
 |0,cs,l,g,h,_=>by
  cases cs with
  |nil=>simp only[vF.splitN,ucl]at h;subst h;exact⟨rfl,λi x b=>by simp at b⟩
  |cons _ _=>simp[vF.splitN]at h
 |n+1,cs,l,g,h,d=>by
  simp only[vF.splitN]at h;split at h<;>try trivial
  rename_i x b;split at h<;>try trivial
  rename_i o m;cases h;obtain⟨f,k⟩:=qbm n m (d.drop_ a.size);refine⟨by simp[f],λi y c=>?_⟩;cases i with
  |zero=>simp at c;subst c;have:=(aG.dec a b (d.take_ a.size)).1;simpa using this
  |succ i=>
   have:=k i y (by simpa using c);have e:∀ j,a.size+(i*a.size+j)=(i+1)*a.size+j:=λj=>by rw[uff];omega
   simpa only[e]using this
def zn5{x:AV}{e:Eff}(z:MemOK P B w F γ M)(L:∀ b,F b->b<w.heap.size)(c:∀ i y,m i=U y->M i=U y)(h:vF P t x m=U e)(Q:aK P w F (av M γ) x v):
  ∃ u F',(Instr.sliceAt t v V V V).run P w=.ok u w/\Step B w F γ M w F' γ (aB M e.wr)/\MemOK P B w F' γ (aB M e.wr)/\aK P w F' (av (aB M e.wr) γ) e.v u:=by
 unfold vF at h;split at h<;>try trivial
 rename_i n el id a R;split at h<;>try trivial
 rename_i i tt bt cs N S d;split at h<;>try trivial
 rename_i E p;split at h<;>try trivial
 rename_i bz g;split at h<;>try trivial
 rename_i l O;split at h<;>try trivial
 rename_i hc;cases h;obtain⟨C,b,H,K,s1,m1,r1⟩:=V3 z L c d p d;obtain⟨f,D,A,W,q3,_,_,_,_⟩:=nM z (c _ _ d) Q.2;have o:f=b:=by rw[H]at A;cases A;rfl
 subst o;subst W;obtain⟨s,G⟩:=qbm n O (xL g r1).2;have r:=jj (w:=w) N;refine⟨.slice (U ⟨f,a,V⟩) n n,C,?_,s1,m1,rfl,?_⟩;simp only[Instr.sliceAt,ueu,ud6 R,ucm,Instr.sureAddr,uew,Instr.sliceBounds,r,Nat.zero_mul];have:(⟨f,a,V⟩:Addr).add 0=⟨f,a,V⟩:=by simp[Addr.add]
 simp[this];refine⟨U ⟨f,a,V⟩,n,by rw[s],by rw[s];exact ufd _,by unfold maxLen;omega,λk x hx=>⟨⟨f,a,V⟩,rfl,K,?_⟩⟩;have:=G k x hx;refine this.mono (λ_ h=>h) (λ_ _=>rfl) λj u _ T=>?_;rw[kq];exact T
def Ml{n:Int}:(arr:List MapEntry)->(es:List (Int×Nat))->(i:Nat)->arr.map (λe=>(e.key,e.val))=es.map (λx=>(Value.int .i64 x.1,Value.func (.func x.2) #[] #[])) ->
  ∃ j,Instr.findNow (.int .i64) (.int .i64 n) arr i=U ((es.find? (λx=>x.1==n)).map λx=>(j,Value.func (.func x.2) #[] #[]))
 |[],[],_,_=>⟨0,rfl⟩
 |[],_::_,_,h=>by simp at h
 |_::_,[],_,h=>by simp at h
 |e::arr,(k,f)::es,i,h=>by
  simp at h;obtain⟨⟨d,g⟩,l⟩:=h;simp only[Instr.findNow,d,Instr.sameNow];by_cases a:n=k;subst a;exact⟨i,by simp[g]⟩;obtain⟨j,m⟩:=Ml (n:=n) arr es (i+1) l;refine⟨j,?_⟩;have b:(n==k)=false:=by rw[ubw];exact a
  have c:(k==n)=false:=by rw[ubw];omega
  simp[b,c,m]
def zcy{g i:TypeId}{arr:Array MapEntry}{h r:Nat}{a:List (Int×Nat)}(l:P.underlying t=U (.map g i))(f:P.underlying g=U (.int .i64))(p:(zeroValue i).run P w=.ok .nilFunc w)(o:w.heap[r]?= U (.map arr h))(m:arr.toList.map (λe=>(e.key,e.val))=a.map (λx=>(Value.int .i64 x.1,Value.func (.func x.2) #[] #[])))(n:Int):
  (Instr.lookup t (.map (U r)) (.int .i64 n) Z).run P w=.ok (.tuple #[jS (a.find? (λx=>x.1==n)),.bool (a.find? (λx=>x.1==n)).isSome]) w:=by
 obtain⟨j,d⟩:=Ml arr.toList a 0 m;have b:(Instr.checkKey arr.isEmpty 10000 g (.int .i64 n)).run P w=.ok () w:=Fc f arr.isEmpty 9999 n;have c:(getObj r).run P w=.ok (.map arr h) w:=by simp[getObj,Sem.run,o]
 cases k:a.find? (λx=>x.1==n)with
 |none=>rw[k]at d;simp[Instr.lookup,ud6 l,c,b,Instr.findKey,ud6 f,d,p,jS]
 |some x=>rw[k]at d;simp[Instr.lookup,ud6 l,c,b,Instr.findKey,ud6 f,d,jS]
def qpe(hΓ:io P Γ){op:Op}{vs:List AV}{e:Eff}(ho:o.op=op)(hm:MemOK P B w F γ M)(hb:∀ b,F b->b<w.heap.size)(hB:B<=w.heap.size)(hsub:∀ i y,m i=some y->M i=some y)(hd:m d=none->M d=none)(hc:KQ P Γ d op vs m=some e)(hn:az e.need)(hr:bI P w F (av M γ) vs (op.operands.toList.map a.eval)):wz P B o a w F γ M e.v e.wr:=by
 unfold KQ at hc;split at hc
 ·
  rename_i x0 x;cases hc;exact eo hm hb (by unfold execOp;rw[ho];rfl) hr.1
 ·
  rename_i x0 x;cases hc;exact eo hm hb (by unfold execOp;rw[ho];rfl) hr.1
 ·
  rename_i el;split at hc<;>try trivial
  rename_i z hz hmd;split at hc<;>try trivial
  rename_i cs hcs;cases hc;obtain⟨z1,z2,_⟩:=rf hcs (wC (P:=P) (w:=w) (F:=F) (R:=av M γ) z);obtain⟨s1,s2⟩:=Yn (ty:=el) hm hb hB (hd hmd) z1 z2;have hzv:(zeroValue el).run P w=.ok z w:=by
   cases hi:P.info? el with
   |none=>simp[hi]at hz
   |some i=>simp[hi]at hz;simp[zeroValue,typeInfo,hi,hz]
  refine jW (dn (S:=Instr.alloc el true (.tuple #[])) (u:=.pointer (some ⟨w.heap.size,0,none⟩)) (w':=w.alloc (.cells z.cells el)) (by unfold execOp;rw[ho]) ?_) s1 s2 Z5;simp[Instr.alloc,hzv,newVar,newRow,newObj,Sem.run]
 ·
  rename_i el x0 x;split at hc<;>try trivial
  rename_i cs hcs hmd;cases hc;obtain⟨z1,z2,_⟩:=rf hcs hr.1;obtain⟨s1,s2⟩:=Yn (ty:=el) hm hb hB (hd hmd) z1 z2;refine jW (dn (S:=Instr.box el (a.eval x0)) (u:=.pointer (some ⟨w.heap.size,0,none⟩)) (w':=w.alloc (.cells (a.eval x0).cells el)) (by unfold execOp;rw[ho]) ?_) s1 s2 Z5;simp[Instr.box,newVar,newRow,newObj,Sem.run]
 ·
  rename_i xs t ps;split at hc<;>try trivial
  rename_i v hv;cases hc;have hops:(Op.build t ps).operands.toList.map a.eval=ps.toList.map (λp=>a.eval p.2):=by simp[Op.operands]
  rw[hops]at hr;have hz:=qed (idx:=ps.toList.map (·.1)) hr;have he:((ps.toList.map (·.1)).zip (ps.toList.map λp=>a.eval p.2))=ps.toList.map λp=>(p.1,a.eval p.2):=by
   rw[List.zip_map']
  rw[he]at hz;have hlen:=hr.length;obtain⟨u,h1,h2⟩:=qmd (ps:=ps.map λp=>(p.1,a.eval p.2)) hv (by simp at hlen |-;omega) (λk i x v h1 h2=>hz k i x v h1 (by simpa using h2));refine eo hm hb (dn (S:=Instr.build t (ps.map λp=>(p.1,a.eval p.2))) ?_ h1) h2;unfold execOp;rw[ho]
 ·
  rename_i xs t n ps;split at hc<;>try trivial
  rename_i el ht hmd;split at hc<;>try trivial
  rename_i i tt xs' u hi htt hrs;split at hc<;>try trivial
  rename_i hcond;obtain⟨hlt,c1,c2,c3,c4,c5⟩:=hcond;obtain⟨z,hz,hzs⟩:∃ z,i.zero=some z/\z.cells.size=tt.size:=by
   cases hz:i.zero with
   |none=>simp[hz]at c5
   |some z=>exact⟨z,rfl,by simpa[hz]using c5⟩
  split at hc<;>try trivial
  rename_i l hl;split at hc<;>try trivial
  rename_i hln;cases hc;have hops:(Op.buildSlice t n ps).operands.toList.map a.eval=ps.toList.map (λp=>a.eval p.2):=by simp[Op.operands]
  rw[hops]at hr;obtain⟨F1,s1,m1,t1,r1⟩:=ke hm hb (dM.of hsub) hrs hr;have hz':=qed (idx:=ps.toList.map (·.1)) r1;have he:((ps.toList.map (·.1)).zip (ps.toList.map λp=>a.eval p.2))=ps.toList.map λp=>(p.1,a.eval p.2):=by
   rw[List.zip_map']
  rw[he]at hz';have hlen:=r1.length;have hMd:aB M u d=none:=by rw[qan hmd hrs];exact hd hmd
  obtain⟨v,w',γ',h1,s2,m2,r2⟩:=qmb (ps:=ps.map λp=>(p.1,a.eval p.2)) m1 s1.bd hB hMd ht hi hz c1 hzs c2 c3 hl hln (by simp at hlen |-;omega) (λk i x v h1 h2=>hz' k i x v h1 (by simpa using h2)) hlt;refine jW (dn (S:=Instr.buildSlice t n (ps.map λp=>(p.1,a.eval p.2))) (w':=w') ?_ h1) (F':=F1) (γ':=γ') ?_ ?_ ?_
  ·unfold execOp;rw[ho]
  ·rw[iP];exact s1.trans s2
  ·rw[iP];exact m2
  ·rw[iP];exact r2
 ·
  rename_i t x0 x;obtain⟨h1,u,h2,h3⟩:=XF hm hsub hc hn hr.1;rw[h1];exact eo hm hb (dn (S:=Instr.loadAt t (a.eval x0)) (by unfold execOp;rw[ho]) h2) h3
 ·
  rename_i t x0 v0 x v;obtain⟨h1,w',F1,h2,h3,h4⟩:=zoy hm hb hsub hc hn hr.1 hr.2.1;rw[h1];intro K Q hK;unfold Oper.wp;have:(execOp a.eval o).run P w=.ok .skip w':=by
   unfold execOp;rw[ho];simp[h2]
  rw[this];exact hK undef w' F1 γ h3 h4 trivial
 ·
  rename_i x0 x;split at hc<;>try trivial
  ·rename_i id off;cases hc;obtain⟨⟨h1,b,h2,h3⟩,_⟩:=hr;refine eo hm hb (u:=a.eval x0) ?_ ⟨h1,b,h2,h3⟩;unfold execOp;rw[ho];simp only[h3];rfl
  ·rename_i cs;cases hc;obtain⟨⟨h1,ad,h2,h3⟩,_⟩:=hr;refine eo hm hb (u:=a.eval x0) ?_ ⟨h1,ad,h2,h3⟩;unfold execOp;rw[ho];simp only[h2];rfl
 ·
  rename_i bo t x0 y0 yt x y;split at hc
  ·rename_i v hv;cases hc;have key:BS P t=true->∀ es (t0:Ty) (z:Int×t0.q) (vx:Value),bx P w F (av M γ) (.ic es t0 z) vx->∀ q:BinOp,q=.eql\/q=.neq->(do eqGuard q t x0 (.const .nilIface) vx .nilIface;binOp q t vx .nilIface:Sem Value).run P w=.ok (.bool (if q=.eql then (dd es z.1).isNone else !(dd es z.1).isNone)) w:=λhu es t0 z vx hx q hq=>by
    obtain⟨ms,hms⟩:=qzq hu;rcases Gn hx with ⟨ty,u,i1,i2,_⟩|⟨i1,i2⟩
    ·subst i2;have he:(Op.equalIn (9999+1) t (.iface ty u) .nilIface).run P w=.ok false w:=qzr hms;have he2:Op.equal t (.iface ty u) .nilIface=Op.equalIn (9999+1) t (.iface ty u) .nilIface:=rfl;rcases hq with rfl|rfl
     ·have h1:binOp .eql t (.iface ty u) .nilIface=(do pure (.bool (<- Op.equal t (.iface ty u) .nilIface))):=rfl;rw[h1,he2];simp[eqGuard,he,i1]
     ·have h1:binOp .neq t (.iface ty u) .nilIface=(do pure (.bool (!(<- Op.equal t (.iface ty u) .nilIface)))):=rfl;rw[h1,he2];simp[eqGuard,he,i1]
    ·subst i2;have he:(Op.equalIn (9999+1) t .nilIface .nilIface).run P w=.ok true w:=qzs hms;have he2:Op.equal t .nilIface .nilIface=Op.equalIn (9999+1) t .nilIface .nilIface:=rfl;rcases hq with rfl|rfl
     ·have h1:binOp .eql t .nilIface .nilIface=(do pure (.bool (<- Op.equal t .nilIface .nilIface))):=rfl;rw[h1,he2];simp[eqGuard,he,i1]
     ·have h1:binOp .neq t .nilIface .nilIface=(do pure (.bool (!(<- Op.equal t .nilIface .nilIface)))):=rfl;rw[h1,he2];simp[eqGuard,he,i1]
   unfold Yr at hv;split at hv<;>try trivial
   ·rename_i es t0 z;split at hv<;>try trivial
    rename_i hui;cases hv;refine eo hm hb (dn (S:=do eqGuard .eql t x0 (.const .nilIface) (a.eval x0) .nilIface;binOp .eql t (a.eval x0) .nilIface) (by unfold execOp;rw[ho];rfl) (key hui es t0 z _ hr.1.2 .eql (.inl rfl))) ⟨rfl,rfl⟩
   ·rename_i es t0 z;split at hv<;>try trivial
    rename_i hui;cases hv;refine eo hm hb (dn (S:=do eqGuard .neq t x0 (.const .nilIface) (a.eval x0) .nilIface;binOp .neq t (a.eval x0) .nilIface) (by unfold execOp;rw[ho];rfl) (key hui es t0 z _ hr.1.2 .neq (.inr rfl))) ⟨rfl,rfl⟩
  split at hc<;>try trivial
  rename_i c n hcb;cases hc;obtain⟨u,h1,h2,h3⟩:=ql8 hcb hn hr.1 hr.2.1 x0 y0;exact eo hm hb (dn (S:=do eqGuard bo t x0 y0 (a.eval x0) (a.eval y0);binOp bo t (a.eval x0) (a.eval y0)) (by unfold execOp;rw[ho]) h1) ⟨h2,h3⟩
 ·
  rename_i uo t x0 k n;split at hc<;>try trivial
  cases hc;obtain⟨⟨_,h1,h2⟩,_⟩:=hr;refine eo hm hb (dn (S:=Op.unary .neg (a.eval x0)) (u:=.int k (k.wrap (0-n))) (by unfold execOp;rw[ho]) ?_) ⟨rfl,rfl,iQ _ _⟩;rw[h1];simp[Op.unary,Op.intArith]
 ·
  rename_i uo t x0 bb;split at hc<;>try trivial
  cases hc;obtain⟨⟨_,h1⟩,_⟩:=hr;simp only[bx]at h1;refine eo hm hb (dn (S:=Op.unary .not (a.eval x0)) (u:=.bool (!bb)) (by unfold execOp;rw[ho]) ?_) ⟨rfl,rfl⟩;rw[h1];simp[Op.unary]
 ·
  rename_i s t x0 k0 n;split at hc<;>try trivial
  rename_i ds k hs ht;cases hc;obtain⟨⟨_,h1,h2⟩,_⟩:=hr;refine eo hm hb (dn (S:=convert s t (a.eval x0)) (u:=.int k (k.wrap n)) (by unfold execOp;rw[ho]) ?_) ⟨rfl,rfl,iQ _ _⟩;rw[h1];simp[convert,ud6 hs,ud6 ht,Conv.intToInt]
 ·
  rename_i t n0 c0 k n k' c;obtain⟨⟨_,h1,_⟩,⟨_,h2,_⟩,_⟩:=hr;obtain⟨u,w',γ',e1,e2,e3,e4⟩:=zgb (kn:=k) (kc:=k') hm hb hB hd hc hn;refine jW (dn (S:=Instr.makeSlice t (a.eval n0) (a.eval c0)) (by unfold execOp;rw[ho]) ?_) e2 e3 e4;rw[h1,h2];exact e1
 ·
  rename_i t x0 lo hi mx x r;split at hc
  ·rename_i e' hcut;cases hc;have hops:(Op.slice t x0 lo hi mx).operands.toList.map a.eval=a.eval x0::(lo.toList.map a.eval++(hi.toList.map a.eval++(mx.toList.map a.eval++[]))):=by simp[Op.operands]
   rw[hops]at hr;obtain⟨h1,h2,h3,vh,u,γ',h4,h5,h6,h7,h8⟩:=qp3 hm hb hB hsub hd hcut hn hr.1 hr.2;cases lo with
   |some _=>cases h1
   |none=>
    cases mx with
    |some _=>cases h3
    |none=>
     cases hi with
     |none=>cases h2
     |some hh=>
      simp only[Option.toList,List.map_nil,uel,udn,uds,udr,and_true]at h4;refine jW (dn (S:=Instr.sliceAt t (a.eval x0) none (some (a.eval hh)) none) (w':=w) (by unfold execOp;rw[ho];rfl) ?_) h6 h7 h8;rw[h4];exact h5
  split at hc
  ·rename_i e' hsp;cases hc;split at hsp<;>try trivial
   rename_i hno;cases lo with
   |some _=>cases hno.1
   |none=>
    cases hi with
    |some _=>cases hno.2.1
    |none=>
     cases mx with
     |some _=>cases hno.2.2
     |none=>
      obtain⟨u,F1,e1,e2,e3,e4⟩:=zn5 hm hb hsub hsp hr.1;exact jW (dn (S:=Instr.sliceAt t (a.eval x0) none none none) (w':=w) (by unfold execOp;rw[ho];rfl) e1) e2 e3 e4
  split at hc<;>try trivial
  rename_i el x' u l r1 ht hrs hlo;split at hc<;>try trivial
  rename_i h r2 hhi;split at hc<;>try trivial
  rename_i k hmx;split at hc<;>try trivial
  rename_i cc hne;split at hc<;>try trivial
  rename_i tt y hly;split at hc<;>try trivial
  rename_i hcond;obtain⟨ti,hti⟩:=uar.1 hcond.1;split at hc<;>try trivial
  rename_i z n hsl;cases hc;have hops:(Op.slice t x0 lo hi mx).operands.toList.map a.eval=a.eval x0::(lo.toList.map a.eval++(hi.toList.map a.eval++(mx.toList.map a.eval++[]))):=by simp[Op.operands]
  rw[hops]at hr;obtain⟨F1,s1,m1,t1,r1⟩:=qam hm hb (dM.of hsub) hrs hr.1;obtain⟨⟨kl,q1⟩,hr2⟩:=Ot hlo hr.2;obtain⟨⟨kh,q2⟩,hr3⟩:=Ot hhi hr2;obtain⟨⟨kk,q3⟩,hr4⟩:=Ot hmx hr3;obtain⟨A,cap,hv,hrep⟩:=zcu hly r1.2;rw[hv]at hrep;obtain⟨v,e1,e2,e3⟩:=zn4 (P:=P) (w:=w) (F:=F1) (R:=av (aB M u) γ) (kl:=kl) (kh:=kh) (kk:=kk) ht hti hcond.2 hsl hn hrep;refine jW (dn (S:=Instr.sliceAt t (a.eval x0) (lo.map a.eval) (hi.map a.eval) (mx.map a.eval)) (w':=w) (by unfold execOp;rw[ho]) ?_) s1 m1 ⟨e2,e3⟩;rw[hv,q1,q2,q3];exact e1
 ·
  rename_i s x0 f x;split at hc<;>try trivial
  rename_i v hv;cases hc;obtain⟨u,h1,h2⟩:=qv9 hv hr.1;exact eo hm hb (dn (S:=Instr.fieldAt s (a.eval x0) f) (by unfold execOp;rw[ho]) h1) h2
 ·
  rename_i s x0 f cs;split at hc<;>try trivial
  rename_i fd hfd;split at hc<;>try trivial
  rename_i hcond;split at hc<;>try trivial
  rename_i l hl;split at hc<;>try trivial
  rename_i v hv;cases hc;obtain⟨u,h1,h2⟩:=qwa hfd hcond hl hv hr.1;exact eo hm hb (dn (S:=Instr.field s (a.eval x0) f) (by unfold execOp;rw[ho]) h1) h2
 ·
  rename_i t x0 i0 x k i;obtain⟨hx,⟨_,h2,_⟩,_⟩:=hr;obtain⟨h1,u,h3,h4⟩:=qzw (k:=k) hm hsub hc hn hx;rw[h1];refine eo hm hb (dn (S:=Instr.indexAt t (a.eval x0) (a.eval i0)) (by unfold execOp;rw[ho]) ?_) h4;rw[h2];exact h3
 ·
  rename_i t x0 i0 x k i;obtain⟨hx,⟨_,h2,_⟩,_⟩:=hr;obtain⟨h1,u,h3,h4⟩:=qzv (k:=k) hc hn hx;rw[h1];refine eo hm hb (dn (S:=Instr.index t (a.eval x0) (a.eval i0)) (by unfold execOp;rw[ho]) ?_) h4;rw[h2];exact h3
 ·
  rename_i t x0 y0 es n;split at hc<;>try trivial
  rename_i kt et ht;split at hc<;>try trivial
  rename_i hk hz;cases hc;obtain⟨⟨_,hx⟩,⟨_,hy,_⟩,_⟩:=hr;simp only[bx]at hx hy;obtain⟨r,arr,ck,e1,e2,e3,e4⟩:=hx;have hzv:(zeroValue et).run P w=.ok .nilFunc w:=by
   cases hi:P.info? et with
   |none=>simp[hi]at hz
   |some i=>simp[hi]at hz;simp[zeroValue,typeInfo,hi,hz]
  have hrun:=zcy (w:=w) ht hk hzv e3 e4 n;refine eo hm hb (dn (S:=Instr.lookup t (a.eval x0) (a.eval y0) true) (by unfold execOp;rw[ho]) (by rw[e1,hy];exact hrun)) ?_;refine⟨_,rfl,rfl,⟨jS (es.find? (λx=>x.1==n)),by simp,?_,?_⟩,⟨_,rfl,rfl,rfl⟩,uT⟩
  ·cases es.find? (λx=>x.1==n)<;>rfl
  ·simp only[bx]
 ·
  rename_i x0 i xs;split at hc<;>try trivial
  rename_i v hv;cases hc;obtain⟨⟨arr,h1,h2,h3⟩,_⟩:=hr;have hat:∀ (xs:List AV) (g:Nat->Value->Prop) (i:Nat) (v:AV),nG P w F (av M γ) xs g->xs[i]?= some v->∃ u,g i u/\aK P w F (av M γ) v u:=by
   intro xs
   induction xs with
   |nil=>intro g i v _ h;simp at h
   |cons y ys ih=>
    intro g i v h hi;cases i with
    |zero=>simp at hi;subst hi;exact h.1
    |succ i=>exact ih _ i v h.2 (by simpa using hi)
  obtain⟨u,h4,h5⟩:=hat xs _ i v h3 hv;refine eo hm hb (dn (S:=Instr.extract (a.eval x0) i) (by unfold execOp;rw[ho]) ?_) h5;rw[h1];simp[Instr.extract,h4]
 ·
  rename_i x0 xt ty es t x;split at hc<;>try trivial
  rename_i fs hu;split at hc<;>try trivial
  rename_i hz;cases hc;obtain⟨z,hzv⟩:∃ z,(zeroValue ty).run P w=.ok z w:=by
   cases hi:P.info? ty with
   |none=>simp[hi]at hz
   |some i=>
    cases hz2:i.zero with
    |none=>simp[hi,hz2]at hz
    |some z=>exact⟨z,by simp[zeroValue,typeInfo,hi,hz2]⟩
  have hx:=hr.1.2;rcases Gn hx with ⟨ty',u,i1,i2,_⟩|⟨i1,i2⟩
  ·by_cases he:ty'=ty
   ·subst he;refine eo hm hb (dn (S:=Instr.typeAssert (a.eval x0) xt ty' true) (u:=.tuple #[u,.bool true]) (by unfold execOp;rw[ho]) ?_) ?_
    ·rw[i2];simp[Instr.typeAssert,ud6 hu]
    ·refine⟨_,rfl,rfl,⟨u,rfl,uT⟩,⟨_,rfl,rfl,?_⟩,uT⟩;simp[bx,i1]
   ·refine eo hm hb (dn (S:=Instr.typeAssert (a.eval x0) xt ty true) (u:=.tuple #[z,.bool false]) (by unfold execOp;rw[ho]) ?_) ?_
    ·rw[i2];simp[Instr.typeAssert,ud6 hu,he,hzv]
    ·refine⟨_,rfl,rfl,⟨z,rfl,uT⟩,⟨_,rfl,rfl,?_⟩,uT⟩;simp[bx,i1,he]
  ·refine eo hm hb (dn (S:=Instr.typeAssert (a.eval x0) xt ty true) (u:=.tuple #[z,.bool false]) (by unfold execOp;rw[ho]) ?_) ?_
   ·rw[i2];simp[Instr.typeAssert,ud6 hu,hzv]
   ·refine⟨_,rfl,rfl,⟨z,rfl,uT⟩,⟨_,rfl,rfl,?_⟩,uT⟩;simp[bx,i1]
 ·
  rename_i xs f first cap
  split at hc<;>try trivial
  rename_i hf;split at hc<;>try trivial
  rename_i caps u hk;cases hc;have hfirst:first = #[]:=Array.eq_empty_of_size_eq_zero hf
  subst hfirst;have hops:(Op.makeFunc (.func f) #[] cap).operands.toList.map a.eval=(cap.map a.eval).toList:=by simp[Op.operands]
  rw[hops]at hr;obtain⟨F1,s1,m1,r1⟩:∃ F1,Step B w F γ M w F1 γ (aB M u)/\MemOK P B w F1 γ (aB M u)/\bI P w F1 (av (aB M u) γ) (caps.map .c) (cap.map a.eval).toList:=by
   split at hk
   ·exact H7 hm hb hsub hk hr
   ·obtain⟨rfl,h2⟩:=XB hk hr;exact⟨F,Step.refl hb,hm,h2⟩
  obtain⟨l1,l2⟩:=qnr r1;refine jW (dn (S:=Instr.makeFunc (.func f) ((#[]:Array Operand).map a.eval) (cap.map a.eval)) (u:=.func (.func f) #[] (cap.map a.eval)) (w':=w) (by unfold execOp;rw[ho]) ?_) s1 m1 ?_
  ·simp[Instr.makeFunc]
  ·exact⟨rfl,cap.map a.eval,rfl,by simpa using l1,by simpa using l2⟩
 ·
  rename_i xs bb cargs ts;have hops:(Op.call ⟨.builtin bb,cargs,ts⟩).operands.toList.map a.eval=(cargs.map a.eval).toList:=by simp[Op.operands,Call.operands]
  rw[hops]at hr;have hex:∀ (S:Sem Value) (u:Value) (w':World),(∀ (ty:TypeId) (cs:Array Bool),builtin bb ts ty cs (cargs.map a.eval)=(do pure (.value (<- S)):Sem Next))->S.run P w=.ok u w'->(execOp a.eval o).run P w=.ok (.value u) w':=by
   intro S u w' h1 h2;unfold execOp;rw[ho];simp[resolve,invoke,h1,h2]
  unfold Ta at hc;split at hc<;>try trivial
  ·rename_i t x hts;have hargs:∃ v,cargs.map a.eval = #[v]/\aK P w F (av M γ) x v:=by
    cases hl:(cargs.map a.eval).toList with
    |nil=>rw[hl]at hr;exact hr.elim
    |cons v r=>cases r with
     |nil=>rw[hl]at hr;exact⟨v,by rw[<- uc8,hl],hr.1⟩
     |cons _ _=>rw[hl]at hr;exact hr.2.elim
   obtain⟨v,hv,hx⟩:=hargs;have hts':ts = #[t]:=by rw[<- uc8,hts]
   obtain⟨h1,u,h2,h3⟩:=zcs hm hsub hc hx o.type;rw[h1];refine eo hm hb (hex (Builtin.len_ #[t] 0 #[v]) u w (λty cs=>?_) ?_) h3
   ·rw[hv,hts'];rfl
   ·exact h2
  ·rename_i t t' s x hts;split at hc<;>try trivial
   rename_i htt;subst htt;have hargs:∃ v1 v2,cargs.map a.eval = #[v1,v2]/\aK P w F (av M γ) s v1/\aK P w F (av M γ) x v2:=by
    cases hl:(cargs.map a.eval).toList with
    |nil=>rw[hl]at hr;exact hr.elim
    |cons v r=>cases r with
     |nil=>rw[hl]at hr;exact hr.2.elim
     |cons v2 r=>cases r with
      |nil=>rw[hl]at hr;exact⟨v,v2,by rw[<- uc8,hl],hr.1,hr.2.1⟩
      |cons _ _=>rw[hl]at hr;exact hr.2.2.elim
   obtain⟨v1,v2,hv,hs,hx⟩:=hargs;have hts':ts = #[t,t]:=by rw[<- uc8,hts]
   obtain⟨u,w',γ',h2,h3,h4,h5⟩:=qlg (ty:=0) hm hb hB hsub hd hc hn hs hx;refine jW (hex (Builtin.append_ #[t,t] 0 #[v1,v2]) u w' (λty cs=>?_) h2) h3 h4 h5;rw[hv,hts'];rfl
  ·rename_i k n r;split at hc<;>try trivial
   rename_i y hy;cases hc;cases hl:(cargs.map a.eval).toList with
   |nil=>rw[hl]at hr;exact hr.elim
   |cons v r0=>
    rw[hl]at hr;obtain⟨⟨_,rfl,hk⟩,hr⟩:=hr;obtain⟨h1,h2⟩:=Yf hy hk hr;refine eo hm hb (hex (Builtin.min_ ts 0 (cargs.map a.eval)) (.int k y) w (λty cs=>rfl) ?_) ⟨rfl,rfl,h2⟩;simp only[Builtin.min_,hl];exact h1
  ·rename_i k n r;split at hc<;>try trivial
   rename_i y hy;cases hc;cases hl:(cargs.map a.eval).toList with
   |nil=>rw[hl]at hr;exact hr.elim
   |cons v r0=>
    rw[hl]at hr;obtain⟨⟨_,rfl,hk⟩,hr⟩:=hr;obtain⟨h1,h2⟩:=XZ hy hk hr;refine eo hm hb (hex (Builtin.max_ ts 0 (cargs.map a.eval)) (.int k y) w (λty cs=>rfl) ?_) ⟨rfl,rfl,h2⟩;simp only[Builtin.max_,hl];exact h1
 ·
  rename_i recv name cargs ts es t x args;split at hc<;>try trivial
  rename_i args' u fs hrs hfs;split at hc<;>try trivial
  rename_i rs y n hv;cases hc;have hops:(Op.call ⟨.invoke recv name,cargs,ts⟩).operands.toList.map a.eval=a.eval recv::(cargs.map a.eval).toList:=by simp[Op.operands,Call.operands]
  rw[hops]at hr;obtain⟨F1,s1,m1,t1,r1⟩:=ke hm hb (dM.of hsub) hrs hr.2;have hx:=hr.1.2;rcases Gn hx with ⟨ty,v0,i1,i2,i3⟩|⟨i1,i2⟩
  ·have hrx:aK P w F1 (av (aB M u) γ) (eR t x.2) v0:=iH (i3.mono s1.hF (λ_ _=>rfl));obtain⟨f,e1,e2,e3⟩:=K5 hΓ (k:=x.1) s1.bd (vs:=v0::(cargs.map a.eval).toList) (args:=eR t x.2::args') ⟨hrx,r1⟩ hv hn;obtain⟨p,hp,hpf⟩:∃ p,fs.find? (λx'=>x'.1==x.1)=some p/\p.2=f:=by
    cases hq:fs.find? (λx'=>x'.1==x.1)with
    |none=>rw[hq]at e1;simp[jS]at e1
    |some p=>rw[hq]at e1;simp[jS]at e1;exact⟨p,rfl,e1⟩
   subst hpf;obtain⟨ty',j1,j2⟩:=Nj hfs hp;rw[i1]at j1;cases j1;intro K Q hK;unfold Oper.wp;have q1:(#[Value.iface ty v0]++Array.map a.eval cargs)[0]?= some (.iface ty v0):=by simp[Array.getElem?_append]
   have q2:(Array.map a.eval cargs).extract 0 cargs.size=Array.map a.eval cargs:=by
    have:cargs.size=(Array.map a.eval cargs).size:=by simp
    rw[this];exact Array.extract_size
   have hrun:(execOp a.eval o).run P w=.ok (.enter p.2 (#[v0]++cargs.map a.eval)) w:=by
    unfold execOp;rw[ho];simp only[resolve,ueu,uew,ucm,invoke,i2];rw[q1];have q3:(#[Value.iface ty v0]++Array.map a.eval cargs).extract 1 (#[Value.iface ty v0]++Array.map a.eval cargs).size=Array.map a.eval cargs:=by simp[q2]
    simp only[q3];rw[zl3 j2,e2]
   rw[hrun];show Calls P p.2 (#[v0]++cargs.map a.eval) w _;have fU:(v0::(cargs.map a.eval).toList).toArray = #[v0]++cargs.map a.eval:=by simp
   rw[fU]at e3;refine e3.mono λen w2 hp=>?_;obtain⟨v2,F2,rfl,hbel,hF2,hF2',hrep⟩:=hp;obtain⟨s2,m2⟩:=Step.below m1 hB s1.bd hbel hF2 hF2';exact hK v2 w2 F2 γ (s1.trans s2) m2 (xq hrep)
  ·obtain⟨p,hp⟩:=Tb hv hn;obtain⟨ty',j1,_⟩:=Nj hfs hp;rw[i1]at j1;cases j1
 ·
  rename_i f0 cargs ts es n id args;split at hc<;>try trivial
  rename_i ety cs hid;split at hc<;>try trivial
  rename_i T z ns hu;cases hc;have hops:(Op.call ⟨.value f0,cargs,ts⟩).operands.toList.map a.eval=a.eval f0::(cargs.map a.eval).toList:=by simp[Op.operands,Call.operands]
  rw[hops]at hr
  match hca:(cargs.map a.eval).toList,hr with
  |[],hr=>exact hr.2.elim
  |vp::vs,⟨⟨_,hf⟩,⟨_,hp⟩,hvs⟩=>
   have hf:a.eval f0=jS (es.find? (λx=>x.1==n)):=hf;obtain⟨b,arr,q1,rfl,q3,q4,q5,q6,q7⟩:=nM hm (hsub _ _ hid) hp;have hone:∀ u∈arr,u.oneCell'=true:=λu hu=>by
    obtain⟨j,hj,rfl⟩:=Array.getElem_of_mem hu;obtain⟨u',z1,z2,_⟩:=q7.at_ (j:=j) (c:=cs[j]'(by omega)) (uaq _);rw[uam hj]at z1;cases z1;exact z2
   obtain⟨hl,f,e1,e2,e3⟩:=qdn hΓ q3 q6 hone q7 hvs hu hn;intro K Q hK;unfold Oper.wp;have hrun:(execOp a.eval o).run P w=.ok (.enter f (cargs.map a.eval)) w:=by
    unfold execOp;rw[ho];simp[resolve,hf,e1,Deferred.ofValue,invoke,e2]
   rw[hrun];show Calls P f (cargs.map a.eval) w _;have fU:(Value.pointer (some ⟨b,0,none⟩)::vs).toArray=cargs.map a.eval:=by rw[<- hca]
   rw[fU]at e3;refine e3.mono λen w2 hp2=>?_;obtain⟨u,nv,rfl,r1,rfl,r2⟩:=hp2;have hrep:aS P w F (av M γ) (enc T z) (λj u=>(dg arr 0 nv)[j]?= some u):=by
    refine(aG.enc T z r2).turn λj u hj hu=>?_;rw[gV]at hj;have:=Cr (arr:=arr) (off:=0) (vs:=nv) (j:=j) (by omega) (by omega);rw[uez]at this;rw[this];exact hu
   obtain⟨s1,m1⟩:=so hm hb (hsub _ _ hid) q1 q3 q4 q5 (by omega) (by rw[gV];omega) hrep;have hov:dg arr 0 nv=nv.toArray:=by
    have:nv.length=arr.size:=by omega
    simp[dg,this]
   rw[hov]at s1 m1;exact hK u _ F γ s1 m1 trivial
 ·
  rename_i f0 cargs ts fv args _;split at hc
  ·rename_i rw0 hrow;have hops:(Op.call ⟨.value f0,cargs,ts⟩).operands.toList.map a.eval=a.eval f0::(cargs.map a.eval).toList:=by simp[Op.operands,Call.operands]
   rw[hops]at hr;unfold qaf at hrow;split at hrow<;>try trivial
   rename_i f1 _;obtain⟨_,arr,e1,e2,_⟩:=hr.1;have e3:arr = #[]:=Array.eq_empty_of_size_eq_zero e2;subst e3;obtain⟨hen,hcalls⟩:=zlu (hΓ.2 _ _ hrow) hm hb hB hsub hd hc hn hr.2;intro K Q hK;unfold Oper.wp;have hrun:(execOp a.eval o).run P w=.ok (.enter f1 (cargs.map a.eval)) w:=by
    unfold execOp;rw[ho];simp[resolve,e1,Deferred.ofValue,invoke,hen]
   rw[hrun];show Calls P f1 (cargs.map a.eval) w _;rw[ubf]at hcalls;refine hcalls.mono λen w2 hp=>?_;obtain⟨u,γ',rfl,s1,m1,r1⟩:=hp;exact hK u w2 F γ' s1 m1 r1
  split at hc<;>try trivial
  rename_i args' u hrs;split at hc<;>try trivial
  rename_i v n hv;cases hc;have hops:(Op.call ⟨.value f0,cargs,ts⟩).operands.toList.map a.eval=a.eval f0::(cargs.map a.eval).toList:=by simp[Op.operands,Call.operands]
  rw[hops]at hr;obtain⟨F1,s1,m1,t1,r1⟩:=ke hm hb (dM.of hsub) hrs hr.2;obtain⟨f,caps,e1,e2,rs,y,e3,e4⟩:=qnq hΓ hv hn s1.bd (s1.repA hr.1) r1;intro K Q hK;unfold Oper.wp;have hrun:(execOp a.eval o).run P w=.ok (.enter f (cargs.map a.eval++caps)) w:=by
   unfold execOp;rw[ho];simp[resolve,e1,Deferred.ofValue,invoke,e2]
  rw[hrun];show Calls P f (cargs.map a.eval++caps) w _;rw[ubf]at e4;refine e4.mono λe w2 hp=>?_;obtain⟨v2,F2,rfl,hbel,hF2,hF2',hrep⟩:=hp;obtain⟨s2,m2⟩:=Step.below m1 hB s1.bd hbel hF2 hF2';exact hK v2 w2 F2 γ (s1.trans s2) m2 (by rw[e3];exact xq hrep)
 ·cases hc
end
end Go.Ab
