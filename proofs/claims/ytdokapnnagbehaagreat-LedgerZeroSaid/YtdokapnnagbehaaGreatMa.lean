/-
  Parts of the proof, one behind the other.
-/
import Derived.Calls
import Derived.Below
import Derived.Laws.AppendOwn
import Derived.OwnWalk
import Derived.Maps.AppendAt
import Derived.Deep.Draws
import Derived.Deep.MidRow
import Derived.Laws.StructEq
import Derived.Laws.MakeOwn
set_option linter.all false
set_option maxRecDepth 100000
set_option maxHeartbeats 4000000
abbrev uaa:=@Array.getElem?_setIfInBounds_ne
abbrev uab:=@List.eq_nil_of_length_eq_zero
abbrev uac:=@Array.getD_eq_getD_getElem?
abbrev uad:=@Array.getElem?_append_right
abbrev uae:=@List.getElem?_append_right
abbrev uaf:=@Array.getElem?_eq_some_iff
abbrev uag:=@Int.fdiv_eq_ediv_of_nonneg
abbrev uah:=@List.getD_eq_getElem?_getD
abbrev uai:=@Array.getElem?_append_left
abbrev uaj:=@List.getElem?_append_left
abbrev uak:=@List.getElem?_eq_some_iff
abbrev ual:=@List.drop_eq_getElem_cons
abbrev uam:=@Array.getElem?_eq_getElem
abbrev uan:=@List.pairwise_iff_getElem
abbrev uao:=@List.getLast?_eq_getElem?
abbrev uap:=@List.mem_or_eq_of_mem_set
abbrev uaq:=@List.getElem?_eq_getElem
abbrev uar:=@Option.isSome_iff_exists
abbrev uas:=@Array.getElem?_replicate
abbrev uat:=@List.take_append_getElem
abbrev uau:=@List.getElem?_cons_zero
abbrev uav:=@decide_eq_false_iff_not
abbrev uaw:=@List.pairwise_lt_range'
abbrev uax:=@Nat.add_sub_cancel_left
abbrev uay:=@List.pairwise_singleton
abbrev uaz:=@List.length_eq_zero_iff
abbrev ua0:=@List.getElem?_set_self
abbrev ua1:=@Array.getElem?_eq_none
abbrev ua2:=@List.drop_eq_nil_of_le
abbrev ua3:=@List.take_of_length_le
abbrev ua4:=@List.getElem?_eq_none
abbrev ua5:=@Array.getElem?_toList
abbrev ua6:=@List.mem_append_right
abbrev ua7:=@List.length_singleton
abbrev ua8:=@List.mem_of_mem_erase
abbrev ua9:=@List.mem_iff_getElem?
abbrev uba:=@List.take_append_drop
abbrev ubb:=@Bool.cond_false_right
abbrev ubc:=@Go.World.cell?_of_block
abbrev ubd:=@Nat.mul_le_mul_right
abbrev ube:=@Array.toArray_toList
abbrev ubf:=@List.mem_of_getElem?
abbrev ubg:=@Array.mem_toList_iff
abbrev ubh:=@List.getElem?_set_ne
abbrev ubi:=@List.mem_cons_of_mem
abbrev ubj:=@List.mem_append_left
abbrev ubk:=@List.erase_cons_head
abbrev ubl:=@List.range_eq_range'
abbrev ubm:=@Array.replicate_succ
abbrev ubn:=@Array.replicate_zero
abbrev ubo:=@List.pairwise_append
abbrev ubp:=@List.mem_of_mem_take
abbrev ubq:=@List.mem_of_mem_drop
abbrev ubr:=@List.getElem?_of_mem
abbrev ubs:=@Go.Value.pointer.injEq
abbrev ubt:=@Array.length_toList
abbrev ubu:=@Go.World.grownBy_alloc
abbrev ubv:=@beq_eq_false_iff_ne
abbrev ubw:=@List.append_toArray
abbrev ubx:=@Bool.cond_true_left
abbrev uby:=@List.length_pos_iff
abbrev ubz:=@Nat.add_sub_cancel
abbrev ub0:=@List.getElem?_drop
abbrev ub1:=@List.getElem?_take
abbrev ub2:=@Bool.false_eq_true
abbrev ub3:=@Int.natCast_nonneg
abbrev ub4:=@Nat.eq_zero_or_pos
abbrev ub5:=@List.length_append
abbrev ub6:=@Go.grownCap_le_maxLen
abbrev ub7:=@Go.World.grownBy.refl
abbrev ub8:=@List.mem_filterMap
abbrev ub9:=@List.pairwise_cons
abbrev uca:=@Nat.lt_of_lt_of_le
abbrev ucb:=@List.mem_cons_self
abbrev ucc:=@Nat.lt_of_le_of_lt
abbrev ucd:=@Go.calls_of_wp_defers
abbrev uce:=@List.mem_singleton
abbrev ucf:=@Go.World.size_setCell
abbrev ucg:=@of_decide_eq_false
abbrev uch:=@Array.ext_getElem?
abbrev uci:=@List.filter_append
abbrev ucj:=@Go.heap_setCell_other
abbrev uck:=@Option.some.injEq
abbrev ucl:=@Go.Result.andThen_ok
abbrev ucm:=@Go.run_equalIn_bool'
abbrev ucn:=@List.getElem?_map
abbrev uco:=@Array.size_append
abbrev ucp:=@List.size_toArray
abbrev ucq:=@List.append_assoc
abbrev ucr:=@Go.World.ownsRow_nil
abbrev ucs:=@Nat.lt_trichotomy
abbrev uct:=@decide_eq_true_eq
abbrev ucu:=@Bool.not_eq_true'
abbrev ucv:=@List.mem_range'_1
abbrev ucw:=@of_decide_eq_true
abbrev ucx:=@List.push_toArray
abbrev ucy:=@Bool.eq_false_iff
abbrev ucz:=@Int.toNat_natCast
abbrev uc0:=@Go.heap_setCell_same
abbrev uc1:=@Go.setCell_eq_setRow
abbrev uc2:=@List.cons_append
abbrev uc3:=@List.length_take
abbrev uc4:=@List.length_drop
abbrev uc5:=@Array.toList_inj
abbrev uc6:=@List.all_eq_true
abbrev uc7:=@List.length_cons
abbrev uc8:=@Option.bind_some
abbrev uc9:=@Go.RowKit.Below.heap_alloc
abbrev uda:=@Bool.and_eq_true
abbrev udb:=@Option.getD_some
abbrev udc:=@List.range'_succ
abbrev udd:=@Go.IntKind.wrap_i64
abbrev ude:=@Go.World.size_alloc
abbrev udf:=@decide_eq_decide
abbrev udg:=@List.getElem_mem
abbrev udh:=@Int.ediv_nonneg
abbrev udi:=@List.length_nil
abbrev udj:=@List.nil_append
abbrev udk:=@List.all_append
abbrev udl:=@List.length_set
abbrev udm:=@Nat.min_eq_left
abbrev udn:=@List.cons.injEq
abbrev udo:=@List.append_nil
abbrev udp:=@List.mem_append
abbrev udq:=@Bool.or_eq_true
abbrev udr:=@Nat.zero_lt_one
abbrev uds:=@decide_eq_false
abbrev udt:=@List.map_append
abbrev udu:=@Bool.eq_iff_iff
abbrev udv:=@List.length_zip
abbrev udw:=@List.take_left'
abbrev udx:=@List.drop_left'
abbrev udy:=@List.range_succ
abbrev udz:=@List.length_map
abbrev ud0:=@Option.some.inj
abbrev ud1:=@ne_of_beq_false
abbrev ud2:=@Go.run_underlying
abbrev ud3:=@Go.eqGuard_at_int
abbrev ud4:=@Go.heap_alloc_new
abbrev ud5:=@List.take_take
abbrev ud6:=@List.mem_range
abbrev ud7:=@decide_eq_true
abbrev ud8:=@Int.mul_nonneg
abbrev ud9:=@Bool.and_assoc
abbrev uea:=@Bool.and_false
abbrev ueb:=@Nat.mul_le_mul
abbrev uec:=@List.drop_zero
abbrev ued:=@Prod.mk.injEq
abbrev uee:=@Nat.add_assoc
abbrev uef:=@List.mem_cons
abbrev ueg:=@List.all_cons
abbrev ueh:=@List.map_cons
abbrev uei:=@Bool.true_and
abbrev uej:=@Bool.and_true
abbrev uek:=@Nat.mul_assoc
abbrev uel:=@Nat.le_trans
abbrev uem:=@Nat.lt_or_ge
abbrev uen:=@Nat.add_comm
abbrev ueo:=@Int.sub_zero
abbrev uep:=@Go.Sem.run_bind
abbrev ueq:=@Int.le_of_lt
abbrev uer:=@Go.Sem.run_pure
abbrev ues:=@Nat.mul_comm
abbrev uet:=@Nat.succ_mul
abbrev ueu:=@Nat.zero_add
abbrev uev:=@Nat.add_zero
abbrev uew:=@Go.setRow_other
abbrev uex:=@Int.mul_comm
abbrev uey:=@Go.bodyPost_ret
abbrev uez:=@Go.results_none
abbrev ue0:=@Int.le_trans
abbrev ue1:=@Int.add_zero
abbrev ue2:=@Nat.le_of_lt
abbrev ue3:=@List.mem_map
abbrev ue4:=@Go.Addr.add_lit
abbrev ue5:=@Go.bodyPost_end
abbrev ue6:=@Nat.le_refl
abbrev ue7:=@Int.le_refl
abbrev ue8:=@Nat.add_mul
abbrev ue9:=@Go.setRow_heap
abbrev ufa:=@Go.calls_of_wp
abbrev ufb:=@Go.leaves_cons
abbrev ufc:=@Nat.zero_le
abbrev ufd:=@Nat.mod_lt
abbrev ufe:=@beq_iff_eq
abbrev uff:=@Go.RowKit.Below.refl
abbrev ufg:=@Int.not_lt
abbrev ufh:=@bne_iff_ne
abbrev ufi:=@Go.info_parts
abbrev ufj:=@Array.ext
abbrev ufk:=@Go.mem_ready
abbrev ufl:=@Go.wp_region
abbrev ufm:=@and_self
abbrev ufn:=@if_false
abbrev ufo:=@congrArg
abbrev ufp:=@Prod.ext
abbrev I6:=Go.IntKind.i64
theorem uT:True:=⟨⟩
open Option renaming some->U,none->V
open Bool renaming true->Z,false->Y
open Decidable renaming decide->J
open Go Go.RowKit
variable {T α σ ρ β:Type} {P:Program} {ad:Addr} {arr cs cur:Array Value} {f:FuncId} {x a y day:Int} {k:IntKind} {l:List Int} {xs vs news:List Value} {off i n b c d j B m len:Nat} {F F' K:Nat->Prop} {R g R':Nat->Value->Prop} {o:Oper} {p:Prop} {e ety t ty el:TypeId} {v u vx:Value} {w w' W' W:World}
namespace Go.Ab
open Go Go.RowKit
inductive Ty where
 |int (k:IntKind)
 |bool
 |str
 |sl (e:Ty)
 |unit
 |pair (a b:Ty)
 |fm (es:List (Int×Nat))
 |ic (es:List (Int×Nat)) (t:Ty)
 |fc (f:Option Nat)
 deriving DecidableEq
@[reducible] def Ty.den:Ty->Type
 |.int _=>Int
 |.bool=>Bool
 |.str=>ByteArray
 |.sl e=>List e.den
 |.unit=>Unit
 |.pair a b=>a.den×b.den
 |.fm _=>Unit
 |.ic _ t=>Int×t.den
 |.fc _=>Unit
def Ty.size:Ty->Nat
 |.unit=>0
 |.pair a b=>a.size+b.size
 |_=>1
def Ty.wide:Ty->Bool
 |.unit | .pair _ _=>Z
 |_=>Y
def Ty.flat:Ty->Bool
 |.sl _=>Y
 |.fm _=>Y
 |.ic _ t=>t.flat
 |.fc _=>Y
 |.pair a b=>a.flat&&b.flat
 |_=>Z
def Ty.dflt:(t:Ty)->t.den
 |.int _=>(0:Int)
 |.bool=>Y
 |.str=>ByteArray.empty
 |.sl _=>[]
 |.unit=>()
 |.pair a b=>(a.dflt,b.dflt)
 |.fm _=>()
 |.ic _ t=>(0,t.dflt)
 |.fc _=>()
def cD(es:List (Int×Nat))(k:Int):Option Nat:=(es.find? (λx=>x.1==k)).map (·.2)
def inR(k:IntKind)(n:Int):Prop:=k.min<=n/\n<=k.max
def aA(w:World)(F:Nat->Prop):(t:Ty)->t.den->(Nat->Value->Prop)->Prop
 |.int k,n,g=>g 0 (.int k n)/\inR k n
 |.bool,b,g=>g 0 (.bool b)
 |.str,s,g=>g 0 (.string s)/\s.size<=maxLen
 |.sl e,l,g=>∃ A c,g 0 (.slice A l.length c)/\l.length<=c/\c<=maxLen /\
   ∀ i x,l[i]?= U x->∃ ad,A=U ad/\F ad.block/\aA w F e x (λj u=>w.cell? (ad.add (i*e.size+j))=U u)
 |.unit,_,_=>True
 |.pair a b,x,g=>aA w F a x.1 g/\aA w F b x.2 (λj u=>g (a.size+j) u)
 |.fm es,_,g=>∃ r arr m,g 0 (.map (U r))/\F r/\w.heap[r]?= U (.map arr m)/\arr.toList.map (λe=>(e.key,e.val))=es.map (λx=>(Value.int .i64 x.1,Value.func (.func x.2) #[] #[]))
 |.ic es t,x,g=>(∃ ty u,cD es x.1=U ty/\g 0 (.iface ty u)/\u.cells.size=t.size/\(t.wide=Z↔∃ cs,u=.agg cs)/\aA w F t x.2 (λj v=>u.cells[j]?= U v))\/(cD es x.1=V/\g 0 .nilIface)
 |.fc f,_,g=>∃ u,g 0 u/\u.oneCell'=Z/\∀ k,f=U k->u=.func (.func k) #[] #[]
def Wf:(t:Ty)->t.den->Prop
 |.int k,n=>inR k n
 |.bool,_=>True
 |.str,s=>s.size<=maxLen
 |.sl e,l=>l.length<=maxLen/\∀ (i:Nat) (x:e.den),l[i]?= U x->Wf e x
 |.unit,_=>True
 |.pair a b,x=>Wf a x.1/\Wf b x.2
 |.fm _,_=>True
 |.ic _ _,_=>True
 |.fc _,_=>True
def aA.wf:{t:Ty} -> {x:t.den} -> {g:Nat->Value->Prop}->aA w F t x g->Wf t x
 |.int _,_,_,h=>h.2
 |.bool,_,_,_=>trivial
 |.str,_,_,h=>h.2
 |.sl _,_,_,h=>by
  obtain⟨A,c,_,j,m,q⟩:=h;exact⟨uel j m,λi x hi=>by
   obtain⟨ad,_,_,u⟩:=q i x hi;exact aA.wf u⟩
 |.unit,_,_,_=>trivial
 |.pair _ _,_,_,h=>⟨aA.wf h.1,aA.wf h.2⟩
 |.fm _,_,_,_=>trivial
 |.ic _ _,_,_,_=>trivial
 |.fc _,_,_,_=>trivial
def aA.mono(hF:∀ b,F b->F' b)(hw:∀ b,F b->w'.heap[b]?= w.heap[b]?):
  {t:Ty} -> {x:t.den} -> {g g':Nat->Value->Prop}->(∀ j u,j<t.size->g j u->g' j u)->aA w F t x g->aA w' F' t x g'
 |.int _,_,_,_,hg,h=>⟨hg _ _ (by simp[Ty.size]) h.1,h.2⟩
 |.bool,_,_,_,hg,h=>hg _ _ (by simp[Ty.size]) h
 |.str,_,_,_,hg,h=>⟨hg _ _ (by simp[Ty.size]) h.1,h.2⟩
 |.sl e,_,_,_,hg,h=>by
  obtain⟨A,c,h0,q,m,C⟩:=h;refine⟨A,c,hg _ _ (by simp[Ty.size]) h0,q,m,λi x hi=>?_⟩;obtain⟨ad,S,O,H⟩:=C i x hi;refine⟨ad,S,hF _ O,aA.mono hF hw (λj u _ hc=>?_) H⟩;rw[<- hc];refine ubc ?_;have:(ad.add (i*e.size+j)).block=ad.block:=by unfold Addr.add;split<;>rfl
  rw[this];exact hw _ O
 |.unit,_,_,_,_,_=>trivial
 |.pair a b,_,_,_,hg,h=>
  ⟨aA.mono hF hw (λj u W N=>hg j u (by simp only[Ty.size];omega) N) h.1,
   aA.mono hF hw (λj u W N=>hg _ u (by simp only[Ty.size];omega) N) h.2⟩
 |.fm _,_,_,_,hg,h=>by
  obtain⟨r,arr,P,q,m,C,H⟩:=h;exact⟨r,arr,P,hg _ _ (by simp[Ty.size]) q,hF r m,(hw r m).trans C,H⟩
 |.ic es t,_,_,_,hg,h=>by
  rcases h with ⟨ty,u,q,m,C,H,Q⟩|⟨q,m⟩
  exact .inl ⟨ty,u,q,hg _ _ (by simp[Ty.size]) m,C,H,aA.mono hF hw (λ_ _ _ h=>h) Q⟩;exact .inr ⟨q,hg _ _ (by simp[Ty.size]) m⟩
 |.fc f,_,_,_,hg,h=>by
  obtain⟨u,q,m,C⟩:=h;exact⟨u,hg _ _ (by simp[Ty.size]) q,m,C⟩
def bu(w:World)(F:Nat->Prop)(t:Ty)(x:t.den)(v:Value):Prop:=
 v.cells.size=t.size/\(t.wide=Z↔∃ cs,v=.agg cs)/\aA w F t x (λj u=>v.cells[j]?= U u)
def bu.mono(hF:∀ b,F b->F' b)(hw:∀ b,F b->w'.heap[b]?= w.heap[b]?){t:Ty}{x:t.den}(h:bu w F t x v):bu w' F' t x v:=⟨h.1,h.2.1,h.2.2.mono hF hw (λ_ _ _ h=>h)⟩
@[reducible] def aa:List Ty->Type
 |[]=>Unit
 |t::r=>t.den×aa r
def dM(w:World)(F:Nat->Prop):(ts:List Ty)->aa ts->List Value->Prop
 |[],_,vs=>vs=[]
 |t::r,x,vs=>∃ v i,vs=v::i/\bu w F t x.1 v/\dM w F r x.2 i
def dM.mono(hF:∀ b,F b->F' b)(hw:∀ b,F b->w'.heap[b]?= w.heap[b]?):{ts:List Ty} -> {x:aa ts} -> {vs:List Value}->dM w F ts x vs->dM w' F' ts x vs
 |[],_,_,h=>h
 |_::_,_,_,⟨v,i,j,m,q⟩=>⟨v,i,j,m.mono hF hw,dM.mono hF hw q⟩
def fi:(ts:List Ty)->aa ts->Prop
 |[],_=>True
 |t::r,x=>Wf t x.1/\fi r x.2
def dM.wf:{ts:List Ty} -> {x:aa ts} -> {vs:List Value}->dM w F ts x vs->fi ts x
 |[],_,_,_=>trivial
 |_::_,_,_,⟨_,_,_,i,j⟩=>⟨i.2.2.wf,dM.wf j⟩
def gT(w:World)(F:Nat->Prop):(ts:List Ty)->aa ts->Value->Prop
 |[t],x,v=>bu w F t x.1 v
 |ts,x,v=>∃ vs:Array Value,v=.tuple vs/\dM w F ts x vs.toList
def fJ(w:World)(F:Nat->Prop)(rs:List Ty)(y:aa rs)(e:Ending)(w':World):Prop:=
 ∃ v F',e=.returned v/\Below w.heap.size w w'/\(∀ b,F b->F' b)/\(∀ b,F' b->(F b\/w.heap.size<=b)/\b<w'.heap.size)/\gT w' F' rs y v
def jy(P:Program)(w:World)(F:Nat->Prop)(ps rs:List Ty)(g:aa ps->aa rs)(v:Value):Prop:=
 ∃ f i,v=.func (.func f) #[] i/\(∀ args m,(callFunc f args).run P m=.ok (.enter f args) m)/\∀ (j:World) (F1:Nat->Prop),(∀ b,F b->F1 b/\j.heap[b]?= w.heap[b]?)->(∀ b,F1 b->b<j.heap.size) ->
  ∀ xs vs,dM j F1 ps xs vs->Calls P f (vs.toArray++i) j (fJ j F1 rs (g xs))
def jy.mono(hF:∀ b,F b->F' b)(hw:∀ b,F b->w'.heap[b]?= w.heap[b]?){ps rs:List Ty}{g:aa ps->aa rs}(h:jy P w F ps rs g v):jy P w' F' ps rs g v:=by
 obtain⟨f,j,q,u,t⟩:=h;exact⟨f,j,q,u,λH F1 m hb xs vs C=>t H F1 (λb i=>⟨(m b (hF b i)).1,(m b (hF b i)).2.trans (hw b i)⟩) hb xs vs C⟩
def lq(P:Program)(w:World)(F:Nat->Prop)(ps rs:List Ty)(g:aa ps->aa rs)(D:aa ps->Prop)(v:Value):Prop:=
 ∃ f i,v=.func (.func f) #[] i/\(∀ args m,(callFunc f args).run P m=.ok (.enter f args) m)/\∀ (j:World) (F1:Nat->Prop),(∀ b,F b->F1 b/\j.heap[b]?= w.heap[b]?)->(∀ b,F1 b->b<j.heap.size) ->
  ∀ xs vs,D xs->dM j F1 ps xs vs->Calls P f (vs.toArray++i) j (fJ j F1 rs (g xs))
def lq.mono(hF:∀ b,F b->F' b)(hw:∀ b,F b->w'.heap[b]?= w.heap[b]?){ps rs:List Ty}{g:aa ps->aa rs}{D:aa ps->Prop}(h:lq P w F ps rs g D v):lq P w' F' ps rs g D v:=by
 obtain⟨f,j,q,u,t⟩:=h;exact⟨f,j,q,u,λN F1 m hb xs vs C H=>t N F1 (λb i=>⟨(m b (hF b i)).1,(m b (hF b i)).2.trans (hw b i)⟩) hb xs vs C H⟩
inductive AC where
 |dead
 |int (k:IntKind) (n:Int)
 |bool (b:Bool)
 |str (s:ByteArray)
 |nil
 |sl (t:Ty) (l:List t.den)
 |slx (t:Ty) (l:List t.den)
 |own (id:Nat)
 |ptr (id off:Nat)
 |sptr (cs:List AC)
 |fn (f:FuncId) (caps:List AC)
 |fv (ps rs:List Ty) (g:aa ps->aa rs)
 |pv (ps rs:List Ty) (g:aa ps->aa rs) (D:aa ps->Prop)
 |mp (es:List (Int×Nat))
 |fs (es:List (Int×Nat)) (n:Int)
 |ic (es:List (Int×Nat)) (t:Ty) (x:Int×t.den)
 |ifp (ty:TypeId) (id:Nat)
 |fb (f:FuncId) (id:Nat)
inductive AV where
 |dead
 |c (a:AC)
 |agg (cs:List AC)
 |tup (vs:List AV)
 |optr (id sz i off:Nat)
 |aptr (base:AC) (n:Nat) (i:Int)
 |maybe (g:Tmp) (want:Bool) (v:AV)
inductive Ob where
 |gone
 |box (ty:TypeId) (cs:List AC)
 |fbox (cs:List AC)
 |arr (ety:TypeId) (t:Ty) (l:List t.den)
 |frz (t:Ty) (l:List t.den)
 |hole (ety:TypeId) (t:Ty) (l:List t.den) (i:Nat)
def enc:(t:Ty)->t.den->List AC
 |.int k,n=>[.int k n]
 |.bool,b=>[.bool b]
 |.str,s=>[.str s]
 |.sl e,l=>[.sl e l]
 |.unit,_=>[]
 |.pair a b,x=>enc a x.1++enc b x.2
 |.fm es,_=>[.mp es]
 |.ic es t,x=>[.ic es t x]
 |.fc (U f),_=>[.fn f []]
 |.fc V,_=>[.dead]
def fl:{t:Ty}->(x:t.den)->(enc t x).length=t.size
 |.int _,_ | .bool,_ | .str,_ | .sl _,_ | .unit,_ | .fm _,_ | .ic _ _,_ | .fc (U _),_ | .fc V,_=>rfl
 |.pair a b,x=>by simp[enc,Ty.size,fl x.1,fl x.2]
def cA{t u:Ty}(h:t=u)(l:List t.den):List u.den:=h ▸ l
def oB(k:IntKind):List AC->Option (Int×List AC)
 |.int i n::r=>if k=i then U (n,r)else V
 |_=>V
def oA:List AC->Option (Bool×List AC)
 |.bool b::r=>U (b,r)
 |_=>V
def oD:List AC->Option (ByteArray×List AC)
 |.str s::r=>U (s,r)
 |_=>V
def oC(e:Ty):List AC->Option (List e.den×List AC)
 |.sl t l::r=>if h:t=e then U (cA h l,r)else V
 |.slx t l::r=>if h:t=e then U (cA h l,r)else V
 |.nil::r=>U ([],r)
 |_=>V
def qO(es:List (Int×Nat)):List AC->Option (Unit×List AC)
 |.mp i::r=>if i=es then U ((),r)else V
 |_=>V
def qc6{t u:Ty}(h:t=u)(x:Int×t.den):Int×u.den:=h ▸ x
def qN(es:List (Int×Nat))(t:Ty):List AC->Option ((Int×t.den)×List AC)
 |.ic i j x::r=>if h:j=t then if i=es then U (qc6 h x,r)else V else V
 |_=>V
def qM(f:Option Nat):List AC->Option (Unit×List AC)
 |.fn i []::r=>if f=U i then U ((),r)else V
 |.dead::r=>if f=V then U ((),r)else V
 |_=>V
def dec:(t:Ty)->List AC->Option (t.den×List AC)
 |.int k,cs=>oB k cs
 |.bool,cs=>oA cs
 |.str,cs=>oD cs
 |.sl e,cs=>oC e cs
 |.unit,cs=>U ((),cs)
 |.pair a b,cs=>match dec a cs with
  |some (x,j)=>match dec b j with
   |some (y,i)=>U ((x,y),i)
   |none=>V
  |none=>V
 |.fm es,cs=>qO es cs
 |.ic es t,cs=>qN es t cs
 |.fc f,cs=>qM f cs
inductive PT where
 |d (t:Ty)
 |ptr (t:Ty)
 |fn (ps rs:List Ty)
 |pf (ps rs:List Ty)
 |pfn (ps rs:List Ty)
 |pk (f:Nat)
 deriving DecidableEq
@[reducible] def PT.den:PT->Type
 |.d t=>t.den
 |.ptr t=>t.den
 |.fn ps rs=>aa ps->aa rs
 |.pf ps rs=>(aa ps->aa rs)×(aa ps->Prop)
 |.pfn ps rs=>aa ps->aa rs
 |.pk _=>Unit
@[reducible] def ag:List PT->Type
 |[]=>Unit
 |t::r=>t.den×ag r
def Fg(P:Program)(w:World)(F:Nat->Prop):(p:PT)->p.den->Value->Prop
 |.d t,x,v=>bu w F t x v
 |.ptr t,x,v=>∃ ad,v=.pointer (U ad)/\F ad.block/\aA w F t x (λj u=>w.cell? (ad.add j)=U u)
 |.fn ps rs,g,v=>jy P w F ps rs g v
 |.pf ps rs,g,v=>lq P w F ps rs g.1 g.2 v
 |.pfn ps rs,g,v=>∃ ad u,v=.pointer (U ad)/\F ad.block/\w.cell? (ad.add 0)=U u/\jy P w F ps rs g u
 |.pk f,_,v=>∃ ad,v=.pointer (U ad)/\F ad.block/\w.cell? (ad.add 0)=U (.func (.func f) #[] #[])
def cJ(P:Program)(w:World)(F:Nat->Prop):(ts:List PT)->ag ts->List Value->Prop
 |[],_,vs=>vs=[]
 |t::r,x,vs=>∃ v i,vs=v::i/\Fg P w F t x.1 v/\cJ P w F r x.2 i
def av:List Prop->Prop
 |[]=>True
 |[p]=>p
 |p::r=>p/\av r
def je{r:List Prop}:av (p::r)↔p/\av r:=by
 cases r with
 |nil=>exact⟨λh=>⟨h,uT⟩,λh=>h.1⟩
 |cons q r=>exact Iff.rfl
def jd{a b:List Prop}:av (a++b)↔av a/\av b:=by
 induction a with
 |nil=>exact⟨λh=>⟨uT,h⟩,λh=>h.2⟩
 |cons p a i=>rw[uc2,je,je,i,and_assoc]
structure Ct where
 ps:List PT
 rs:List Ty
 f:ag ps->aa rs
 ok:ag ps->List Prop
def af(P:Program)(i:FuncId)(ct:Ct):Prop:=
 (∀ args w,(callFunc i args).run P w=.ok (.enter i args) w) /\
 ∀ (w:World) (F:Nat->Prop) xs vs,(∀ b,F b->b<w.heap.size)->cJ P w F ct.ps xs vs->av (ct.ok xs)->Calls P i vs.toArray w (fJ w F ct.rs (ct.f xs))
structure PV where
 ty:TypeId
 k:IntKind
 n:Int
def PV.val(p:PV):Value:=if p.ty<1000000 then .iface p.ty (.int p.k p.n)else .iface (p.ty-1000000) (.agg #[.int p.k p.n])
def WG{p:PV}(h:p.ty<1000000):p.val=.iface p.ty (.int p.k p.n):=if_pos h
def WF{p:PV}{T:TypeId}(h:p.ty=T+1000000):p.val=.iface T (.agg #[.int p.k p.n]):=by
 unfold PV.val;have j:¬ p.ty<1000000:=by rw[h];exact Nat.not_lt.2 (Nat.le_add_left _ _)
 have i:p.ty-1000000=T:=by rw[h];exact ubz T 1000000
 rw[if_neg j,i]
structure Pc where
 ps:List PT
 rs:List Ty
 f:ag ps->aa rs
 bad:ag ps->Bool
 pv:ag ps->PV
 ok:ag ps->List Prop
def jz(P:Program)(i:FuncId)(ct:Pc):Prop:=
 (∀ args w,(callFunc i args).run P w=.ok (.enter i args) w) /\
 ∀ (w:World) (F:Nat->Prop) xs vs,(∀ b,F b->b<w.heap.size)->cJ P w F ct.ps xs vs->av (ct.ok xs)->Calls P i vs.toArray w λe w'=>
  (ct.bad xs=Y/\fJ w F ct.rs (ct.f xs) e w')\/(ct.bad xs=Z/\e=.panicked [{ v:=(ct.pv xs).val,recovered:=Y }]/\Below w.heap.size w w')
structure St where
 n:Nat
 sl:Nat->AV
 mem:Nat->Option Ob
 gs:Nat->AV
def ap(mem:Nat->Option Ob)(γ:Nat->Value)(id:Nat)(v:Value):Prop:=
 match mem id with
 |none=>False
 |some .gone=>True
 |some _=>v=γ id
def ie:Option (Int×Nat)->Value
 |some x=>.func (.func x.2) #[] #[]
 |none=>.nilFunc
section
variable (P:Program) (w:World) (F:Nat->Prop) (R:Nat->Value->Prop)
mutual
def bc:AC->Value->Prop
 |.dead,_=>True
 |.int k n,v=>v = .int k n/\inR k n
 |.bool b,v=>v = .bool b
 |.str s,v=>v = .string s/\s.size<=maxLen
 |.nil,v=>v = .slice none 0 0
 |.sl t l,v=>aA w F (.sl t) l (λ_ u=>u=v)
 |.slx t l,v=>∃ A,v = .slice A l.length l.length/\aA w F (.sl t) l (λ_ u=>u=v)
 |.own id,v=>R id v
 |.ptr id off,v=>∃ b,R id (.pointer (some ⟨b,0,none⟩))/\v = .pointer (some ⟨b,off,none⟩)
 |.sptr cs,v=>∃ ad,v = .pointer (some ad)/\F ad.block/\aN cs (λj u=>w.cell? (ad.add j)=some u)
 |.fn f caps,v=>∃ vs:Array Value,v = .func (.func f) #[] vs/\vs.size=caps.length/\aN caps (λj u=>vs[j]? = some u)
 |.fv ps rs g,v=>jy P w F ps rs g v
 |.pv ps rs g D,v=>lq P w F ps rs g D v
 |.mp es,v=>∃ r arr ck,v = .map (some r)/\F r/\w.heap[r]? = some (.map arr ck)/\arr.toList.map (λe=>(e.key,e.val))=es.map (λx=>(Value.int .i64 x.1,Value.func (.func x.2) #[] #[]))
 |.fs es n,v=>v=ie (es.find? (λx=>x.1==n))
 |.ic es t x,v=>aA w F (.ic es t) x (λ_ u=>u=v)
 |.ifp ty id,v=>∃ b,R id (.pointer (some ⟨b,0,none⟩))/\v = .iface ty (.pointer (some ⟨b,0,none⟩))
 |.fb f id,v=>∃ b,R id (.pointer (some ⟨b,0,none⟩))/\v = .func (.func f) #[.pointer (some ⟨b,0,none⟩)] #[]
def aN:List AC->(Nat->Value->Prop)->Prop
 |[],_=>True
 |c::r,g=>(∃ u,g 0 u/\u.oneCell'=true/\bc c u)/\aN r (λj u=>g (j+1) u)
end
mutual
def aE:AV->Value->Prop
 |.dead,_=>True
 |.c a,v=>v.oneCell'=true/\bc P w F R a v
 |.agg cs,v=>∃ arr:Array Value,v = .agg arr/\arr.size=cs.length/\aN P w F R cs (λj u=>arr[j]? = some u)
 |.tup vs,v=>∃ arr:Array Value,v = .tuple arr/\arr.size=vs.length/\ln vs (λj u=>arr[j]? = some u)
 |.optr id sz i off,v=>∃ A n c,R id (.slice (some A) n c)/\v = .pointer (some (A.add (i*sz+off)))
 |.aptr base n i,v=>∃ ad,bc P w F R base (.pointer (some ad))/\0<=i/\i<n/\v = .pointer (some (ad.add i.toNat))
 |.maybe _ _ _,_=>False
def ln:List AV->(Nat->Value->Prop)->Prop
 |[],_=>True
 |c::r,g=>(∃ u,g 0 u/\aE c u)/\ln r (λj u=>g (j+1) u)
end
end
section
variable {P:Program} {w w':World} {F F':Nat->Prop} {R R':Nat->Value->Prop}
mutual
def bc.mono (hF:∀ b,F b->F' b) (hw:∀ b,F b->w'.heap[b]? = w.heap[b]?) (hR:∀ id v,R id v->R' id v):(c:AC) -> {v:Value}->bc P w F R c v->bc P w' F' R' c v
 |.dead,_,_=>trivial
 |.int _ _,_,h=>h
 |.bool _,_,h=>h
 |.str _,_,h=>h
 |.nil,_,h=>h
 |.sl _ _,_,h=>by
  simp only[bc] at h |-;exact aA.mono (t:=.sl _) hF hw (λ_ _ _ h=>h) h
 |.slx _ _,_,⟨A,h1,h2⟩=>⟨A,h1,aA.mono (t:=.sl _) hF hw (λ_ _ _ h=>h) h2⟩
 |.own id,_,h=>hR id _ h
 |.ptr id off,_,⟨u,h1,h2⟩=>⟨u,hR _ _ h1,h2⟩
 |.sptr cs,_,⟨ad,h1,h2,h3⟩=>⟨ad,h1,hF _ h2,aN.mono hF hw hR cs (λj u hu=>by
   rw[<- hu];refine ubc ?_;have:(ad.add j).block=ad.block:=by unfold Addr.add; split<;>rfl
   rw[this];exact hw _ h2) h3⟩
 |.fn f caps,_,⟨vs,h1,h2,h3⟩=>⟨vs,h1,h2,aN.mono hF hw hR caps (λ_ _ h=>h) h3⟩
 |.fv _ _ _,_,h=>by
  simp only[bc] at h |-;exact jy.mono hF hw h
 |.pv _ _ _ _,_,h=>by
  simp only[bc] at h |-;exact lq.mono hF hw h
 |.mp _,_,h=>by
  obtain⟨r,arr,ck,h1,h2,h3,h4⟩:=h;exact⟨r,arr,ck,h1,hF r h2,(hw r h2).trans h3,h4⟩
 |.fs _ _,_,h=>h
 |.ic _ _ _,_,h=>by
  simp only[bc] at h |-;exact aA.mono (t:=.ic _ _) hF hw (λ_ _ _ h=>h) h
 |.ifp _ _,_,⟨b,h1,h2⟩=>⟨b,hR _ _ h1,h2⟩
 |.fb _ _,_,⟨b,h1,h2⟩=>⟨b,hR _ _ h1,h2⟩
def aN.mono (hF:∀ b,F b->F' b) (hw:∀ b,F b->w'.heap[b]? = w.heap[b]?) (hR:∀ id v,R id v->R' id v) :
  (cs:List AC) -> {g g':Nat->Value->Prop}->(∀ j u,g j u->g' j u)->aN P w F R cs g->aN P w' F' R' cs g'
 |[],_,_,_,_=>trivial
 |c::r,_,_,hg,⟨⟨u,h1,h2,h3⟩,h4⟩=>⟨⟨u,hg _ _ h1,h2,bc.mono hF hw hR c h3⟩,aN.mono hF hw hR r (λ_ _ h=>hg _ _ h) h4⟩
end
mutual
def aE.mono (hF:∀ b,F b->F' b) (hw:∀ b,F b->w'.heap[b]? = w.heap[b]?) (hR:∀ id v,R id v->R' id v):(c:AV) -> {v:Value}->aE P w F R c v->aE P w' F' R' c v
 |.dead,_,_=>trivial
 |.c a,_,h=>⟨h.1,bc.mono hF hw hR a h.2⟩
 |.agg cs,_,⟨arr,h1,h2,h3⟩=>⟨arr,h1,h2,aN.mono hF hw hR cs (λ_ _ h=>h) h3⟩
 |.tup vs,_,⟨arr,h1,h2,h3⟩=>⟨arr,h1,h2,ln.mono hF hw hR vs (λ_ _ h=>h) h3⟩
 |.optr _ _ _ _,_,⟨A,n,c,h1,h2⟩=>⟨A,n,c,hR _ _ h1,h2⟩
 |.aptr base _ _,_,⟨ad,h1,h2⟩=>⟨ad,bc.mono hF hw hR base h1,h2⟩
 |.maybe _ _ _,_,h=>h
def ln.mono (hF:∀ b,F b->F' b) (hw:∀ b,F b->w'.heap[b]? = w.heap[b]?) (hR:∀ id v,R id v->R' id v) :
  (cs:List AV) -> {g g':Nat->Value->Prop}->(∀ j u,g j u->g' j u)->ln P w F R cs g->ln P w' F' R' cs g'
 |[],_,_,_,_=>trivial
 |c::r,_,_,hg,⟨⟨u,h1,h3⟩,h4⟩=>⟨⟨u,hg _ _ h1,aE.mono hF hw hR c h3⟩,ln.mono hF hw hR r (λ_ _ h=>hg _ _ h) h4⟩
end
end
def aN.at_:{cs:List AC} -> {g:Nat->Value->Prop}->aN P w F R cs g ->
  ∀ {j:Nat} {c:AC},cs[j]?= U c->∃ u,g j u/\u.oneCell'=Z/\bc P w F R c u
 |[],_,_,_,_,h=>by simp at h
 |_::_,_,h,0,_,hc=>by simp at hc;subst hc;exact h.1
 |_::_,_,h,j+1,_,hc=>aN.at_ h.2 (by simpa using hc)
def ki:(cs:List AC) -> {g:Nat->Value->Prop} ->
  (∀ (j:Nat) (c:AC),cs[j]?= U c->∃ u,g j u/\u.oneCell'=Z/\bc P w F R c u)->aN P w F R cs g
 |[],_,_=>trivial
 |c::r,_,h=>⟨h 0 c rfl,ki r (λj i hc=>h (j+1) i (by simpa using hc))⟩
def aN.append(a b:List AC)(q:aN P w F R a g)(hb:aN P w F R b (λj u=>g (a.length+j) u)):aN P w F R (a++b) g:=by
 refine ki _ λj c hc=>?_;rcases uem j a.length with h|h
 rw[uaj h]at hc;exact q.at_ hc;rw[uae h]at hc;obtain⟨u,i,m⟩:=hb.at_ hc;rw[show a.length+(j-a.length)=j from by omega]at i;exact⟨u,i,m⟩
def aA.enc:(t:Ty)->(x:t.den) -> {g:Nat->Value->Prop}->aA w F t x g->aN P w F R (Ab.enc t x) g
 |.int k,n,g,h=>⟨⟨_,h.1,rfl,rfl,h.2⟩,uT⟩
 |.bool,b,g,h=>⟨⟨_,h,rfl,rfl⟩,uT⟩
 |.str,b,g,h=>⟨⟨_,h.1,rfl,rfl,h.2⟩,uT⟩
 |.sl e,l,g,h=>by
  obtain⟨A,c,h0,i,j,m⟩:=h;exact⟨⟨_,h0,rfl,⟨A,c,rfl,i,j,m⟩⟩,uT⟩
 |.unit,_,_,_=>trivial
 |.pair a b,x,g,h=>aN.append _ _ (aA.enc a x.1 h.1) (by rw[fl];exact aA.enc b x.2 h.2)
 |.fm es,_,g,h=>by
  obtain⟨r,arr,C,i,j,m,q⟩:=h;exact⟨⟨_,i,rfl,⟨r,arr,C,rfl,j,m,q⟩⟩,uT⟩
 |.ic es t,x,g,h=>by
  rcases h with ⟨ty,u,i,j,m,q,H⟩|⟨i,j⟩
  exact⟨⟨_,j,rfl,.inl ⟨ty,u,i,rfl,m,q,H⟩⟩,uT⟩;exact⟨⟨_,j,rfl,.inr ⟨i,rfl⟩⟩,uT⟩
 |.fc (U k),_,g,h=>by
  obtain⟨u,i,j,m⟩:=h;exact⟨⟨u,i,j,#[],m k rfl,rfl,uT⟩,uT⟩
 |.fc V,_,g,h=>by
  obtain⟨u,i,j,_⟩:=h;exact⟨⟨u,i,j,uT⟩,uT⟩
def aN.split(a b:List AC)(h:aN P w F R (a++b) g):aN P w F R a g/\aN P w F R b (λj u=>g (a.length+j) u):=
 ⟨ki _ λj c hc=>h.at_ (by rw[uaj (uak.1 hc).1];exact hc),
  ki _ λj c hc=>h.at_ (j:=a.length+j) (by rw[uae (Nat.le_add_right _ _),uax];exact hc)⟩
def LH:(t:Ty)->(x:t.den) -> {g:Nat->Value->Prop}->aN P w F R (Ab.enc t x) g->aA w F t x g
 |.int k,n,g,⟨⟨u,i,_,j,m⟩,_⟩=>⟨j ▸ i,m⟩
 |.bool,b,g,⟨⟨u,i,_,j⟩,_⟩=>by
  obtain rfl:u=.bool b:=j;exact i
 |.str,b,g,⟨⟨u,i,_,j,m⟩,_⟩=>⟨j ▸ i,m⟩
 |.sl e,l,g,⟨⟨u,i,_,A,c,j,m⟩,_⟩=>⟨A,c,j ▸ i,m⟩
 |.unit,_,_,_=>trivial
 |.pair a b,x,g,h=>by
  obtain⟨i,q⟩:=aN.split _ _ h;rw[fl]at q;exact⟨LH a x.1 i,LH b x.2 q⟩
 |.fm es,_,g,⟨⟨u,i,_,r,arr,Q,j,m⟩,_⟩=>⟨r,arr,Q,j ▸ i,m⟩
 |.ic es t,x,g,⟨⟨u,i,_,j⟩,_⟩=>by
  rcases j with ⟨ty,v,C,H,O⟩|⟨C,H⟩
  exact .inl ⟨ty,v,C,H ▸ i,O⟩;exact .inr ⟨C,H ▸ i⟩
 |.fc (U k),_,g,⟨⟨u,i,q,vs,j,m,_⟩,_⟩=>by
  have S:=Array.size_eq_zero_iff.mp m;subst S;exact⟨u,i,q,λf N=>by cases N;exact j⟩
 |.fc V,_,g,⟨⟨u,i,q,_⟩,_⟩=>⟨u,i,q,λf N=>nomatch N⟩
section
variable {P:Program} {w:World} {F:Nat->Prop} {R:Nat->Value->Prop}
def qxd{cs:List AC}{r:List AC}(h:oB k cs=U (x,r))(C:aN P w F R cs g):
  (g 0 (.int k x)/\inR k x)/\aN P w F R r (λj u=>g (1+j) u):=by
 unfold oB at h;split at h;split at h;rename_i t;subst t;cases h;obtain⟨⟨u,i,_,rfl,m⟩,q⟩:=C;exact⟨⟨i,m⟩,by simpa[uen]using q⟩;cases h;cases h
def qxc{cs:List AC}{x:Bool}{r:List AC}(h:oA cs=U (x,r))(q:aN P w F R cs g):
  g 0 (.bool x)/\aN P w F R r (λj u=>g (1+j) u):=by
 unfold oA at h;split at h;cases h;obtain⟨⟨u,i,_,rfl⟩,m⟩:=q;exact⟨i,by simpa[uen]using m⟩;cases h
def qxf{cs:List AC}{x:ByteArray}{r:List AC}(h:oD cs=U (x,r))(t:aN P w F R cs g):
  (g 0 (.string x)/\x.size<=maxLen)/\aN P w F R r (λj u=>g (1+j) u):=by
 unfold oD at h;split at h;cases h;obtain⟨⟨u,i,_,rfl,m⟩,q⟩:=t;exact⟨⟨i,m⟩,by simpa[uen]using q⟩;cases h
def qxe{e:Ty}{cs:List AC}{x:List e.den}{r:List AC}(h:oC e cs=U (x,r))(H:aN P w F R cs g):
  aA w F (.sl e) x g/\aN P w F R r (λj u=>g (1+j) u):=by
 unfold oC at h;split at h;split at h;rename_i t l O N;subst N;cases h;obtain⟨⟨u,m,_,q⟩,C⟩:=H;refine⟨?_,by simpa[uen]using C⟩;obtain⟨A,c,e1,e2⟩:=q;subst e1;exact⟨A,c,m,e2⟩;cases h;split at h;rename_i t l O N;subst N;cases h;obtain⟨⟨u,m,_,q⟩,C⟩:=H;refine⟨?_,by simpa[uen]using C⟩;obtain⟨_,_,A,c,e1,e2⟩:=q;subst e1;exact⟨A,c,m,e2⟩;cases h;cases h;obtain⟨⟨u,m,_,q⟩,C⟩:=H;subst q;exact⟨⟨V,0,m,ue6 _,by simp,λi x hi=>by simp at hi⟩,by simpa[uen]using C⟩;cases h
def aA.dec:(t:Ty) -> {cs:List AC} -> {x:t.den} -> {r:List AC} -> {g:Nat->Value->Prop}->Ab.dec t cs=U (x,r)->aN P w F R cs g ->
  aA w F t x g/\aN P w F R r (λj u=>g (t.size+j) u)
 |.int _,_,_,_,_,h,i=>qxd h i
 |.bool,_,_,_,_,h,i=>qxc h i
 |.str,_,_,_,_,h,i=>qxf h i
 |.sl _,_,_,_,_,h,i=>qxe h i
 |.unit,_,_,_,_,h,i=>by
  obtain⟨_,rfl⟩:=h;exact⟨uT,by simpa[Ty.size]using i⟩
 |.pair a b,cs,x,r,g,h,i=>by
  simp only[Ab.dec]at h;split at h;rename_i x1 r1 m;split at h;rename_i x2 r2 N;cases h;obtain⟨e1,e2⟩:=aA.dec a m i;obtain⟨C,H⟩:=aA.dec b N e2;exact⟨⟨e1,C⟩,by simpa[Ty.size,uee]using H⟩;cases h;cases h
 |.fm es,cs,x,r,g,h,i=>by
  simp only[Ab.dec]at h;unfold qO at h;split at h<;>try trivial
  split at h<;>try trivial
  rename_i Q;subst Q;obtain⟨_,rfl⟩:=h;obtain⟨⟨u,m,_,O⟩,q⟩:=i;obtain⟨r',arr,ck,rfl,e2,C,H⟩:=O;exact⟨⟨r',arr,ck,m,e2,C,H⟩,by simpa[Ty.size,uen]using q⟩
 |.ic es t,cs,x,r,g,h,i=>by
  simp only[Ab.dec]at h;unfold qN at h;split at h<;>try trivial
  split at h<;>try trivial
  rename_i ht;subst ht;split at h<;>try trivial
  rename_i Q;subst Q;cases h;obtain⟨⟨u,m,_,O⟩,q⟩:=i;refine⟨?_,by simpa[Ty.size,uen]using q⟩;rcases O with ⟨ty,v,e1,e2,C,H,e5⟩|⟨e1,e2⟩
  exact .inl ⟨ty,v,e1,by rw[e2];exact m,C,H,e5⟩;exact .inr ⟨e1,by rw[e2];exact m⟩
 |.fc f,cs,x,r,g,h,i=>by
  simp only[Ab.dec]at h;unfold qM at h;split at h<;>try trivial
  split at h<;>try trivial
  rename_i S;subst S;obtain⟨_,rfl⟩:=h;obtain⟨⟨u,m,N,O⟩,q⟩:=i;obtain⟨vs,rfl,h5,_⟩:=O;have h6:=Array.size_eq_zero_iff.mp h5;subst h6;exact⟨⟨_,m,N,λk W=>by cases W;rfl⟩,by simpa[Ty.size,uen]using q⟩;split at h<;>try trivial
  rename_i S;subst S;obtain⟨_,rfl⟩:=h;obtain⟨⟨u,m,N,_⟩,q⟩:=i;exact⟨⟨u,m,N,λk W=>nomatch W⟩,by simpa[Ty.size,uen]using q⟩
end
def cj:Nat:=1099511627776
def dL:Nat:=1208925819614629174706176
def ed(j off i:Nat):Nat:=j+cj*(1+off+1024*i)
def rY(e:Nat):Nat:=e%cj
def cB(e:Nat):Nat:=(e/cj-1)%1024
def jV(e:Nat):Nat:=(e/cj-1)/1024
def IU(w:World)(sz off:Nat)(v:Value)(i:Nat)(u:Value):Prop:=∃ A n c,v=.slice (U A) n c/\w.cell? (A.add (i*sz+off))=U u
def innB(w:World)(e sz n:Nat)(K:Nat->Prop)(v:Value)(b:Nat):Prop:=∃ i u,i<n/\¬ K i/\IU w sz (cB e) v i u/\u.ownBlock=U b
def bK(w:World):Ob->Value->Nat->Prop
 |.box _ _,v,b=>∃ a,v=.pointer (U a)/\a.block=b
 |.arr e t l,v,b=>v.ownBlock=U b\/(cj<=e/\innB w e t.size l.length (λ_=>False) v b)\/v=.map (U b)
 |.hole e t l i,v,b=>v.ownBlock=U b\/innB w e t.size l.length (· = i) v b
 |_,_,_=>False
section
variable (P:Program) (B:Nat) (w:World) (F:Nat->Prop) (R:Nat->Value->Prop)
def bU(t:Ty)(l:List t.den)(xs:List Value):Prop:=
 ∀ i x,l[i]?= U x->aA w F t x (λj u=>xs[i*t.size+j]?= U u)
structure RwOK (v:Value) (e:Nat) (t:Ty) (l:List t.den) (K:Nat->Prop) (xs:List Value):Prop where
 own:w.ownsRow B (rY e) t.size v l.length xs
 nf:∀ g,v.ownBlock=some g->¬ F g
 one:∀ u∈xs,u.oneCell'=true
 cells:∀ (i:Nat) x k c,l[i]?= some x->(enc t x)[k]?= some c->k≠cB e->∃ u,xs[i*t.size+k]?= some u/\bc P w F (λ_ _=>False) c u
 inn:∀ (i:Nat) x,l[i]?= some x->¬ K i->∃ t' li u ys,(enc t x)[cB e]?= some (.sl t' li)/\xs[i*t.size+cB e]?= some u/\w.ownsRow B (jV e) t'.size u li.length ys/\bU w F t' li ys/\(∀ y∈ys,y.oneCell'=true) /\
  ∀ b,u.ownBlock=some b->v.ownBlock≠some b/\¬ F b
 disj:∀ i j ui uj b,i<l.length->j<l.length->¬ K i->¬ K j->i≠j->xs[i*t.size+cB e]?= some ui->xs[j*t.size+cB e]?= some uj->ui.ownBlock=some b->uj.ownBlock≠some b
def wE(t:Ty)(l:List t.den)(v:Value):Prop:=
 ∃ b es m,v=.map (U b)/\w.heap[b]?= U (.map es m)/\¬ F b/\B<=b/\t.flat=Z/\es.size=l.length/\l.length<=maxLen /\
  ∀ (i:Nat) x,l[i]?= U x->∃ e,es[i]?= U e/\e.key.oneCell'=Z/\e.val.oneCell'=Z/\aA w (λ_=>False) t x (λj u=>[e.key,e.val][j]?= U u)
def gg(v:Value)(ety:Nat)(t:Ty)(l:List t.den):Prop:=
 ∃ xs,w.ownsRow B ety t.size v l.length xs/\(∀ g,v.ownBlock=U g->¬ F g)/\bU w F t l xs/\(∀ u∈xs,u.oneCell'=Z)
def fI(v:Value):Ob->Prop
 |.gone=>True
 |.box ty cs=>∃ b arr,v=.pointer (U ⟨b,0,V⟩)/\w.heap[b]?= U (.cells arr ty (0,0))/\¬ F b/\B<=b/\arr.size=cs.length/\aN P w F R cs (λj u=>arr[j]?= U u)
 |.fbox cs=>∃ b,v=.pointer (U ⟨b,0,V⟩)/\F b/\aN P w F R cs (λj u=>w.cell? ⟨b,j,V⟩=U u)
 |.arr ety t l=>(ety<cj/\gg B w F v ety t l)\/(cj<=ety/\ety<dL/\∃ xs,RwOK P B w F v ety t l (λ_=>False) xs)\/(dL<=ety/\wE B w F t l v)
 |.frz t l=>aA w F (.sl t) l (λ_ u=>u=v)
 |.hole ety t l i=>cj<=ety/\ety<dL/\∃ xs,RwOK P B w F v ety t l (· = i) xs
end
structure MemOK (P:Program) (B:Nat) (w:World) (F:Nat->Prop) (γ:Nat->Value) (m:Nat->Option Ob):Prop where
 ob:∀ id o,m id=some o->fI P B w F (ap m γ) (γ id) o
 apart:∀ i j oi oj b,i≠j->m i=some oi->m j=some oj->bK w oi (γ i) b->¬ bK w oj (γ j) b
structure Step (B:Nat) (w:World) (F:Nat->Prop) (γ:Nat->Value) (m:Nat->Option Ob) (w':World) (F':Nat->Prop) (γ':Nat->Value) (m':Nat->Option Ob):Prop where
 hF:∀ b,F b->F' b
 hw:∀ b,F b->w'.heap[b]?= w.heap[b]?
 hR:∀ id v,ap m γ id v->ap m' γ' id v
 old:∀ b,b<B->w'.heap[b]?= w.heap[b]?
 os:w'.os=w.os
 tape:w'.tape=w.tape
 output:w'.output=w.output
 size:w.heap.size<=w'.heap.size
 bd:∀ b,F' b->b<w'.heap.size
 new:∀ b,F' b->F b\/B<=b
section
variable {P:Program} {B:Nat} {w w' w'':World} {F F' F'':Nat->Prop} {γ γ' γ'':Nat->Value} {m m' m'':Nat->Option Ob}
def Step.refl(hb:∀ b,F b->b<w.heap.size):Step B w F γ m w F γ m:=
 ⟨λ_ h=>h,λ_ _=>rfl,λ_ _ h=>h,λ_ _=>rfl,rfl,rfl,rfl,ue6 _,hb,λ_ h=>.inl h⟩
def Step.trans(h:Step B w F γ m w' F' γ' m')(k:Step B w' F' γ' m' w'' F'' γ'' m''):Step B w F γ m w'' F'' γ'' m'':=
 ⟨λb hb=>k.hF b (h.hF b hb),λb hb=>(k.hw b (h.hF b hb)).trans (h.hw b hb),λi v q=>k.hR i v (h.hR i v q),λb hb=>(k.old b hb).trans (h.old b hb),
  k.os.trans h.os,k.tape.trans h.tape,k.output.trans h.output,uel h.size k.size,k.bd,λb hb=>(k.new b hb).elim (λj=>h.new b j) .inr⟩
def Step.repA{a:AV}(h:Step B w F γ m w' F' γ' m')(i:aE P w F (ap m γ) a v):aE P w' F' (ap m' γ') a v:=aE.mono h.hF h.hw h.hR a i
def Step.repCL{cs:List AC}(h:Step B w F γ m w' F' γ' m')(i:aN P w F (ap m γ) cs g):aN P w' F' (ap m' γ') cs g:=
 aN.mono h.hF h.hw h.hR cs (λ_ _ h=>h) i
def bU.mono{t:Ty}{l:List t.den}(hF:∀ b,F b->F' b)(hw:∀ b,F b->w'.heap[b]?= w.heap[b]?)(h:bU w F t l xs):bU w' F' t l xs:=
 λi x hi=>(h i x hi).mono hF hw (λ_ _ _ h=>h)
def rk{sz:Nat}(h:w.ownsRow B e sz v n xs)(j:xs[i*sz+off]?= U u):IU w sz off v i u:=by
 have hc:=λ{g}=>h.cells (g:=g);rcases h.2 with ⟨_,rfl⟩|⟨g,m,cur,rfl,_⟩
 have:=h.1;simp only[Nat.zero_mul,uaz]at this;subst this;simp at j;exact⟨_,_,_,rfl,hc rfl _ u j⟩
def R6{sz:Nat}{m:Value}(h:w.ownsRow B e sz v n xs)(hi:xs[i*sz+off]?= U m)(C:IU w sz off v i u):u=m:=by
 obtain⟨A,k,c,rfl,q⟩:=C;obtain⟨F,N,H,t,j⟩:=rk h hi;cases t;rw[q]at j;exact(ud0 j)
def R5{e:Nat}{t:Ty}{l:List t.den}(q:RwOK P B w F v e t l K xs)(N:innB w e t.size l.length K v b):b<w.heap.size/\¬ F b/\B<=b:=by
 obtain⟨i,u,hi,O,Q,j⟩:=N;obtain⟨W,S,u',ys,_,C,m,_,_,H⟩:=q.inn i _ (uaq hi) O;obtain rfl:=R6 q.own C Q;exact⟨(m.lt b j).2,(H b j).2,(m.lt b j).1⟩
def gZ{id:Nat}{o:Ob}(h:fI P B w F R (γ id) o)(j:bK w o (γ id) b):b<w.heap.size/\¬ F b/\B<=b:=by
 cases o with
 |gone=>exact j.elim
 |fbox cs=>exact j.elim
 |frz t l=>exact j.elim
 |box ty cs=>
  obtain⟨S,arr,m,C,H,N,_⟩:=h;obtain⟨a,Q,rfl⟩:=j;rw[m]at Q;cases Q;exact⟨(uaf.1 C).1,H,N⟩
 |arr ety t l=>
  rcases h with ⟨O,xs,m,C,_⟩|⟨q,_,xs,m⟩|⟨q,S,es,W,m,C,H,N,_⟩
  rcases j with j|⟨q,_⟩|j
  exact⟨(m.lt b j).2,C b j,(m.lt b j).1⟩;exact absurd O (Nat.not_lt.2 q);rcases m.2 with ⟨k,_⟩|⟨_,_,_,k,_⟩<;>(rw[j]at k;cases k)
  rcases j with j|⟨_,j⟩|j
  exact⟨(m.own.lt b j).2,m.nf b j,(m.own.lt b j).1⟩;exact R5 m j;rcases m.own.2 with ⟨k,_⟩|⟨_,_,_,k,_⟩<;>(rw[j]at k;cases k)
  rw[m]at j;rcases j with j|⟨_,i,u,_,_,⟨A,n,c,j,_⟩,_⟩|j
  cases j;cases j;cases j;exact⟨(uaf.1 C).1,H,N⟩
 |hole ety t l i=>
  obtain⟨_,_,xs,m⟩:=h;rcases j with j|j
  exact⟨(m.own.lt b j).2,m.nf b j,(m.own.lt b j).1⟩;exact R5 m j
def gg.of{e:Nat}{t:Ty}{l:List t.den}(h:fI P B w F R v (.arr e t l))(i:e<cj):gg B w F v e t l:=by
 rcases h with ⟨_,h⟩|⟨k,_⟩|⟨k,_⟩
 exact h;exact absurd i (Nat.not_lt.2 k);exact absurd i (Nat.not_lt.2 (uel (by decide) k))
def lE{e:Nat}{t:Ty}{l:List t.den}(i:e<cj)(j:∀ b,v ≠ .map (U b)):bK w (.arr e t l) v b↔v.ownBlock=U b:=
 ⟨λh=>by
  rcases h with h|⟨h,_⟩|h
  exact h;exact absurd i (Nat.not_lt.2 h);exact absurd h (j b),.inl⟩
def UD{e:Nat}{t:Ty}{l:List t.den}(h:fI P B w F R v (.arr e t l))(q:e<dL):∃ j xs,w.ownsRow B j t.size v l.length xs/\∀ g,v.ownBlock=U g->¬ F g:=by
 rcases h with ⟨_,xs,i,m,_⟩|⟨_,_,xs,i⟩|⟨k,_⟩
 exact⟨_,xs,i,m⟩;exact⟨_,xs,i.own,i.nf⟩;exact absurd q (Nat.not_lt.2 k)
def nq{sz:Nat}(h:w.ownsRow B e sz v n xs)(b:Nat):v ≠ .map (U b):=by
 rintro rfl;rcases h.2 with ⟨k,_⟩|⟨_,_,_,k,_⟩<;>cases k
def pm{sz:Nat}(h:w.ownsRow B e sz v n xs)(hb:∀ b,v.ownBlock=U b->w'.heap[b]?= w.heap[b]?):w'.ownsRow B e sz v n xs:=by
 refine⟨h.1,?_⟩;rcases h.2 with m|⟨g,i,cur,rfl,j,hg,rest⟩
 exact .inl m;exact .inr ⟨g,i,cur,rfl,j,(hb g rfl).trans hg,rest⟩
def R4{e sz:Nat}(hb:∀ b,v.ownBlock=U b->w'.heap[b]?= w.heap[b]?):innB w' e sz n K v b->innB w e sz n K v b:=by
 rintro⟨i,u,hi,m,⟨A,k,c,rfl,q⟩,j⟩;refine⟨i,u,hi,m,⟨A,k,c,rfl,?_⟩,j⟩;rw[<- q];refine(ubc ?_).symm;have:(A.add (i*sz+cB e)).block=A.block:=by unfold Addr.add;split<;>rfl
 rw[this];exact hb _ rfl
def tU{o:Ob}(hb:∀ b,bK w o v b->w'.heap[b]?= w.heap[b]?):bK w' o v b->bK w o v b:=by
 intro m;cases o with
 |gone=>exact m
 |fbox cs=>exact m
 |frz t l=>exact m
 |box ty cs=>exact m
 |hole ety t l i=>exact m.imp id (R4 (λb j=>hb b (.inl j)))
 |arr ety t l=>exact m.imp id (.imp (λh=>⟨h.1,R4 (λb j=>hb b (.inl j)) h.2⟩) id)
def RwOK.innB{e:Nat}{t:Ty}{l:List t.den}(h:RwOK P B w F v e t l K xs)(hi:i<l.length)(j:¬ K i)(m:xs[i*t.size+cB e]?= U u)(hb:u.ownBlock=U b):Ab.innB w e t.size l.length K v b:=
 ⟨i,u,hi,j,rk h.own m,hb⟩
def RwOK.keep{e:Nat}{t:Ty}{l:List t.den}(h:RwOK P B w F v e t l K xs)(hF:∀ b,F b->F' b)(hw:∀ b,F b->w'.heap[b]?= w.heap[b]?)(q:∀ b,v.ownBlock=U b\/Ab.innB w e t.size l.length K v b->w'.heap[b]?= w.heap[b]? /\ ¬ F' b):RwOK P B w' F' v e t l K xs:=
 ⟨pm h.own (λb hb=>(q b (.inl hb)).1),λg hg=>(q g (.inl hg)).2,h.one,λi x k c hi hc m=>by
   obtain⟨u,W,h2⟩:=h.cells i x k c hi hc m;exact⟨u,W,bc.mono hF hw (λ_ _ h=>h) c h2⟩,
  λi x hi m=>by
   obtain⟨t',li,u,ys,H,C,N,O,Q,S⟩:=h.inn i x hi m;have hb:=λb hb=>q b (.inr (h.innB (uak.1 hi).1 m C hb));exact⟨t',li,u,ys,H,C,pm N (λb j=>(hb b j).1),O.mono hF hw,Q,λb j=>⟨(S b j).1,(hb b j).2⟩⟩,
  h.disj⟩
def fI.keep{o:Ob}(h:fI P B w F R v o)(hF:∀ b,F b->F' b)(hw:∀ b,F b->w'.heap[b]?= w.heap[b]?)(hR:∀ id v,R id v->R' id v)(hb:∀ b,bK w o v b->w'.heap[b]?= w.heap[b]? /\ ¬ F' b):fI P B w' F' R' v o:=by
 cases o with
 |gone=>trivial
 |fbox cs=>
  obtain⟨b,m,H,O⟩:=h;exact⟨b,m,hF b H,aN.mono hF hw hR cs (λj u hu=>by rw[<- hu];exact ubc (hw b H)) O⟩
 |frz t l=>
  simp only[fI]at h |-;exact aA.mono hF hw (λ_ _ _ h=>h) h
 |box ty cs=>
  obtain⟨b,arr,m,H,O,Q,S,W⟩:=h;obtain⟨e1,e2⟩:=hb b ⟨_,m,rfl⟩;exact⟨b,arr,m,e1.trans H,e2,Q,S,aN.mono hF hw hR cs (λ_ _ h=>h) W⟩
 |arr ety t l=>
  rcases h with ⟨C,xs,m,H,O,Q⟩|⟨q,C,xs,m⟩|⟨q,b,es,ck,m,H,O,Q,S,W,h7,h8⟩
  exact .inl ⟨C,xs,pm m (λb N=>(hb b (.inl N)).1),λg hg=>(hb g (.inl hg)).2,O.mono hF hw,Q⟩;exact .inr (.inl ⟨q,C,xs,m.keep hF hw (λb N=>hb b (N.imp id (λh=>.inl ⟨q,h⟩)))⟩);obtain⟨e1,e2⟩:=hb b (.inr (.inr m));exact .inr (.inr ⟨q,b,es,ck,m,e1.trans H,e2,Q,S,W,h7,λi x hx=>by
   obtain⟨e,k1,k2,k3,k4⟩:=h8 i x hx;exact⟨e,k1,k2,k3,k4.mono (λ_ h=>h) (λ_ h=>h.elim) (λ_ _ _ h=>h)⟩⟩)
 |hole ety t l i=>
  obtain⟨q,C,xs,m⟩:=h;exact⟨q,C,xs,m.keep hF hw hb⟩
def MemOK.keep(h:MemOK P B w F γ m)(hF:∀ b,F b->F' b)(hw:∀ b,F b->w'.heap[b]?= w.heap[b]?)(hb:∀ id o b,m id=U o->bK w o (γ id) b->w'.heap[b]?= w.heap[b]? /\ ¬ F' b):MemOK P B w' F' γ m:=
 ⟨λid o N=>(h.ob id o N).keep hF hw (λ_ _ h=>h) (λb q=>hb id o b N q),λi j O Q b C hi H t u=>
  h.apart i j O Q b C hi H (tU (λb q=>(hb i O b hi q).1) t) (tU (λb q=>(hb j Q b H q).1) u)⟩
def Step.below(q:MemOK P B w F γ m)(hB:B<=w.heap.size)(j:∀ b,F b->b<w.heap.size)(hb:Below w.heap.size w w')(hF:∀ b,F b->F' b)(i:∀ b,F' b->(F b\/w.heap.size<=b)/\b<w'.heap.size):
  Step B w F γ m w' F' γ m/\MemOK P B w' F' γ m:=by
 refine⟨⟨hF,λb h=>hb.block b (j b h),λ_ _ h=>h,λb h=>hb.block b (by omega),hb.os,hb.tape,hb.output,hb.size,λb h=>(i b h).2,λb h=>(i b h).1.elim .inl (λh=>.inr (by omega))⟩,?_⟩;refine q.keep hF (λb h=>hb.block b (j b h)) λid o b H C=>?_;obtain⟨t,u,_⟩:=gZ (q.ob id o H) C;exact⟨hb.block b t,λh=>(i b h).1.elim u (by omega)⟩
def upd(m:Nat->Option Ob)(id:Nat)(o:Ob):Nat->Option Ob:=λi=>if i=id then U o else m i
def ax(m:Nat->Option Ob):List (Nat×Ob)->Nat->Option Ob
 |[]=>m
 |(id,o)::r=>ax (upd m id o) r
def cU(γ:Nat->Value)(id:Nat)(v:Value):Nat->Value:=λi=>if i=id then v else γ i
def iX(m:Nat->Option Ob)(id:Nat)(o:Ob):upd m id o id=U o:=by simp[upd]
def fa(m:Nat->Option Ob){id:Nat}(o:Ob)(h:i≠id):upd m id o i=m i:=by simp[upd,h]
def fy(γ:Nat->Value)(id:Nat)(v:Value):cU γ id v id=v:=by simp[cU]
def eC(γ:Nat->Value){id:Nat}(v:Value)(h:i≠id):cU γ id v i=γ i:=by simp[cU,h]
def nx{id:Nat}{o o0:Ob}(h0:m id=U o0)(hg:o0=.gone->o=.gone):∀ i v,ap m γ i v->ap (upd m id o) γ i v:=by
 intro i v h;unfold ap at *;by_cases hi:i=id;subst hi;rw[iX];cases o<;>cases o0<;>simp_all
 rw[fa _ _ hi];exact h
def MemOK.change(h:MemOK P B w F γ m){id:Nat}{o o0:Ob}(h0:m id=U o0)(hg:o0=.gone->o=.gone)(hF:∀ b,F b->F' b)(hw:∀ b,F b->w'.heap[b]?= w.heap[b]?)(Q:∀ b,bK w' o (γ id) b->bK w o0 (γ id) b)(S:∀ b,b<w.heap.size->¬ bK w o0 (γ id) b->w'.heap[b]?= w.heap[b]? /\ (F' b->F b))(hok:fI P B w' F' (ap (upd m id o) γ) (γ id) o):MemOK P B w' F' γ (upd m id o):=by
 have hk:∀ i q,i≠id->m i=U q->∀ b,bK w q (γ i) b->w'.heap[b]?= w.heap[b]? /\ ¬ F' b:=λi q t hi b hb=>by
  obtain⟨e1,e2,_⟩:=gZ (h.ob i q hi) hb;obtain⟨e3,e4⟩:=S b e1 (λhc=>h.apart i id q o0 b t hi h0 hb hc);exact⟨e3,λhc=>e2 (e4 hc)⟩
 have C:∀ i q,i≠id->m i=U q->∀ b,bK w' q (γ i) b->bK w q (γ i) b:=λi q t hi b=>tU (λb hb=>(hk i q t hi b hb).1);refine⟨λi q hi=>?_,λi j q W b u hi H N O=>?_⟩;by_cases t:i=id;subst t;rw[iX,uck]at hi;subst hi;exact hok;rw[fa _ _ t]at hi;exact(h.ob i q hi).keep hF hw (nx h0 hg) (hk i q t hi);by_cases t:i=id;subst t;rw[iX,uck]at hi;subst hi;rw[fa _ _ (Ne.symm u)]at H;exact h.apart i j o0 W b u h0 H (Q b N) (C j W (Ne.symm u) H b O);rw[fa _ _ t]at hi;by_cases hf:j=id;subst hf;rw[iX,uck]at H;subst H;exact h.apart i j q o0 b u hi h0 (C i q t hi b N) (Q b O);rw[fa _ _ hf]at H;exact h.apart i j q W b u hi H (C i q t hi b N) (C j W hf H b O)
def yM{id:Nat}{o:Ob}(h0:m id=V):∀ i u,ap m γ i u->ap (upd m id o) (cU γ id v) i u:=by
 intro i u h;unfold ap at *;by_cases hi:i=id;subst hi;simp[h0]at h;rw[fa _ _ hi,eC _ _ hi];exact h
def MemOK.new(h:MemOK P B w F γ m){id:Nat}{o:Ob}(h0:m id=V)(hF:∀ b,F b->F' b)(hw:∀ b,F b->w'.heap[b]?= w.heap[b]?)(Q:∀ b,bK w' o v b->w.heap.size<=b)(S:∀ b,b<w.heap.size->(w'.heap[b]?= w.heap[b]? /\ (F' b->F b)))(hok:fI P B w' F' (ap (upd m id o) (cU γ id v)) v o):MemOK P B w' F' (cU γ id v) (upd m id o):=by
 have hk:∀ i q,m i=U q->∀ b,bK w q (γ i) b->w'.heap[b]?= w.heap[b]? /\ ¬ F' b:=λi q hi b hb=>by
  obtain⟨e1,e2,_⟩:=gZ (h.ob i q hi) hb;obtain⟨e3,e4⟩:=S b e1;exact⟨e3,λhc=>e2 (e4 hc)⟩
 have C:∀ i q,m i=U q->∀ b,bK w' q (γ i) b->bK w q (γ i) b:=λi q hi b=>tU (λb hb=>(hk i q hi b hb).1);refine⟨λi q hi=>?_,λi j q W b O hi H u t=>?_⟩;by_cases N:i=id;subst N;rw[iX,uck]at hi;subst hi;rw[fy];exact hok;rw[fa _ _ N]at hi;rw[eC _ _ N];exact(h.ob i q hi).keep hF hw (yM h0) (hk i q hi);by_cases N:i=id;subst N;rw[iX,uck]at hi;subst hi;rw[fa _ _ (Ne.symm O)]at H;rw[eC _ _ (Ne.symm O)]at t;rw[fy]at u;have h1:=(gZ (h.ob j W H) (C j W H b t)).1;have h2:=Q b u;omega;rw[fa _ _ N]at hi;rw[eC _ _ N]at u;by_cases hf:j=id;subst hf;rw[iX,uck]at H;subst H;rw[fy]at t;have h1:=(gZ (h.ob i q hi) (C i q hi b u)).1;have h2:=Q b t;omega;rw[fa _ _ hf]at H;rw[eC _ _ hf]at t;exact h.apart i j q W b O hi H (C i q hi b u) (C j W H b t)
end
def wF:Value->AC
 |.int k n=>if k.min<=n/\n<=k.max then .int k n else .dead
 |.bool b=>.bool b
 |.string s=>if s.size<=maxLen then .str s else .dead
 |.slice V 0 0=>.nil
 |_=>.dead
def lu:Value->AV
 |.agg cs=>if cs.toList.all (·.oneCell')then .agg (cs.toList.map wF)else .dead
 |.tuple _=>.dead
 |v=>.c (wF v)
def gC(sl:Nat->AV):Operand->AV
 |.tmp t=>sl t
 |.const v=>lu v
 |.global _=>.dead
 |.func f=>.c (.fn f [])
def kg(P:Program):Nat->TypeId->Option Ty
 |0,_=>V
 |n+1,t=>
  match P.underlying t with
  |some .bool=>U .bool
  |some (.int k)=>U (.int k)
  |some .string=>U .str
  |some (.slice e)=>(kg P n e).map .sl
  |some (.struct fs)=>fs.toList.foldr (λf i=>match kg P n f.type,i with
   |some a,U r=>U (.pair a r)
   |_,_=>V) (U .unit)
  |some (.array k e)=>match kg P n e with
   |some a=>U (Nat.rec (motive:=λ_=>Ty) .unit (λ_ r=>.pair a r) k)
   |none=>V
  |_=>V
def cV(P:Program)(t:TypeId):Bool:=
 match P.underlying t with
 |some (.struct _)|some (.array _ _)=>Z
 |_=>Y
def lz:AV->Option (List AC)
 |.c a=>U [a]
 |.agg cs=>U cs
 |_=>V
def CL(wide:Bool)(cs:List AC):Option AV:=
 if wide then U (.agg cs)else match cs with
  |[a]=>U (.c a)
  |_=>V
def nw(cs:List AC)(off:Nat)(new:List AC):Option (List AC):=
 if off+new.length<=cs.length then U (cs.take off++new++cs.drop (off+new.length))else V
def ig(cs:List AC)(off n:Nat):Option (List AC):=
 if off+n<=cs.length then U ((cs.drop off).take n)else V
structure Eff where
 v:AV
 wr:List (Nat×Ob)
 need:List Prop
abbrev aT:=Nat->Option Ob
def me(m:aT):AC->Option (AC×List (Nat×Ob))
 |.own id=>match m id with
  |some (.arr e t l)=>if e<dL then U (.sl t l,[(id,.frz t l)])else V
  |some (.frz t l)=>U (.sl t l,[])
  |_=>V
 |a=>U (a,[])
def jr(m:aT):List AC->Option (List AC×List (Nat×Ob))
 |[]=>U ([],[])
 |a::r=>match me m a,jr m r with
  |some (x,u),U (y,v)=>U (x::y,u++v)
  |_,_=>V
def pD(m:aT):AV->Option (AV×List (Nat×Ob))
 |.c a=>match me m a with
  |some (x,u)=>U (.c x,u)
  |none=>V
 |.agg cs=>match jr m cs with
  |some (x,u)=>U (.agg x,u)
  |none=>V
 |_=>V
def dK(m:aT):List AV->Option (List AV×List (Nat×Ob))
 |[]=>U ([],[])
 |a::r=>match pD m a,dK m r with
  |some (x,u),U (y,v)=>U (x::y,u++v)
  |_,_=>V
def vO(m:aT):List AV->Option (List AC×List (Nat×Ob))
 |[]=>U ([],[])
 |.c (.ptr id 0)::r=>match m id with
  |some (.box _ cs)=>match jr m cs with
   |some (cs',u)=>match ax m u id with
    |some (.box _ _)=>match vO (ax m (u++[(id,.fbox cs')])) r with
     |some (y,v)=>U (.sptr cs'::y,(u++[(id,.fbox cs')])++v)
     |none=>V
    |_=>V
   |none=>V
  |some (.fbox cs)=>match vO m r with
   |some (y,v)=>U (.sptr cs::y,v)
   |none=>V
  |_=>V
 |.c a::r=>match me m a with
  |some (x,u)=>match vO (ax m u) r with
   |some (y,v)=>U (x::y,u++v)
   |none=>V
  |none=>V
 |_::_=>V
def lH:AC->List Nat
 |.own id=>[id]
 |.ptr id _=>[id]
 |.ifp _ id=>[id]
 |.fb _ id=>[id]
 |_=>[]
def uh:AV->List Nat
 |.c a=>lH a
 |.agg cs=>cs.flatMap lH
 |.optr id _ _ _=>[id]
 |.aptr b _ _=>lH b
 |.maybe _ _ v=>uh v
 |_=>[]
def qnf:Option Ob->List Nat
 |some (.box _ cs)=>cs.flatMap lH
 |_=>[]
def tR(P:Program):Nat->TypeId->List AC->List AC->Option Bool
 |0,_,_,_=>V
 |n+1,t,xs,m=>
  match P.underlying t with
  |some .bool=>match xs,m with
   |[.bool a],[.bool b]=>U (a==b)
   |_,_=>V
  |some (.int _)=>match xs,m with
   |[.int k a],[.int u b]=>if k=u then U (a==b)else V
   |_,_=>V
  |some (.struct fs)=>if P.stoodInHeld t=Z then V else
   fs.toList.foldr (λf j=>if f.name = "_" then j else
    if (P.underlying f.type).isSome=Z/\(P.info? f.type).isSome=Z then
     match ig xs f.offset (if cV P f.type then P.cellsOf f.type else 1),ig m f.offset (if cV P f.type then P.cellsOf f.type else 1)with
     |some x,U y=>match tR P n f.type x y,j with
      |some p,U q=>U (p&&q)
      |_,_=>V
     |_,_=>V
    else V) (U Z)
  |some (.array len e)=>
   if (P.underlying e).isSome=Z/\(P.info? e).isSome=Z then
    (List.range len).foldr (λi j=>
     match ig xs (i*P.cellsOf e) (if cV P e then P.cellsOf e else 1),ig m (i*P.cellsOf e) (if cV P e then P.cellsOf e else 1)with
     |some x,U y=>match tR P n e x y,j with
      |some p,U q=>U (p&&q)
      |_,_=>V
     |_,_=>V) (U Z)
   else V
  |_=>V
def Hd(i:BinOp)(a b:Int):Option Bool:=
 match i with
 |.eql=>U (a==b)
 |.neq=>U (a != b)
 |.lss=>U (J (a<b))
 |.leq=>U (J (a<=b))
 |.gtr=>U (J (a>b))
 |.geq=>U (J (a>=b))
 |_=>V
def NU(op:BinOp)(k:IntKind)(a b:Int):Option (AC×List Prop):=
 match op with
 |.add=>U (.int k (k.wrap (a+b)),[])
 |.sub=>U (.int k (k.wrap (a-b)),[])
 |.mul=>U (.int k (k.wrap (a*b)),[])
 |.quo=>U (.int k (k.wrap (a.tdiv b)),[b≠0])
 |.rem=>U (.int k (a.tmod b),[b≠0])
 |.and=>U (.int k (k.wrap (BitVec.ofInt k.bits a &&& BitVec.ofInt k.bits b).toNat),[])
 |.or=>U (.int k (k.wrap (BitVec.ofInt k.bits a ||| BitVec.ofInt k.bits b).toNat),[])
 |.xor=>U (.int k (k.wrap (BitVec.ofInt k.bits a ^^^ BitVec.ofInt k.bits b).toNat),[])
 |.andNot=>U (.int k (k.wrap (BitVec.ofInt k.bits a &&& ~~~BitVec.ofInt k.bits b).toNat),[])
 |.shl=>U (.int k (k.wrap (a*2 ^ (min b.toNat k.bits))),[¬ b<0])
 |.shr=>U (.int k (a.fdiv (2 ^ (min b.toNat k.bits))),[¬ b<0])
 |op=>match Hd op a b with
  |some x=>U (.bool x,[])
  |none=>V
def RS:BinOp->Bool
 |.shl | .shr=>Z
 |_=>Y
def F6(P:Program)(i:BinOp)(t:TypeId):AV->AV->Option (AC×List Prop)
 |.c (.int k a),.c (.int j b)=>if k=j\/RS i=Z then NU i k a b else V
 |.c (.bool a),.c (.bool b)=>match i with
  |.eql=>if P.underlying t matches U .bool then U (.bool (a==b),[])else V
  |.neq=>if P.underlying t matches U .bool then U (.bool (!(a==b)),[])else V
  |_=>V
 |.agg xs,.agg m=>if P.eqGuardType P.depth t=Y/\cV P t=Z then match tR P 20 t xs m with
   |some x=>match i with
    |.eql=>U (.bool x,[])
    |.neq=>U (.bool (!x),[])
    |_=>V
   |none=>V
  else V
 |_,_=>V
structure InsOK (P:Program) (f:FuncId) (e:TypeId) (T:Ty) (bytes:Nat):Prop where
 enters:∀ args w,(callFunc f args).run P w=.ok (.enter f args) w
 calls:∀ (w:World) (B n i:Nat) (s v:Value) (xs news:List Value),B<=w.heap.size->w.ownsRow B e T.size s n xs->w.ownsRow B e T.size v 1 news->(∀ g,v.ownBlock=some g->s.ownBlock≠some g)->i<=n ->
  (∀ u∈xs,u.oneCell'=true)->(∀ u∈news,u.oneCell'=true)->n+1<=maxLen->(n+1)*bytes<=140737488355328 ->
  Calls P f #[s,.int .i64 i,v] w λen w'=>∃ v',en=.returned v'/\w.grownBy w' s.ownBlock/\w'.ownsRow B e T.size v' (n+1) (xs.take (i*T.size)++news++xs.drop (i*T.size))/\(v'.ownBlock=s.ownBlock\/v'.ownBlock=some w.heap.size)
structure CloneOK (P:Program) (f:FuncId) (e:TypeId) (T:Ty) (bytes:Nat):Prop where
 enters:∀ args w,(callFunc f args).run P w=.ok (.enter f args) w
 calls:∀ (w:World) (n c:Nat) (A:Option Addr) (xs:List Value),n<=c->(A=none->n=0)->xs.length=n*T.size->(∀ ad,A=some ad->∀ (j:Nat) u,xs[j]?= some u->w.cell? (ad.add j)=some u)->(∀ u∈xs,u.oneCell'=true) ->
  n<=maxLen->n*bytes<=140737488355328 ->
  Calls P f #[.slice A n c] w λen w'=>∃ v',en=.returned v'/\w.grownBy w' none/\w'.ownsRow w.heap.size e T.size v' n xs
structure UpdOK (P:Program) (f:FuncId) (T:Ty) (ps:List Ty) (g:T.den->aa ps->T.den):Prop where
 enters:∀ args w,(callFunc f args).run P w=.ok (.enter f args) w
 calls:∀ (w:World) (F:Nat->Prop) (b:Nat) (ety:TypeId) (arr:Array Value) (x:T.den) (y:aa ps) (vs:List Value),w.heap[b]?= some (.cells arr ety (0,0))->arr.size=T.size ->
  (∀ u∈arr,u.oneCell'=true)->aA w F T x (λj u=>arr[j]?= some u)->dM w F ps y vs ->
  Calls P f (Value.pointer (some ⟨b,0,none⟩)::vs).toArray w λen w'=>∃ (u:Value) (ns:List Value),en=.returned u/\ns.length=T.size/\w'=w.setRow b ns.toArray/\aA w F T (g x y) (λj u=>ns[j]?= some u)
inductive Row where
 |clone (e:TypeId) (T:Ty) (bytes:Nat)
 |ins (e:TypeId) (T:Ty) (bytes:Nat)
 |upd (T:Ty) (ps:List Ty) (g:T.den->aa ps->T.den)
 |rw (off inner:Nat)
def zZ(P:Program)(f:FuncId):Row->Prop
 |.rw _ _=>True
 |.clone e T n=>CloneOK P f e T n
 |.ins e T n=>InsOK P f e T n
 |.upd T ps g=>UpdOK P f T ps g
structure Gm where
 c:FuncId->Option Ct
 r:FuncId->Option Row
instance:CoeFun Gm λ_=>FuncId->Option Ct:=⟨Gm.c⟩
instance:Coe (FuncId->Option Ct) Gm:=⟨λc=>⟨c,λ_=>none⟩⟩
def kN(P:Program)(Γ:Gm):Prop:=(∀ f ct,Γ.c f=U ct->af P f ct)/\∀ f r,Γ.r f=U r->zZ P f r
def lB(t:Ty):AV->Option t.den
 |.c a=>if t.wide then V else match dec t [a]with
  |some (x,[])=>U x
  |_=>V
 |.agg cs=>if t.wide then match dec t cs with
  |some (x,[])=>U x
  |_=>V else V
 |_=>V
def xh{ps i rs j:List Ty}(h:ps=i)(k:rs=j)(g:aa ps->aa rs):aa i->aa j:=k ▸ h ▸ g
def OB{ps i:List Ty}(h:ps=i)(D:aa ps->Prop):aa i->Prop:=h ▸ D
def AY{rs i:List Ty}(k:rs=i)(x:aa rs):aa i:=k ▸ x
def GT{t u:Ty}(h:t=u)(x:t.den):u.den:=h ▸ x
def gY:(ps:List PT)->List AC->Option (ag ps)
 |[],[]=>U ()
 |.d t::r,a::s=>match lB t (.c a),gY r s with
  |some x,U y=>U (x,y)
  |_,_=>V
 |.ptr t::r,.sptr cs::s=>match dec t cs,gY r s with
  |some (x,_),U y=>U (x,y)
  |_,_=>V
 |.pk f::r,.sptr [.fn m []]::s=>if m=f then match gY r s with
  |some y=>U ((),y)
  |none=>V
  else V
 |.pfn ps rs::r,.sptr [.fv i j g]::s=>if h:i=ps then if k:j=rs then match gY r s with
   |some y=>U (xh h k g,y)
   |none=>V
  else V else V
 |_,_=>V
def jC:(ps:List Ty)->(j:List PT)->List AC->Option (aa ps->ag j)
 |[],j,i=>match gY j i with
  |some u=>U (λ_=>u)
  |none=>V
 |t::r,.d q::j,i=>if h:t=q then match jC r j i with
   |some m=>U (λx=>(GT h x.1,m x.2))
   |none=>V
  else V
 |_::_,_,_=>V
def Hw(Γ:Gm)(ps rs:List Ty):AC->Option ((aa ps->aa rs)×List Prop)
 |.fv j q g=>if h:j=ps then if k:q=rs then U (xh h k g,[])else V else V
 |.fn f i=>match Γ f with
  |some ct=>if k:ct.rs=rs then match jC ps ct.ps i with
    |some m=>U (λx=>AY k (ct.f (m x)),[∀ x,fi ps x->av (ct.ok (m x))])
    |none=>V
   else V
  |none=>V
 |_=>V
def Hy(Γ:Gm)(ps rs:List Ty):AC->Option ((aa ps->aa rs)×(aa ps->Prop))
 |.pv j q g D=>if h:j=ps then if k:q=rs then U (xh h k g,OB h D)else V else V
 |.fn f i=>match Γ f with
  |some ct=>if k:ct.rs=rs then match jC ps ct.ps i with
    |some m=>U (λx=>AY k (ct.f (m x)),λx=>av (ct.ok (m x)))
    |none=>V
   else V
  |none=>V
 |_=>V
def Pl(Γ:Gm):(p:PT)->AV->Option (p.den×List Prop)
 |.d t,a=>match lB t a with
  |some x=>U (x,[])
  |none=>V
 |.ptr t,.c (.sptr cs)=>match dec t cs with
  |some (x,_)=>U (x,[])
  |none=>V
 |.fn ps rs,.c a=>Hw Γ ps rs a
 |.pf ps rs,.c a=>match Hy Γ ps rs a with
  |some x=>U (x,[])
  |none=>V
 |_,_=>V
def jf(Γ:Gm):(ps:List PT)->List AV->Option (ag ps×List Prop)
 |[],[]=>U ((),[])
 |p::r,a::s=>match Pl Γ p a,jf Γ r s with
  |some (x,n),U (y,k)=>U ((x,y),n++k)
  |_,_=>V
 |_,_=>V
def dE(t:Ty)(x:t.den):AV:=if t.wide then .agg (enc t x)else match enc t x with
 |[a]=>.c a
 |_=>.dead
def Bm:(ts:List Ty)->aa ts->List AV
 |[],_=>[]
 |t::r,x=>dE t x.1::Bm r x.2
def jg:(ts:List Ty)->aa ts->AV
 |[t],x=>dE t x.1
 |ts,x=>.tup (Bm ts x)
def O7(Γ:Gm)(f:FuncId)(args:List AV):Option (AV×List Prop):=
 match Γ f with
 |some ct=>match jf Γ ct.ps args with
  |some (x,n)=>U (jg ct.rs (ct.f x),n++ct.ok x)
  |none=>V
 |none=>V
def g9:(ps:List Ty)->List AV->Option (aa ps)
 |[],[]=>U ()
 |t::r,a::s=>match lB t a,g9 r s with
  |some x,U y=>U (x,y)
  |_,_=>V
 |_,_=>V
def oU(k:IntKind):List AC->Option (List Int)
 |[]=>U []
 |.int i n::r=>if k=i then (oU k r).map (n :: ·)else V
 |_=>V
def Sk:List AC->Option IntKind
 |.int k _::_=>U k
 |_=>V
def pI:List Int->Nat->Int->Int->List Int
 |[],_,_,_=>[]
 |n::r,j,i,v=>(bif i==(j:Int)then v else n)::pI r (j+1) i v
def Ev(c:Operand)(i:Bool):AV->AV
 |.maybe g w v=>match c with
  |.tmp t=>if g=t/\w=i then v else .maybe g w v
  |_=>.maybe g w v
 |v=>v
def yA(p:Bool):AV->AV->Option AV
 |.c (.bool x),.c (.bool y)=>U (.c (.bool (bif p then x else y)))
 |.c (.int k x),.c (.int i y)=>if k=i then U (.c (.int k (bif p then x else y)))else V
 |_,_=>V
def xA(j:Nat->Option (Nat×Nat))(cs:List AC):List (Nat×AV)->Option (List AC)
 |[]=>U cs
 |(i,v)::r=>match j i,lz v with
  |some (off,n),U new=>if new.length=n then match nw cs off new with
    |some cs'=>xA j cs' r
    |none=>V
   else V
  |_,_=>V
def Uc(P:Program)(t:TypeId):Option (Nat->Option (Nat×Nat)):=
 match P.underlying t with
 |some (.struct fs)=>if fs.toList.all (λf=>(P.info? f.type).isSome)then U λi=>(fs[i]?).map λf=>(f.offset,P.cellsOf f.type)else V
 |some (.array _ e)=>if (P.info? e).isSome then U λi=>U (i*P.cellsOf e,P.cellsOf e)else V
 |_=>V
def FS(P:Program)(t:TypeId)(i:List (Nat×AV)):Option AV:=
 match (P.info? t).bind (·.zero),Uc P t with
 |some z,U pl=>match lz (lu z)with
  |some cs=>match xA pl cs i with
   |some cs'=>U (.agg cs')
   |none=>V
  |none=>V
 |_,_=>V
def n9(t:Ty)(k:Nat):List (Nat×AV)->Option (List t.den)
 |[]=>U []
 |(i,v)::r=>if i=k then match lB t v,n9 t (k+1) r with
   |some x,U l=>U (x::l)
   |_,_=>V
  else V
def ji:Int->List AC->List (Int×Nat)
 |_,[]=>[]
 |k,.fn f []::r=>(k,f)::ji (k+1) r
 |k,_::r=>ji (k+1) r
def xl(m:aT):AV->Option (List AC×List Prop)
 |.c (.ptr id off)=>match m id with
  |some (.box _ cs)=>U (cs.drop off,[])
  |some (.fbox cs)=>U (cs.drop off,[])
  |_=>V
 |.c (.sptr cs)=>U (cs,[])
 |.optr id sz i off=>match m id with
  |some (.arr e t l)=>if e<cj/\t.size=sz then U ((enc t (l.getD i t.dflt)).drop off,[i<l.length])else V
  |some (.frz t l)=>if t.size=sz then U ((enc t (l.getD i t.dflt)).drop off,[i<l.length])else V
  |_=>V
 |.aptr b n i=>match b with
  |.ptr id off=>match m id with
   |some (.box _ cs)=>pickI (cs.drop off) n i
   |some (.fbox cs)=>pickI (cs.drop off) n i
   |_=>V
  |.sptr cs=>pickI cs n i
  |_=>V
 |_=>V
where
 pickI (cs:List AC) (n:Nat) (i:Int):Option (List AC×List Prop):=
  match Sk cs,ig cs 0 n with
  |some k,U bf=>match oU k bf with
   |some j=>U ([.int k (j.getD i.toNat 0)],[])
   |none=>V
  |none,U bf=>if (ji 0 bf).isEmpty then V else U ([.fs (ji 0 bf) i],[((ji 0 bf).find? (λx=>x.1==i)).isSome=Z])
  |_,_=>V
def CE(P:Program)(t:TypeId)(x:AV)(m:aT):Option Eff:=
 match xl m x with
 |some (cs,n)=>if (P.info? t).isSome/\(P.underlying t).isSome then
   if cV P t then match ig cs 0 (P.cellsOf t)with
    |some l=>U ⟨.agg l,[],n⟩
    |none=>V
   else match cs with
    |a::_=>U ⟨.c a,[],n⟩
    |[]=>V
  else V
 |none=>V
def Lh(P:Program)(t:TypeId)(x v:AV)(m:aT):Option Eff:=
 match lz v with
 |none=>V
 |some new=>if (P.info? t).isSome/\new.length=P.cellsOf t then
   match x with
   |.c (.ptr id off)=>match m id with
    |some (.box e cs)=>match nw cs off new with
     |some cs'=>U ⟨.dead,[(id,.box e cs')],[]⟩
     |none=>V
    |_=>V
   |.optr id sz i off=>match m id,jr m new with
    |some (.arr e q l),U (j,u)=>if e<cj/\q.size=sz/\(new.flatMap lH).all (· != id)then
      match nw (enc q (l.getD i q.dflt)) off j with
      |some row=>match dec q row with
       |some (y,[])=>U ⟨.dead,u++[(id,.arr e q (l.set i y))],[i<l.length]⟩
       |_=>V
      |none=>V
     else V
    |_,_=>V
   |.aptr (.ptr id off) n i=>match m id,new with
    |some (.box e cs),[.int k y]=>match ig cs off n with
     |some bf=>match oU k bf with
      |some w=>match nw cs off ((pI w 0 i y).map (.int k))with
       |some cs'=>U ⟨.dead,[(id,.box e cs')],[]⟩
       |none=>V
      |none=>V
     |none=>V
    |_,_=>V
   |_=>V
  else V
def rp(m:aT):AC->Option ((t:Ty)×List t.den)
 |.sl t l=>U ⟨t,l⟩
 |.slx t l=>U ⟨t,l⟩
 |.own id=>match m id with
  |some (.arr e t l)=>if e<cj then U ⟨t,l⟩else V
  |some (.frz t l)=>U ⟨t,l⟩
  |_=>V
 |_=>V
def IR(P:Program)(t:TypeId)(x:AV)(i:Int)(m:aT):Option Eff:=
 match P.underlying t with
 |some (.slice e)=>if (P.info? e).isSome then match x with
   |.c (.own id)=>match m id with
    |some (.arr j tt l)=>if j<dL/\tt.size=P.cellsOf e then U ⟨.optr id tt.size i.toNat 0,[],[0<=i/\i<l.length]⟩else V
    |some (.hole _ tt l _)=>if tt.size=P.cellsOf e then U ⟨.optr id tt.size i.toNat 0,[],[0<=i/\i<l.length]⟩else V
    |some (.frz tt l)=>if tt.size=P.cellsOf e then U ⟨.c (.sptr (enc tt (l.getD i.toNat tt.dflt))),[],[0<=i/\i<l.length]⟩else V
    |_=>V
   |.c (.sl tt l)=>if tt.size=P.cellsOf e then U ⟨.c (.sptr (enc tt (l.getD i.toNat tt.dflt))),[],[0<=i/\i<l.length]⟩else V
   |.c (.slx tt l)=>if tt.size=P.cellsOf e then U ⟨.c (.sptr (enc tt (l.getD i.toNat tt.dflt))),[],[0<=i/\i<l.length]⟩else V
   |_=>V
  else V
 |some (.array n e)=>if (P.info? e).isSome then
   if P.cellsOf e=1 then match x with
    |.c (.ptr id off)=>U ⟨.aptr (.ptr id off) n i,[],[0<=i/\i<n]⟩
    |.c (.sptr cs)=>U ⟨.aptr (.sptr cs) n i,[],[0<=i/\i<n]⟩
    |_=>V
   else match i with
    |.ofNat k=>if k<n then match x with
      |.c (.ptr id off)=>U ⟨.c (.ptr id (off+k*P.cellsOf e)),[],[]⟩
      |.c (.sptr cs)=>U ⟨.c (.sptr (cs.drop (k*P.cellsOf e))),[],[]⟩
      |_=>V
     else V
    |_=>V
  else V
 |_=>V
def tW(P:Program)(s:TypeId)(f:Nat):Option Field:=
 match P.underlying s with
 |some (.struct fs)=>fs[f]?
 |_=>V
def Ie(P:Program)(s:TypeId)(x:AV)(f:Nat):Option AV:=
 match tW P s f with
 |some j=>if (P.info? j.type).isSome=Z/\P.cellsOf j.type≠0 then match x with
   |.c (.ptr id off)=>U (.c (.ptr id (off+j.offset)))
   |.c (.sptr cs)=>U (.c (.sptr (cs.drop j.offset)))
   |.optr id sz i off=>U (.optr id sz i (off+j.offset))
   |_=>V
  else V
 |none=>V
def KQ(t:Ty)(l:List t.den)(lo hi mx:Option Int):Option (AC×List Prop):=
 match mx with
 |none=>U (.sl t ((l.drop (lo.getD 0).toNat).take ((hi.getD l.length)-(lo.getD 0)).toNat),[0<=lo.getD 0/\lo.getD 0<=hi.getD l.length/\hi.getD l.length<=l.length])
 |some k=>match hi with
  |some h=>U (.slx t ((l.drop (lo.getD 0).toNat).take (h-(lo.getD 0)).toNat),[0<=lo.getD 0/\lo.getD 0<=h/\h<=l.length/\k=h])
  |none=>V
def Fv(P:Program)(d:Nat)(t:TypeId)(s x:AV)(m:aT):Option Eff:=
 match P.underlying t with
 |some (.slice e)=>match P.info? e,kg P 20 e,m d with
  |some i,U tt,V=>if e<cj/\i.size=tt.size/\0<tt.size/\(i.zero.any λz=>z.cells.size==tt.size)=Z then
   match (match x with
    |.c .nil=>U ([]:List tt.den)
    |.c a=>match rp m a with
     |some ⟨u,l⟩=>if h:u=tt then U (cA h l)else V
     |none=>V
    |_=>V)with
   |some new=>match s with
    |.c .nil=>U ⟨.c (.own d),[(d,.arr e tt new)],[new.length<=maxLen/\new.length*i.bytes<=140737488355328]⟩
    |.c (.own id)=>match m id with
     |some (.arr j u l)=>if h:u=tt then if j=e/\(uh x).all (· != id)then
       U ⟨.c (.own d),[(id,.gone),(d,.arr e tt (cA h l++new))],[(cA h l).length+new.length<=maxLen/\((cA h l).length+new.length)*i.bytes<=140737488355328]⟩else V else V
     |_=>V
    |.c (.slx u l)=>if h:u=tt then
       U ⟨.c (.own d),[(d,.arr e tt (cA h l++new))],[0<new.length/\(cA h l).length+new.length<=maxLen/\((cA h l).length+new.length)*i.bytes<=140737488355328]⟩else V
    |_=>V
   |none=>V
   else V
  |_,_,_=>V
 |_=>V
def r8(k:IntKind)(x:Int):List AV->Option Int
 |[]=>U x
 |.c (.int i y)::r=>if k=i then r8 k (if y<x then y else x) r else V
 |_=>V
def rz(k:IntKind)(x:Int):List AV->Option Int
 |[]=>U x
 |.c (.int i y)::r=>if k=i then rz k (if x<y then y else x) r else V
 |_=>V
def IS(P:Program)(t:TypeId)(x:AV)(i:Int):Option Eff:=
 match P.underlying t with
 |some .string=>match x with
  |.c (.str b)=>U ⟨.c (.int .u8 (b.data.getD i.toNat 0).toNat),[],[0<=i/\i<b.size]⟩
  |_=>V
 |some (.array n e)=>if (P.info? e).isSome=Z/\(P.underlying e).isSome=Z/\P.cellsOf e=1/\cV P e=Y then match x with
   |.agg cs=>match Sk cs with
    |some k=>match oU k cs with
     |some j=>if j.length=n then U ⟨.c (.int k (j.getD i.toNat 0)),[],[0<=i/\i<n]⟩else V
     |none=>V
    |none=>V
   |_=>V
  else V
 |_=>V
def se(P:Program)(t:TypeId)(x:AV)(m:aT):Option Eff:=
 match P.underlying t,x with
 |some (.array n e),.c (.ptr id off)=>match P.info? e,kg P 20 e,m id with
  |some i,U tt,U (.box _ cs)=>match jr m cs with
   |some (cs',[])=>match ig cs' off (n*tt.size)with
    |some bf=>match splitN tt n bf with
     |some l=>if i.size=tt.size/\0<tt.size/\n<=1000 then U ⟨.c (.sl tt l),[(id,.fbox cs')],[]⟩else V
     |none=>V
    |none=>V
   |_=>V
  |_,_,_=>V
 |_,_=>V
where
 splitN (t:Ty):Nat->List AC->Option (List t.den)
  |0,[]=>U []
  |n+1,cs=>match dec t (cs.take t.size)with
   |some (x,[])=>match splitN t n (cs.drop t.size)with
    |some l=>U (x::l)
    |none=>V
   |_=>V
  |_,_=>V
def mG(Γ:Gm)(n:Int)(args:List AV):List (Int×Nat)->Option ((rs:List Ty)×aa rs×List Prop)
 |[]=>V
 |(k,f)::r=>match Γ f with
  |some ct=>match jf Γ ct.ps args with
   |some (x,i)=>match r with
    |[]=>U ⟨ct.rs,ct.f x,(n=k)::(i++ct.ok x)⟩
    |r=>match mG Γ n args r with
     |some ⟨rs,y,ms⟩=>if h:rs=ct.rs then U ⟨ct.rs,bif n==k then ct.f x else AY h y,[n=k->av (i++ct.ok x),n≠k->av ms]⟩else V
     |none=>V
   |none=>V
  |none=>V
def GS(Γ:Gm)(fv:AV)(args:List AV):Option (AV×List Prop):=
 match fv with
 |.c (.fn f i)=>O7 Γ f (args++i.map .c)
 |.c (.fv ps rs g)=>match g9 ps args with
  |some x=>U (jg rs (g x),[])
  |none=>V
 |.c (.pv ps rs g D)=>match g9 ps args with
  |some x=>U (jg rs (g x),[D x])
  |none=>V
 |.c (.fs es n)=>match mG Γ n args es with
  |some ⟨rs,y,j⟩=>U (jg rs y,j)
  |none=>V
 |_=>V
def ro(P:Program)(t:TypeId)(x:AV)(m:aT):Option Eff:=
 match P.underlying t with
 |some (.slice _)=>match x with
  |.c .nil=>U ⟨.c (.int .i64 0),[],[]⟩
  |.c a=>match rp m a with
   |some ⟨_,l⟩=>U ⟨.c (.int .i64 l.length),[],[]⟩
   |none=>match a with
    |.own id=>match m id with
     |some (.arr e _ l)=>if e<dL then U ⟨.c (.int .i64 l.length),[],[]⟩else V
     |_=>V
    |_=>V
  |_=>V
 |some .string=>match x with
  |.c (.str s)=>U ⟨.c (.int .i64 s.size),[],[]⟩
  |_=>V
 |_=>V
def O8(P:Program)(d:Nat)(b:Builtin)(ts:List TypeId)(vs:List AV)(m:aT):Option Eff:=
 match b,ts,vs with
 |.len,[t],[x]=>ro P t x m
 |.append,[t,i],[s,x]=>if t=i then Fv P d t s x m else V
 |.min,_,.c (.int k n)::r=>match r8 k n r with
  |some y=>U ⟨.c (.int k y),[],[]⟩
  |none=>V
 |.max,_,.c (.int k n)::r=>match rz k n r with
  |some y=>U ⟨.c (.int k y),[],[]⟩
  |none=>V
 |_,_,_=>V
def lL:List AV->Option (List AC×List (Nat×Ob))
 |[]=>U ([],[])
 |.c a::r=>match lL r with
  |some (y,_)=>U (a::y,[])
  |none=>V
 |_=>V
def Jy:AC->Option ((t:Ty)×List t.den)
 |.sl t l=>U ⟨t,l⟩
 |.slx t l=>U ⟨t,l⟩
 |_=>V
def uS:Bool->List AV->Option (Option Int×List AV)
 |false,r=>U (V,r)
 |true,.c (.int _ n)::r=>U (U n,r)
 |true,_=>V
def J4(P:Program)(d:Nat)(t:TypeId)(n c:Int)(m:aT):Option Eff:=
 match P.underlying t with
 |some (.slice e)=>match P.info? e,kg P 20 e,m d with
  |some i,U tt,V=>match i.zero with
   |some z=>match lz (lu z)with
    |some cs=>match dec tt cs with
     |some (x,[])=>if e<cj/\i.size=tt.size/\z.cells.size=tt.size/\0<tt.size then
       U ⟨.c (.own d),[(d,.arr e tt (List.replicate n.toNat x))],[0<=n/\n<=c/\c<=maxLen/\c*i.bytes<=140737488355328]⟩else V
     |_=>V
    |none=>V
   |none=>V
  |_,_,_=>V
 |_=>V
def Hn(P:Program)(d:Nat)(t:TypeId)(lo hi mx:Bool)(x:AV)(r:List AV)(m:aT):Option Eff:=
 match lo,hi,mx,x,r with
 |false,Z,Y,.c (.own id),[.c (.int _ h)]=>match P.underlying t,m id,m d with
  |some (.slice e),U (.arr i tt l),V=>if i<cj/\(P.info? e).isSome=Z/\P.cellsOf e=tt.size then
    U ⟨.c (.own d),[(id,.gone),(d,.arr i tt (l.take h.toNat))],[0<=h/\h<=l.length]⟩
   else V
  |_,_,_=>V
 |_,_,_,_,_=>V
def fX:AV->Bool
 |.maybe _ _ _=>Y
 |_=>Z
def ya(P:Program)(t:TypeId):Bool:=match P.underlying t with
 |some (.interface _)=>Z
 |_=>Y
def Tc(P:Program)(o:BinOp)(t:TypeId)(y:Operand)(x:AV):Option Bool:=
 match o,y,x with
 |.eql,.const .nilIface,.c (.ic es _ z)=>if ya P t=Z then U (cD es z.1).isNone else V
 |.neq,.const .nilIface,.c (.ic es _ z)=>if ya P t=Z then U (!(cD es z.1).isNone)else V
 |_,_,_=>V
def CH(P:Program)(j:String)(ty:TypeId):Option FuncId:=
 match P.info? ty,P.underlying ty with
 |some i,U (.struct _)=>match i.methods.find? (·.name==j)with
  |some m=>match m.func with
   |some (f,Y)=>if m.path.isEmpty=Z then U f else V
   |_=>V
  |none=>V
 |_,_=>V
def xY(P:Program)(i:String):List (Int×Nat)->Option (List (Int×Nat))
 |[]=>U []
 |(k,ty)::r=>match CH P i ty,xY P i r with
  |some f,U fs=>U ((k,f)::fs)
  |_,_=>V
def kL(i:Int)(l m:List α):List α:=l.take i.toNat++m++l.drop i.toNat
def UC(Γ:Gm):AV->Option Row
 |.c (.fn f [])=>Γ.r f
 |_=>V
def K5(r:Row)(d:Nat)(args:List AV)(m:aT):Option Eff:=
 match r,args,m d with
 |.clone e T bytes,[.c a],V=>match rp m a with
  |some ⟨q,l⟩=>if j:q=T then if e<cj then U ⟨.c (.own d),[(d,.arr e T (cA j l))],[l.length<=maxLen,l.length*bytes<=140737488355328]⟩else V else V
  |none=>V
 |.ins e T bytes,[.c (.own a),.c (.int .i64 i),.c (.own b)],V=>match m a,m b with
  |some (.arr e1 q l),U (.arr e2 u x)=>if j:q=T then if t:u=T then if e<cj/\e1=e/\e2=e/\a≠b then
    U ⟨.c (.own d),[(a,.gone),(d,.arr e T (kL i (cA j l) (cA t x)))],[0<=i/\i<=l.length,x.length=1,l.length+1<=maxLen/\(l.length+1)*bytes<=140737488355328]⟩else V else V else V
  |_,_=>V
 |_,_,_=>V
def zA(Γ:Gm)(n:Int)(cs:List AC)(args:List AV):List (Int×Nat)->Option ((T:Ty)×T.den×List Prop)
 |[]=>V
 |(k,f)::r=>match Γ.r f with
  |some (.upd T ps g)=>match dec T cs,g9 ps args with
   |some (x,[]),U y=>match r with
    |[]=>U ⟨T,g x y,[n=k]⟩
    |r=>match zA Γ n cs args r with
     |some ⟨i,z,ms⟩=>if h:i=T then U ⟨T,bif n==k then g x y else GT h z,[n≠k->av ms]⟩else V
     |none=>V
   |_,_=>V
  |_=>V
def Hg(P:Program)(Γ:Gm)(d:Nat)(N:Op)(vs:List AV)(m:aT):Option Eff:=
 match N,vs with
 |.move _,[x] | .assign _,[x]=>U ⟨x,[],[]⟩
 |.alloc e,[]=>match (P.info? e).bind (·.zero),m d with
  |some z,V=>match lz (lu z)with
   |some cs=>U ⟨.c (.ptr d 0),[(d,.box e cs)],[]⟩
   |none=>V
  |_,_=>V
 |.box e _,[x]=>match lz x,m d with
  |some cs,V=>U ⟨.c (.ptr d 0),[(d,.box e cs)],[]⟩
  |_,_=>V
 |.build t ps,vs=>match FS P t ((ps.toList.map (·.1)).zip vs)with
  |some v=>U ⟨v,[],[]⟩
  |none=>V
 |.buildSlice t n ps,vs=>match P.underlying t,m d with
  |some (.slice e),V=>match P.info? e,kg P 20 e,dK m vs with
   |some i,U tt,U (F,u)=>if e<cj/\i.size=tt.size/\0<tt.size/\n*i.size<=16777216/\ps.size=n/\(i.zero.any λz=>z.cells.size==tt.size)=Z then match n9 tt 0 ((ps.toList.map (·.1)).zip F)with
     |some l=>if l.length=n then U ⟨.c (.own d),u++[(d,.arr e tt l)],[]⟩else V
     |none=>V
    else V
   |_,_,_=>V
  |_,_=>V
 |.load t _,[x]=>CE P t x m
 |.store t _ _,[x,v]=>Lh P t x v m
 |.nilCheck _,[x]=>match x with
  |.c (.ptr id off)=>U ⟨.c (.ptr id off),[],[]⟩
  |.c (.sptr cs)=>U ⟨.c (.sptr cs),[],[]⟩
  |_=>V
 |.binOp o t _ W _,[x,y]=>match Tc P o t W x with
  |some v=>U ⟨.c (.bool v),[],[]⟩
  |none=>match F6 P o t x y with
   |some (a,n)=>U ⟨.c a,[],n⟩
   |none=>V
 |.unOp o _ _,[.c (.int k n)]=>match o with
  |.neg=>U ⟨.c (.int k (k.wrap (0-n))),[],[]⟩
  |_=>V
 |.unOp o _ _,[.c (.bool b)]=>match o with
  |.not=>U ⟨.c (.bool (!b)),[],[]⟩
  |_=>V
 |.convert s t _,[.c (.int _ n)]=>match P.underlying s,P.underlying t with
  |some _,U (.int k)=>U ⟨.c (.int k (k.wrap n)),[],[]⟩
  |_,_=>V
 |.makeSlice t _ _,[.c (.int _ n),.c (.int _ c)]=>J4 P d t n c m
 |.slice t _ lo hi mx,x::r=>match Hn P d t lo.isSome hi.isSome mx.isSome x r m with
  |some e=>U e
  |none=>match (if lo.isSome=Y/\hi.isSome=Y/\mx.isSome=Y then se P t x m else V)with
  |some e=>U e
  |none=>match P.underlying t,pD m x,uS lo.isSome r with
  |some (.slice e),U (S,u),U (l,O)=>match uS hi.isSome O with
   |some (h,Q)=>match uS mx.isSome Q with
    |some (k,[])=>match S with
     |.c a=>match Jy a with
      |some ⟨tt,y⟩=>if (P.info? e).isSome/\P.cellsOf e=tt.size then match KQ tt y l h k with
        |some (z,n)=>U ⟨.c z,u,n⟩
        |none=>V
       else V
      |none=>V
     |_=>V
    |_=>V
   |none=>V
  |_,_,_=>V
 |.fieldAddr s _ f,[x]=>match Ie P s x f with
  |some v=>U ⟨v,[],[]⟩
  |none=>V
 |.field s _ f,[.agg cs]=>match tW P s f with
  |some q=>if (P.info? q.type).isSome/\(P.underlying q.type).isSome then match ig cs q.offset (if cV P q.type then P.cellsOf q.type else 1)with
    |some l=>match CL (cV P q.type) l with
     |some v=>U ⟨v,[],[]⟩
     |none=>V
    |none=>V
   else V
  |none=>V
 |.indexAddr t _ _,[x,.c (.int _ i)]=>IR P t x i m
 |.index t _ _,[x,.c (.int _ i)]=>IS P t x i
 |.lookup t _ _ Z,[.c (.mp es),.c (.int .i64 n)]=>match P.underlying t with
  |some (.map k e)=>match P.underlying k,(P.info? e).bind (·.zero)with
   |some (.int .i64),U .nilFunc=>U ⟨.tup [.c (.fs es n),.c (.bool (es.find? (λx=>x.1==n)).isSome)],[],[]⟩
   |_,_=>V
  |_=>V
 |.extract _ i,[.tup vs]=>match vs[i]? with
  |some v=>U ⟨v,[],[]⟩
  |none=>V
 |.typeAssert _ _ ty Z,[.c (.ic es _ x)]=>match P.underlying ty with
  |some (.struct _)=>if ((P.info? ty).bind (·.zero)).isSome=Z then U ⟨.tup [.dead,.c (.bool (cD es x.1==U ty))],[],[]⟩else V
  |_=>V
 |.makeFunc (.func f) first _,vs=>if first.size=0 then match (if (Γ f).isSome then vO m vs else lL vs)with
   |some (w,u)=>U ⟨.c (.fn f w),u,[]⟩
   |none=>V
  else V
 |.call ⟨.builtin b,_,ts⟩,vs=>O8 P d b ts.toList vs m
 |.call ⟨.invoke _ C,_,_⟩,.c (.ic es t x)::args=>match dK m args,xY P C es with
  |some (j,u),U fs=>match mG Γ x.1 (dE t x.2::j) fs with
   |some ⟨rs,y,n⟩=>U ⟨jg rs y,u,n⟩
   |none=>V
  |_,_=>V
 |.call ⟨.value _,_,_⟩,.c (.fs es n) :: .c (.ptr id 0)::args=>match m id with
  |some (.box e cs)=>match zA Γ n cs args es with
   |some ⟨T,z,H⟩=>U ⟨.dead,[(id,.box e (enc T z))],H⟩
   |none=>V
  |_=>V
 |.call ⟨.value _,_,_⟩,fv::args=>match UC Γ fv with
  |some r=>K5 r d args m
  |none=>match dK m args with
   |some (j,u)=>match GS Γ fv j with
    |some (v,n)=>U ⟨v,u,n⟩
    |none=>V
   |none=>V
 |_,_=>V
def UY(Γ:Gm)(e:TypeId):Option (Nat×Nat):=match Γ.r (1000000000000+e)with
 |some (.rw off inn)=>U (off,inn)
 |_=>V
def KG(e off inn:Nat):Bool:=J (rY (ed e off inn)=e/\cB (ed e off inn)=off/\jV (ed e off inn)=inn/\cj<=ed e off inn/\ed e off inn<dL/\inn<cj)
def IT(m:aT)(inn:Nat)(t:Ty):AC->Option (List t.den×List (Nat×Ob))
 |.nil=>U ([],[])
 |.own k=>match m k with
  |some (.arr e i l)=>if h:i=t then if e=inn then U (cA h l,[(k,.gone)])else V else V
  |_=>V
 |_=>V
def KM(t:Ty)(off:Nat):Option Ty:=match (enc t t.dflt)[off]? with
 |some (.sl i _)=>U i
 |_=>V
def FT(P:Program)(Γ:Gm)(d:Nat)(e:TypeId)(v:AV)(m:aT):Option Eff:=
 match UY Γ e,kg P 20 e,P.info? e,lz v,m d with
 |some (off,inn),U tt,U i,U cs,V=>match KM tt off,cs[off]? with
  |some j,U c=>match IT m inn j c with
   |some (l,u)=>match dec tt (cs.set off (.sl j l))with
    |some (x,[])=>if KG e off inn=Z/\i.size=tt.size/\0<tt.size/\i.size<=16777216/\(i.zero.any λz=>z.cells.size==tt.size)=Z then
      U ⟨.c (.own d),u++[(d,.arr (ed e off inn) tt [x])],[]⟩else V
    |_=>V
   |none=>V
  |_,_=>V
 |_,_,_,_,_=>V
def J6(P:Program)(Γ:Gm)(d:Nat)(t:TypeId)(n c:Int)(m:aT):Option Eff:=
 match P.underlying t with
 |some (.slice e)=>match UY Γ e,P.info? e,kg P 20 e,m d with
  |some (off,inn),U i,U tt,V=>match i.zero with
   |some z=>match lz (lu z)with
    |some cs=>match dec tt cs,cs[off]? with
     |some (x,[]),U .nil=>if KG e off inn=Z/\i.size=tt.size/\z.cells.size=tt.size/\0<tt.size then
       U ⟨.c (.own d),[(d,.arr (ed e off inn) tt (List.replicate n.toNat x))],[0<=n/\n<=c/\c<=maxLen/\c*i.bytes<=140737488355328]⟩else V
     |_,_=>V
    |none=>V
   |none=>V
  |_,_,_,_=>V
 |_=>V
def Jz(P:Program)(d:Nat)(t:TypeId)(id sz i off:Nat)(m:aT):Option Eff:=
 match m id,m d with
 |some (.arr e tt l),V=>match (enc tt (l.getD i tt.dflt))[off]? with
  |some (.sl q j)=>if cj<=e/\e<dL/\off=cB e/\tt.size=sz/\jV e<cj/\cV P t=Y/\(P.info? t).isSome=Z/\(P.underlying t).isSome=Z then
    U ⟨.c (.own d),[(id,.hole e tt l i),(d,.arr (jV e) q j)],[i<l.length]⟩else V
  |_=>V
 |_,_=>V
def Li(P:Program)(t:TypeId)(id sz i off k:Nat)(m:aT):Option Eff:=
 match m id,m k with
 |some (.hole e tt l j),U (.arr e2 q l2)=>match KM tt off with
  |some u=>if u=q/\e2=jV e/\e2<cj/\off=cB e/\tt.size=sz/\(P.info? t).isSome=Z/\P.cellsOf t=1/\id≠k then
    match dec tt ((enc tt (l.getD i tt.dflt)).set off (.sl q l2))with
    |some (y,[])=>U ⟨.dead,[(k,.gone),(id,.arr e tt (l.set i y))],[i<l.length/\i=j]⟩
    |_=>V
   else V
  |none=>V
 |_,_=>V
def Fw(P:Program)(d:Nat)(t:TypeId)(s:AV)(k:Nat)(m:aT):Option Eff:=
 match P.underlying t with
 |some (.slice e)=>match P.info? e,m k,m d with
  |some i,U (.arr e2 tt l2),V=>if cj<=e2/\e2<dL/\rY e2=e/\i.size=tt.size/\0<tt.size/\(i.zero.any λz=>z.cells.size==tt.size)=Z then
   match s with
   |.c .nil=>U ⟨.c (.own d),[(k,.gone),(d,.arr e2 tt l2)],[l2.length<=maxLen/\l2.length*i.bytes<=140737488355328]⟩
   |.c (.own id)=>match m id with
    |some (.arr j u l)=>if h:u=tt then if j=e2/\id≠k then
      U ⟨.c (.own d),[(id,.gone),(k,.gone),(d,.arr e2 tt (cA h l++l2))],[(cA h l).length+l2.length<=maxLen/\((cA h l).length+l2.length)*i.bytes<=140737488355328]⟩else V else V
    |_=>V
   |_=>V
   else V
  |_,_,_=>V
 |_=>V
def ip(l:List (Int×α))(n:Int)(z:α):α:=match l.find? (λx=>x.1==n)with
 |some x=>x.2
 |none=>z
def ec:List (Int×α)->Int->α->List (Int×α)
 |[],n,y=>[(n,y)]
 |x::r,n,y=>bif x.1==n then (n,y)::r else x::ec r n y
def yj(P:Program)(t:TypeId):Option (TypeId×Ty):=match P.underlying t with
 |some (.map k e)=>match P.underlying k,kg P 20 e with
  |some (.int .i64),U i=>if i.flat=Z/\i.wide=Y then U (e,i)else V
  |_,_=>V
 |_=>V
def J5(P:Program)(d:Nat)(t:TypeId)(m:aT):Option Eff:=match yj P t,m d with
 |some (_,i),V=>U ⟨.c (.own d),[(d,.arr dL (.pair (.int .i64) i) [])],[]⟩
 |_,_=>V
def J1(P:Program)(t:TypeId)(id:Nat)(n:Int)(m:aT):Option Eff:=match yj P t,m id with
 |some (e,j),U (.arr b (.pair (.int .i64) i) l)=>match (P.info? e).bind (·.zero)with
  |some z=>match lB i (lu z)with
   |some q=>if dL<=b/\i=j then U ⟨dE i (ip l n q),[],[]⟩else V
   |none=>V
  |none=>V
 |_,_=>V
def L7(P:Program)(t:TypeId)(id:Nat)(n:Int)(v:AV)(m:aT):Option Eff:=match yj P t,m id with
 |some (_,j),U (.arr b (.pair (.int .i64) i) l)=>match lB i v with
  |some y=>if dL<=b/\i=j then U ⟨.dead,[(id,.arr b (.pair (.int .i64) i) (ec l n y))],[l.length<maxLen]⟩else V
  |none=>V
 |_,_=>V
def IQ(P:Program)(t:TypeId)(v:AV):Option Eff:=match P.underlying t,v with
 |some (.pointer _),.c (.ptr id 0)=>U ⟨.c (.ifp t id),[],[]⟩
 |some _,v=>match kg P 20 t with
  |some tt=>match lB tt v with
   |some x=>U ⟨.c (.ic [(1,t)] tt (1,x)),[],[]⟩
   |none=>V
  |none=>V
 |none,_=>V
def Fx(P:Program)(ty:TypeId)(ok:Bool)(es:List (Int×Nat))(t:Ty)(x:Int×t.den):Option Eff:=
 match P.underlying ty,es with
 |some (.struct _),[(1,_)]=>U ⟨if ok then .tup [dE t x.2,.c (.bool Z)]else dE t x.2,[],[cD es x.1=U ty]⟩
 |some (.int _),[(1,_)]=>U ⟨if ok then .tup [dE t x.2,.c (.bool Z)]else dE t x.2,[],[cD es x.1=U ty]⟩
 |_,_=>V
def qoi(m:aT):AV->Bool
 |.c (.own id)=>match m id with
  |some (.arr e _ _)=>J (cj<=e)
  |_=>Y
 |_=>Y
def J0(Γ:Gm)(fv:AV)(args:List AV)(m:aT):Option Eff:=if args.any (qoi m)then match fv,dK m args with
 |.c (.fn f j),U (i,_)=>match Γ f with
  |some ct=>if ct.rs.all Ty.flat then match jf Γ ct.ps (i++j.map .c)with
    |some (x,n)=>U ⟨jg ct.rs (ct.f x),[],n++ct.ok x⟩
    |none=>V
   else V
  |none=>V
 |_,_=>V
 else V
def Hh(P:Program)(Γ:Gm)(d:Nat)(q:Op)(vs:List AV)(m:aT):Option Eff:=
 match q,vs with
 |.buildSlice t n ps,[v]=>match P.underlying t with
  |some (.slice e)=>if n=1/\ps.toList.map (·.1)=[0]then FT P Γ d e v m else V
  |_=>V
 |.makeSlice t _ _,[.c (.int _ n),.c (.int _ c)]=>J6 P Γ d t n c m
 |.load t _,[.optr id sz i off]=>Jz P d t id sz i off m
 |.store t _ _,[.optr id sz i off,.c (.own k)]=>Li P t id sz i off k m
 |.call ⟨.builtin .append,_,ts⟩,[s,.c (.own k)]=>match ts.toList with
  |[t,u]=>if t=u then Fw P d t s k m else V
  |_=>V
 |.makeMap t V,[]=>J5 P d t m
 |.lookup t _ _ Y,[.c (.own id),.c (.int .i64 n)]=>J1 P t id n m
 |.mapUpdate t _ _ _,[.c (.own id),.c (.int .i64 n),v]=>L7 P t id n v m
 |.makeInterface t _,[v]=>IQ P t v
 |.typeAssert _ _ ty ok,[.c (.ic es t x)]=>Fx P ty ok es t x
 |.makeFunc (.func f) first j,[.c (.ptr id 0)]=>if first.size=1/\j.size=0 then U ⟨.c (.fb f id),[],[]⟩else V
 |.call ⟨.value _,_,_⟩,fv::args=>J0 Γ fv args m
 |_,_=>V
def Bg(P:Program)(Γ:Gm)(d:Nat)(op:Op)(vs:List AV)(m:aT):Option Eff:=
 match op with
 |.pick c _ _=>match vs with
  |[.c (.bool p),a,b]=>match yA p (Ev c Z a) (Ev c Y b)with
   |some v=>U ⟨v,[],[]⟩
   |none=>V
  |_=>V
 |op=>if vs.all fX then match Hh P Γ d op vs m with
   |some e=>U e
   |none=>Hg P Γ d op vs m
  else V
def uw(j:Op)(vs:List AV)(m:aT):List Nat:=
 match j with
 |.makeFunc _ _ _=>vs.flatMap uh++(vs.flatMap uh).flatMap (λi=>qnf (m i))
 |.move _=>[]
 |_=>vs.flatMap uh
def jq(ks:List Nat)(m:aT):aT:=λi=>if ks.contains i then m i else V
def nh(sl:Nat->AV):Nat->Tmp->Bool->Option (List (Tmp×Bool×Bool))
 |0,_,_=>V
 |n+1,g,i=>match sl g with
  |.c (.bool b)=>U [(g,i,b)]
  |.maybe j w0 (.c (.bool b))=>match nh sl n j w0 with
   |some l=>U ((g,i,b)::l)
   |none=>V
  |_=>V
def pZ(gs:List (Tmp×Bool×Bool)):AV->AV
 |.maybe g w v=>if gs.any (λx=>x.1==g&&x.2.1==w)then v else .maybe g w v
 |v=>v
def L4(gs:List (Tmp×Bool×Bool))(i:List Prop):List Prop:=i.map λp=>gs.foldr (λx q=>x.2.2=x.2.1->q) p
structure Ef where
 dst:Option Tmp
 v:AV
 wr:List (Nat×Ob)
 need:List Prop
 rd:List Tmp
 ks:List Nat
def wh(i:Op):List Tmp:=i.operands.toList.filterMap λ
 |.tmp t=>U t
 |_=>V
def o9(b:Nat)(o:Oper):Nat:=b+o.dst.getD 1000000
def dY(P:Program)(Γ:Gm)(b:Nat)(ops:List Oper)(o:Oper)(sl:Nat->AV)(m:aT):Option Ef:=
 match o.guard with
 |none=>
  let vs:=o.op.operands.toList.map (gC sl)
  let ks:=o9 b o::uw o.op vs m
  match Bg P Γ (o9 b o) o.op vs (jq ks m)with
  |some e=>U ⟨o.dst,e.v,e.wr,e.need,wh o.op,ks⟩
  |none=>V
 |some (j,i)=>
  match (ops[j]?).bind (·.dst)with
  |some g=>match nh sl 5 g i with
   |some gs=>
    let vs:=o.op.operands.toList.map λx=>pZ gs (gC sl x)
    let ks:=o9 b o::uw o.op vs m
    match Bg P Γ (o9 b o) o.op vs (jq ks m)with
    |some e=>match e.wr with
     |[]=>U ⟨o.dst,.maybe g i e.v,[],L4 gs e.need,gs.map (·.1)++wh o.op,ks⟩
     |_=>V
    |none=>V
   |none=>V
  |none=>V
def e8(sl:Nat->AV)(d:Option Tmp)(v:AV):Nat->AV:=
 match d with
 |none=>sl
 |some t=>λi=>if i=t then v else sl i
def Ef.go(e:Ef)(s:St):St:=⟨s.n,e8 s.sl e.dst e.v,ax s.mem e.wr,s.gs⟩
def pE(P:Program)(Γ:Gm)(b:Nat)(ops:List Oper):List Oper->St->Option (List Ef×St)
 |[],s=>U ([],s)
 |o::r,s=>match dY P Γ b ops o s.sl s.mem with
  |some e=>match pE P Γ b ops r (e.go s)with
   |some (es,i)=>U (e::es,i)
   |none=>V
  |none=>V
def fW:List Nat->List Oper->List Nat
 |i,[]=>i
 |i,o::r=>fW (i++[o.after.toList.foldr (λe s=>if Region.binds .any e then 2 ^ e.on ||| i.getD e.on 0 ||| s else s) 0]) r
def pM(n:Nat):Nat->List Tmp->List Oper->Bool
 |_,_,[]=>Z
 |k,W,o::r=>
  (match o.dst with
   |some t=>J (t<n) && !W.contains t
   |none=>Z) &&
  (match o.guard with
   |some (j,_)=>J (j<k)&&o.after.toList.any λe=>e.on==j&&Region.binds .any e
   |none=>Z) &&
  (o.after.toList.all λe=>!Region.binds .any e || J (e.on<k)) &&
  pM n (k+1) (o.dst.toList++W) r
def jI(e f:Ef):Bool:=
 (match e.dst with
  |some t=>!f.rd.contains t&&(f.dst != U t)
  |none=>Z) &&
 (match f.dst with
  |some t=>!e.rd.contains t
  |none=>Z) &&
 e.wr.all (λx=>!f.ks.contains x.1&&f.wr.all λy=>x.1 != y.1) &&
 f.wr.all λy=>!e.ks.contains y.1
def CX(k:Nat)(j:Nat)(f:Ef):Nat->List Ef->Bool
 |_,[]=>Z
 |i,e::r=>if i<k then (j.testBit i || jI e f)&&CX k j f (i+1) r else Z
def r9(ops:List Oper)(es:List Ef):Bool:=
 let ms:=fW [] ops
 (List.range es.length).all λk=>match es[k]?,ms[k]? with
  |some f,U i=>CX k i f 0 es
  |_,_=>Y
def iF(sl:Nat->AV):Nat->AV:=λi=>match sl i with
 |.maybe _ _ _=>.dead
 |v=>v
inductive XE where
 |normal
 |exit (id:Nat)
 |ret
 |panic (p:PV)
 |val (v:AV)
 |jump (l:Nat)
inductive Tr where
 |leaf (e:XE) (s:St)
 |br (b:Bool) (x y:Tr)
 |need (p:Prop) (x:Tr)
 |two (p:Prop) (x y:Tr)
def Tr.bind(f:St->Option Tr):Tr->Option Tr
 |.leaf .normal s=>f s
 |.leaf e s=>U (.leaf e s)
 |.br b x y=>match x.bind f,y.bind f with
  |some i,U j=>U (.br b i j)
  |_,_=>V
 |.need p x=>match x.bind f with
  |some i=>U (.need p i)
  |none=>V
 |.two p x y=>match x.bind f,y.bind f with
  |some i,U j=>U (.two p i j)
  |_,_=>V
def Tr.bindV(f:AV->St->Option Tr):Tr->Option Tr
 |.leaf (.val v) s=>f v s
 |.leaf (.panic p) s=>U (.leaf (.panic p) s)
 |.leaf _ _=>V
 |.br b x y=>match x.bindV f,y.bindV f with
  |some i,U j=>U (.br b i j)
  |_,_=>V
 |.need p x=>match x.bindV f with
  |some i=>U (.need p i)
  |none=>V
 |.two p x y=>match x.bindV f,y.bindV f with
  |some i,U j=>U (.two p i j)
  |_,_=>V
def Tr.block(id:Nat):Tr->Tr
 |.leaf (.exit i) s=>if i=id then .leaf .normal s else .leaf (.exit i) s
 |.leaf e s=>.leaf e s
 |.br b x y=>.br b (x.block id) (y.block id)
 |.need p x=>.need p (x.block id)
 |.two p x y=>.two p (x.block id) (y.block id)
def Tr.scope:Tr->Tr
 |.leaf (.jump _) s=>.need False (.leaf .ret s)
 |.leaf (.val _) s=>.need False (.leaf .ret s)
 |.leaf e s=>.leaf e s
 |.br b x y=>.br b x.scope y.scope
 |.need p x=>.need p x.scope
 |.two p x y=>.two p x.scope y.scope
def ce:Code->Nat
 |.loop _=>1
 |.seq a b=>ce a+ce b
 |.cond _ a b=>ce a+ce b
 |.block _ c=>ce c
 |.scope c=>ce c
 |_=>0
def needL(i:List Prop)(t:Tr):Tr:=i.foldr (λp t=>.need p t) t
def JH(es:List Ef)(t:Tr):Tr:=es.foldr (λe t=>needL e.need t) t
def fk(s:St):St:=⟨s.n,iF s.sl,s.mem,s.gs⟩
def Dx(P:Program)(Γ:Gm)(b:Nat)(ops:List Oper)(i:Bool)(s:St):Option Tr:=
 if pM s.n 0 [] ops then match pE P Γ b ops ops s with
  |some (es,j)=>if i=Y\/r9 ops es=Z then U (JH es (.leaf .normal (fk j)))else V
  |none=>V
 else V
structure Cx where
 Γ:Gm
 Pi:FuncId->Option Pc
 K:Nat->FuncId->List AV->St->Option Tr
def JC(P:Program)(j:String)(ty:TypeId):Option (FuncId×Bool):=
 match P.info? ty,P.underlying ty with
 |some i,U (.pointer el)=>match i.methods.find? (·.name==j)with
  |some m=>match m.func with
   |some (f,q)=>if m.path.isEmpty=Z/\(q=Z\/((P.info? el).isSome=Z/\(P.underlying el).isSome=Z/\cV P el=Y))then U (f,!q)else V
   |none=>V
  |none=>V
 |_,_=>V
def ze(P:Program)(C:Cx)(b:Nat)(o:Oper)(s:St):Option Tr:=
 match o.guard,o.op,o.op.operands.toList.map (gC s.sl)with
 |none,.call ⟨.value _,_,_⟩,.c (.fn f i)::args=>match C.Pi f with
  |some pc=>match dK s.mem (args++i.map .c)with
   |some (xs,u)=>match jf C.Γ pc.ps xs with
    |some (x,n)=>U (needL (n++pc.ok x) (.br (pc.bad x) (.leaf (.panic (pc.pv x)) (fk ⟨s.n,s.sl,ax s.mem u,s.gs⟩)) (.leaf (.val (jg pc.rs (pc.f x))) (fk ⟨s.n,s.sl,ax s.mem u,s.gs⟩))))
    |none=>V
   |none=>V
  |none=>if args.all fX then C.K (o9 b o) f (args++i.map .c) (fk s)else V
 |none,.call ⟨.value _,_,_⟩,.c (.fb f id)::args=>if args.all fX then C.K (o9 b o) f (.c (.ptr id 0)::args) (fk s)else V
 |none,.call ⟨.invoke _ j,_,_⟩,.c (.ifp ty id)::args=>match JC P j ty with
  |some (f,Z)=>match s.mem id with
   |some (.box _ [.own r])=>if args.all fX then C.K (o9 b o) f (.c (.own r)::args) (fk s)else V
   |_=>V
  |some (f,Y)=>if args.all fX then C.K (o9 b o) f (.c (.ptr id 0)::args) (fk s)else V
  |none=>V
 |none,.binOp .eql t _ _ _,[.c (.sl _ l),.c .nil]=>if P.underlying t matches U (.slice _)then
   U (.two (l=[]) (.leaf (.val (.c (.bool Z))) (fk s)) (.leaf (.val (.c (.bool Y))) (fk s)))else V
 |_,_,_=>V
def uR(P:Program)(C:Cx)(b:Nat)(ops:List Oper):List Oper->St->Option Tr
 |[],s=>U (.leaf .normal (fk s))
 |o::r,s=>match dY P C.Γ b ops o s.sl s.mem with
  |some e=>match uR P C b ops r (e.go s)with
   |some t=>U (needL e.need t)
   |none=>V
  |none=>match ze P C b o s with
   |some t=>t.bindV λv i=>uR P C b ops r ⟨i.n,e8 i.sl o.dst v,i.mem,i.gs⟩
   |none=>V
def ux(kn:List (Tmp×Bool))(t:Tmp):Option Bool:=match kn with
 |[]=>V
 |(x,v)::r=>if x=t then U v else ux r t
def Ao(kn:List (Tmp×Bool)):Operand->Option Bool
 |.tmp t=>ux kn t
 |.const (.bool c)=>U c
 |_=>V
def IC(kn:List (Tmp×Bool)):Op->Option Operand
 |.move x=>U x
 |.pick c x y=>match Ao kn c with
  |some Z=>U x
  |some Y=>U y
  |none=>V
 |_=>V
def Cb(o:Oper):Oper:=⟨o.dst,o.op,o.type,o.pos,o.after,V⟩
def uQ(P:Program)(C:Cx)(b:Nat)(ops:List Oper)(kn:List (Tmp×Bool))(o:Oper)(s:St)(k:List (Tmp×Bool)->St->Option Tr):Option Tr:=
 match IC kn o.op,o.dst with
 |some x,U d=>match Ao kn x with
  |some c=>k ((d,c)::kn) ⟨s.n,e8 s.sl (U d) (.c (.bool c)),s.mem,s.gs⟩
  |none=>match gC s.sl x with
   |.maybe _ _ _=>V
   |v=>k kn ⟨s.n,e8 s.sl (U d) v,s.mem,s.gs⟩
 |_,_=>match dY P C.Γ b ops (Cb o) s.sl s.mem with
  |some e=>match k kn (e.go s)with
   |some t=>U (needL e.need t)
   |none=>V
  |none=>match ze P C b (Cb o) s with
   |some t=>t.bindV λv i=>k kn ⟨i.n,e8 i.sl o.dst v,i.mem,i.gs⟩
   |none=>V
def kS(P:Program)(C:Cx)(b:Nat)(ops:List Oper):List (Tmp×Bool)->List Oper->St->Option Tr
 |_,[],s=>U (.leaf .normal (fk s))
 |kn,o::r,s=>match o.guard with
  |none=>uQ P C b ops kn o s λkn s=>kS P C b ops kn r s
  |some (j,i)=>match (ops[j]?).bind (·.dst)with
   |none=>V
   |some g=>match ux kn g with
    |some v=>if v=i then uQ P C b ops kn o s λkn s=>kS P C b ops kn r s
     else kS P C b ops kn r ⟨s.n,e8 s.sl o.dst .dead,s.mem,s.gs⟩
    |none=>match s.sl g with
     |.c (.bool p)=>match uQ P C b ops ((g,i)::kn) o s λkn s=>kS P C b ops kn r s,kS P C b ops ((g,!i)::kn) r ⟨s.n,e8 s.sl o.dst .dead,s.mem,s.gs⟩with
      |some x,U y=>U (.br p (if i then x else y) (if i then y else x))
      |_,_=>V
     |_=>V
def Cc(m:aT)(id:Nat):aT:=match me m (.own id)with
 |some (_,u)=>ax m u
 |none=>m
def xW(s:St):St:=⟨s.n,s.sl,((List.range s.n).flatMap λt=>match s.sl t with
 |.c (.ptr id 0)=>match s.mem id with
  |some (.box _ cs)=>cs.flatMap lH
  |_=>[]
 |_=>[]).foldl Cc s.mem,s.gs⟩
def cr(P:Program)(C:Cx)(bs:Nat)(Λ:Nat->St->Option Tr):Code->Nat->St->Option Tr
 |.skip,_,s=>U (.leaf .normal s)
 |.ret,_,s=>U (.leaf .ret s)
 |.exit id,_,s=>U (.leaf (.exit id) s)
 |.region _ ops i,_,s=>match Dx P C.Γ bs ops.toList i s with
  |some t=>U t
  |none=>match (if i=Y/\pM s.n 0 [] ops.toList=Z then uR P C bs ops.toList ops.toList s else V)with
   |some t=>U t
   |none=>match (if i=Y/\pM s.n 0 [] ops.toList=Z then kS P C bs ops.toList [] ops.toList s else V)with
    |some t=>U t
    |none=>match Dx P C.Γ bs ops.toList i (xW s)with
     |some t=>U t
     |none=>U (.need False (.leaf .ret s))
 |.seq a b,k,s=>match cr P C bs Λ a k s with
  |some t=>t.bind (cr P C bs Λ b (k+ce a))
  |none=>V
 |.cond c a b,k,s=>match gC s.sl c with
  |.c (.bool p)=>match cr P C bs Λ a k s,cr P C bs Λ b (k+ce a) s with
   |some x,U y=>U (.br p x y)
   |_,_=>V
  |_=>V
 |.block id c,k,s=>match cr P C bs Λ c k s with
  |some t=>U (t.block id)
  |none=>V
 |.loop _,k,s=>match Λ k s with
  |some t=>U t
  |none=>U (.need False (.leaf .ret s))
 |.scope c,k,s=>match cr P C bs Λ c k s with
  |some t=>U t.scope
  |none=>V
 |.label _,_,s=>U (.leaf .normal s)
 |.goto l,_,s=>U (.leaf (.jump l) s)
 |_,_,s=>U (.need False (.leaf .ret s))
def sj(n:Nat)(args:List AV):St:=⟨n,λi=>args.getD i .dead,λ_=>V,λ_=>.dead⟩
def St.at(s:St)(t:Nat):AV:=if t<10000 then s.sl t else s.gs (t-10000)
def U1(P:Program)(s:St):ResultVar->Option (AV×List Prop)
 |.tmp t=>U (s.sl t,[])
 |.cell a t=>match s.sl a with
  |.c (.ptr id off)=>match CE P t (.c (.ptr id off)) s.mem with
   |some e=>U (e.v,e.need)
   |none=>V
  |_=>V
def gv(P:Program)(s:St):List ResultVar->Option (List AV×List Prop)
 |[]=>U ([],[])
 |r::rs=>match U1 P s r,gv P s rs with
  |some (v,n),U (vs,k)=>U (v::vs,n++k)
  |_,_=>V
def rX:List AV->AV
 |[v]=>v
 |vs=>.tup vs
def St.back(n:Nat)(s:St):St:=⟨n,λt=>if t<10000 then s.gs t else .dead,s.mem,λt=>s.gs (t+10000)⟩
def gn(P:Program)(i:List ResultVar)(n:Nat):Tr->Option Tr
 |.leaf .ret s=>match gv P s i with
  |some (vs,m)=>U (needL m (.leaf (.val (rX vs)) (s.back n)))
  |none=>V
 |.leaf .normal s=>match gv P s i with
  |some (vs,m)=>U (needL m (.leaf (.val (rX vs)) (s.back n)))
  |none=>V
 |.leaf (.panic p) s=>U (.leaf (.panic p) (s.back n))
 |.leaf _ _=>V
 |.br b x y=>match gn P i n x,gn P i n y with
  |some j,U q=>U (.br b j q)
  |_,_=>V
 |.need p x=>match gn P i n x with
  |some j=>U (.need p j)
  |none=>V
 |.two p x y=>match gn P i n x,gn P i n y with
  |some j,U q=>U (.two p j q)
  |_,_=>V
def fU(P:Program)(C:Cx)(j:FuncId->Option (Func×(Nat->St->Option Tr)))(d:Nat)(f:FuncId)(args:List AV)(s:St):Option Tr:=
 match j f with
 |some (fn,Λ)=>match fn.body with
  |some c=>if args.length<=fn.ntmps/\(fn.name == "runtime.NumGoroutine")=Y then
    match cr P C ((d+1)*10000) Λ c 0 ⟨fn.ntmps,λi=>args.getD i .dead,s.mem,s.at⟩with
    |some t=>gn P fn.results.toList s.n t
    |none=>V
   else V
  |none=>V
 |none=>V
section
variable (P:Program) (w:World) (F:Nat->Prop) (R:Nat->Value->Prop)
def bj:List AV->List Value->Prop
 |[],[]=>True
 |a::r,v::s=>aE P w F R a v/\bj r s
 |_,_=>False
end
def Uy:{us:List Value} -> {vs:List AV}->bj P w F R vs us->ln P w F R vs (λj u=>us[j]?= U u)
 |[],[],_=>trivial
 |u::us,v::vs,h=>⟨⟨u,rfl,h.1⟩,by simpa using Uy h.2⟩
 |[],_::_,h=>h.elim
 |_::_,[],h=>h.elim
def sV(P:Program)(B:Nat)(o:Oper)(a:Act)(w:World)(F:Nat->Prop)(γ:Nat->Value)(M:aT)(v:AV)(wr:List (Nat×Ob)):Prop:=
 ∀ (K:Act->World->Prop) (Q:Exit->Act->World->Prop),
  (∀ u w' F' γ',Step B w F γ M w' F' γ' (ax M wr)->MemOK P B w' F' γ' (ax M wr)->aE P w' F' (ap (ax M wr) γ') v u->K (a.put o.dst u) w')->o.wp P a w K Q
section
variable {P:Program} {B:Nat} {o:Oper} {a:Act} {w w':World} {F F':Nat->Prop} {γ γ':Nat->Value} {M m:aT} {R:Nat->Value->Prop}
def ir{v:AV}{wr:List (Nat×Ob)}(q:(execOp a.eval o).run P w=.ok (.value u) w')(t:Step B w F γ M w' F' γ' (ax M wr))(m:MemOK P B w' F' γ' (ax M wr))(j:aE P w' F' (ap (ax M wr) γ') v u):sV P B o a w F γ M v wr:=by
 intro K Q i;unfold Oper.wp;rw[q];exact i u w' F' γ' t m j
def dl{v:AV}(j:MemOK P B w F γ M)(hb:∀ b,F b->b<w.heap.size)(m:(execOp a.eval o).run P w=.ok (.value u) w)(i:aE P w F (ap M γ) v u):sV P B o a w F γ M v []:=
 ir m (Step.refl hb) j i
def aN.drop_{cs:List AC}(h:aN P w F R cs g)(n:Nat):aN P w F R (cs.drop n) (λj u=>g (n+j) u):=
 ki _ λj c hc=>h.at_ (by rw[<- hc,ub0])
def aN.take_{cs:List AC}(h:aN P w F R cs g)(n:Nat):aN P w F R (cs.take n) g:=
 ki _ λj c hc=>h.at_ (by rw[ub1]at hc;split at hc<;>simp_all)
def aN.turn{cs:List AC}{g':Nat->Value->Prop}(h:aN P w F R cs g)(hg:∀ j u,j<cs.length->g j u->g' j u):aN P w F R cs g':=
 ki _ λj c hc=>by
  obtain⟨u,i,m⟩:=h.at_ hc;exact⟨u,hg j u (uak.1 hc).1 i,m⟩
def aN.vals:(cs:List AC) -> {g:Nat->Value->Prop}->aN P w F R cs g->∃ us:List Value,us.length=cs.length/\(∀ j u,us[j]?= U u->g j u)/\aN P w F R cs (λj u=>us[j]?= U u)/\∀ u∈us,u.oneCell'=Z
 |[],_,_=>⟨[],rfl,λj u h=>by simp at h,uT,λu h=>by simp at h⟩
 |c::r,g,h=>by
  obtain⟨⟨u,C,m,H⟩,N⟩:=h;obtain⟨us,e1,e2,q,t⟩:=aN.vals r N;refine⟨u::us,by simp[e1],λj v i=>?_,⟨⟨u,rfl,m,H⟩,by simpa using q⟩,λv i=>?_⟩;cases j with
  |zero=>simp at i;subst i;exact C
  |succ j=>exact e2 j v (by simpa using i)
  rcases uef.1 i with rfl|i
  exact m;exact t v i
def uc{cs l:List AC}(h:ig cs off n=U l)(i:aN P w F R cs g):l.length=n/\aN P w F R l (λj u=>g (off+j) u):=by
 unfold ig at h;split at h;cases h;exact⟨by simp;omega,(i.drop_ off).take_ n⟩;cases h
def lw{id:Nat}{cs:List AC}(N:MemOK P B w F γ M)(q:M id=U (.box e cs))(h:bc P w F (ap M γ) (.ptr id off) v):
  ∃ b arr,γ id=.pointer (U ⟨b,0,V⟩)/\v=.pointer (U ⟨b,off,V⟩)/\w.heap[b]?= U (.cells arr e (0,0))/\¬ F b/\B<=b/\arr.size=cs.length/\aN P w F (ap M γ) cs (λj u=>arr[j]?= U u):=by
 obtain⟨b,arr,m,C⟩:=N.ob id _ q;obtain⟨t,i,H⟩:=h;unfold ap at i;rw[q]at i;simp only[m,ubs,uck,Addr.mk.injEq,and_true]at i;subst i;exact⟨t,arr,m,H,C⟩
def HH{id:Nat}{cs:List AC}(N:MemOK P B w F γ M)(m:M id=U (.fbox cs))(h:bc P w F (ap M γ) (.ptr id off) v):
  ∃ b,v=.pointer (U ⟨b,off,V⟩)/\F b/\aN P w F (ap M γ) cs (λj u=>w.cell? ⟨b,j,V⟩=U u):=by
 obtain⟨b,t,C⟩:=N.ob id _ m;obtain⟨q,i,H⟩:=h;unfold ap at i;rw[m]at i;simp only[t,ubs,uck,Addr.mk.injEq,and_true]at i;subst i;exact⟨q,H,C⟩
def ez{id:Nat}{o:Ob}(i:M id=U o)(j:o ≠ .gone)(h:bc P w F (ap M γ) (.own id) v):v=γ id:=by
 simp only[bc]at h;unfold ap at h;cases o<;>simp_all
def m9(a:Addr)(i j:Nat):(a.add i).add j=a.add (i+j):=by
 unfold Addr.add;by_cases hi:i=0<;>by_cases m:j=0<;>simp[hi,uee]
def i8(b off j:Nat):(⟨b,off,V⟩:Addr).add j=⟨b,off+j,V⟩:=by unfold Addr.add;split<;>simp_all
def tG{fr:Nat×Nat}(h:w.heap[b]?= U (.cells arr e fr))(j:Nat):w.cell? ⟨b,j,V⟩=arr[j]? := by simp[World.cell?,h]
def qx2{t:Ty}{l:List t.den}(h:bU w F t l xs)(hi:i<l.length):aN P w F R (enc t (l.getD i t.dflt)) (λj u=>xs[i*t.size+j]?= U u):=by
 have:=h i (l.getD i t.dflt) (by simp[uaq hi]);exact aA.enc t _ this
def Vk{t:Ty}{l:List t.den}(h:aA w F (.sl t) l (λ_ u=>u=v))(hi:i<l.length):
  ∃ ad c,v=.slice (U ad) l.length c/\F ad.block/\aN P w F R (enc t (l.getD i t.dflt)) (λj u=>w.cell? ((ad.add (i*t.size)).add j)=U u):=by
 obtain⟨A,c,m,O,Q,q⟩:=h;have N:l[i]?= U (l.getD i t.dflt):=by simp[uaq hi]
 obtain⟨ad,rfl,H,C⟩:=q i _ N;exact⟨ad,c,m.symm,H,(aA.enc t _ C).turn λj u _ h=>by rw[m9];exact h⟩
def NI{id:Nat}{t:Ty}{l:List t.den}(hm:MemOK P B w F γ M)(S:M id=U (.arr ety t l))(W:ety<cj)(hi:i<l.length):
  ∃ b c arr,γ id=.slice (U ⟨b,0,V⟩) l.length c/\w.heap[b]?= U (.cells arr ety (0,0))/\¬ F b/\B<=b/\(i+1)*t.size<=arr.size /\
   aN P w F (ap M γ) (enc t (l.getD i t.dflt)) (λj u=>arr[i*t.size+j]?= U u):=by
 obtain⟨xs,N,O,Q,h4⟩:=gg.of (hm.ob id _ S) W;obtain⟨hl,hn|⟨b,q,cur,H,hb,hh,hnc,_,C,ht⟩⟩:=N;omega;refine⟨b,q,cur,H,hh,O b (by rw[H];rfl),hb,?_,(qx2 Q hi).turn λj u hj m=>?_⟩;rw[C];exact ubd _ (by omega);rw[<- ht,ub1]at m;split at m;simpa using m;cases m
def Cu:{cs:List AC} -> {i:List Int}->oU k cs=U i->cs=i.map (.int k)
 |[],i,h=>by simp[oU]at h;subst h;rfl
 |c::r,i,h=>by
  unfold oU at h;split at h
  simp_all
  rename_i t n u m;cases m;split at h;rename_i q;subst q;cases j:oU k r with
  |none=>rw[j]at h;simp at h
  |some ms=>
   rw[j]at h;simp at h;subst h;rw[Cu j];rfl
  cases h;cases h
def Qz{i:Int}{p:Int×Nat}:{cs:List AC} -> {k:Int}->(ji k cs).find? (λx=>x.1==i)=U p->k<=i/\cs[(i-k).toNat]?= U (.fn p.2 [])
 |[],_,h=>by simp[ji]at h
 |c::r,k,h=>by
  have j:(ji (k+1) r).find? (λx=>x.1==i)=U p->k<=i/\(c::r)[(i-k).toNat]?= U (.fn p.2 []):=λm=>by
   obtain⟨F,u⟩:=Qz m;refine⟨by omega,?_⟩;rw[show(i-k).toNat=(i-(k+1)).toNat+1 by omega];simpa using u
  by_cases hc:∃ f,c=.fn f [];obtain⟨f,rfl⟩:=hc;have m:((k,f)::ji (k+1) r).find? (λx=>x.1==i)=U p:=h;rw[List.find?_cons]at m;split at m;rename_i C;have t:k=i:=by simpa using C
  cases m;rw[t];exact⟨ue7 _,by simp⟩;exact j m;have w:ji k (c::r)=ji (k+1) r:=by
   cases c with
   |fn f q=>cases q with
    |nil=>exact absurd ⟨f,rfl⟩ hc
    |cons _ _=>rfl
   |_=>rfl
  rw[w]at h;exact j h
def Kf{cs cs':List AC}{i:Int}{Q:List Prop}(h:xl.pickI cs n i=U (cs',Q))(hn:av Q)(O:aN P w F R cs (λj u=>w.cell? (ad.add j)=U u))(h0:0<=i)(h1:i<n):
  aN P w F R cs' (λj u=>w.cell? ((ad.add i.toNat).add j)=U u):=by
 unfold xl.pickI at h;split at h;rename_i k bf hk m;split at h;rename_i S t;obtain⟨rfl,_⟩:=h;obtain⟨H,hc⟩:=uc m O;have he:=Cu t;subst he;have hi:i.toNat<S.length:=by simp at H;omega
 obtain⟨u,e1,e2,q⟩:=hc.at_ (j:=i.toNat) (c:=.int k (S.getD i.toNat 0)) (by simp[uaq hi]);exact⟨⟨u,by show w.cell? ((ad.add i.toNat).add 0)=U u;rw[m9];simpa using e1,e2,q⟩,uT⟩;cases h;rename_i bf hk m;split at h<;>try trivial
 cases h;obtain⟨p,N⟩:=uar.1 hn;obtain⟨H,hc⟩:=uc m O;obtain⟨h2,C⟩:=Qz N;rw[ueo]at C;obtain⟨u,e1,e2,vs,q,W,_⟩:=hc.at_ C;have e5:=Array.size_eq_zero_iff.mp W;subst e5;refine⟨⟨u,by show w.cell? ((ad.add i.toNat).add 0)=U u;rw[m9];simpa using e1,e2,?_⟩,uT⟩;show u=ie ((ji 0 bf).find? (λx=>x.1==i));rw[N,q];rfl;cases h
def OC{x:AV}{cs:List AC}{n:List Prop}(S:MemOK P B w F γ M)(C:∀ i y,m i=U y->M i=U y)(h:xl m x=U (cs,n))(W:av n)(hr:aE P w F (ap M γ) x v):
  ∃ ad,v=.pointer (U ad)/\aN P w F (ap M γ) cs (λj u=>w.cell? (ad.add j)=U u):=by
 unfold xl at h;split at h;rename_i id off;split at h;rename_i e cs' q;cases h;obtain⟨b,arr,_,H,hh,_,_,_,hc⟩:=lw S (C _ _ q) hr.2;exact⟨_,H,(hc.drop_ off).turn λj u _ O=>by rw[i8,tG hh];exact O⟩;rename_i cs' q;cases h;obtain⟨b,H,_,hc⟩:=HH S (C _ _ q) hr.2;exact⟨_,H,(hc.drop_ off).turn λj u _ O=>by rw[i8];exact O⟩;cases h;rename_i cs';cases h;obtain⟨_,ad,H,_,hc⟩:=hr;exact⟨ad,H,hc⟩;rename_i id sz i off;obtain⟨A,n0,c0,N,h4⟩:=hr;split at h;rename_i e t l q;split at h;rename_i Q;cases h;obtain⟨b,c,arr,e1,e2,_,_,_,e6⟩:=NI S (C _ _ q) Q.1 W;unfold ap at N;rw[C _ _ q]at N;simp only[e1,uck]at N;obtain⟨rfl,_,_⟩:=N;refine⟨_,h4,(e6.drop_ off).turn λj u _ O=>?_⟩;rw[m9,i8,tG e2,<- O,<- Q.2];congr 1;omega;cases h;rename_i t l q;split at h;rename_i Q;cases h;have hob:=S.ob id _ (C _ _ q);obtain⟨ad,c,e1,e2,e3⟩:=Vk hob W;unfold ap at N;rw[C _ _ q]at N;simp only[e1,uck]at N;obtain⟨rfl,_,_⟩:=N;refine⟨_,h4,(e3.drop_ off).turn λj u _ O=>?_⟩;rw[m9]at O |-;rw[<- O,<- Q];congr 2;omega;cases h;cases h;rename_i base k i;obtain⟨ad,h1,h2,N,rfl⟩:=hr;refine⟨_,rfl,?_⟩;split at h;rename_i id off;split at h;rename_i e cs' q;obtain⟨b,arr,_,H,hh,_,_,_,hc⟩:=lw S (C _ _ q) h1;simp at H;subst H;exact Kf h W ((hc.drop_ off).turn λj u _ O=>by rw[i8,tG hh];exact O) h2 N;rename_i cs' q;obtain⟨b,H,_,hc⟩:=HH S (C _ _ q) h1;simp at H;subst H;exact Kf h W ((hc.drop_ off).turn λj u _ O=>by rw[i8];exact O) h2 N;cases h;rename_i cs';obtain⟨ad',H,_,hc⟩:=h1;simp at H;subst H;exact Kf h W hc h2 N;cases h;cases h
def yT{d:TypeDesc}(h:P.underlying t=U d):(isAgg t).run P w=.ok (cV P t) w:=by
 unfold isAgg cV;rw[uep,ud2 h];cases d<;>simp[h]
def gw{i:TypeInfo}(h:P.info? t=U i):(sizeOf t).run P w=.ok (P.cellsOf t) w:=by
 simp[sizeOf,typeInfo,h,Program.cellsOf]
def S2{x:AV}{e:Eff}(hm:MemOK P B w F γ M)(q:∀ i y,m i=U y->M i=U y)(h:CE P t x m=U e)(hn:av e.need)(hr:aE P w F (ap M γ) x v):
  e.wr=[]/\∃ u,(Instr.loadAt t v).run P w=.ok u w/\aE P w F (ap M γ) e.v u:=by
 unfold CE at h;split at h;rename_i cs n C;split at h;rename_i hi;obtain⟨i,N⟩:=uar.1 hi.1;obtain⟨d,W⟩:=uar.1 hi.2;split at h;rename_i hw;split at h;rename_i l hl;cases h;obtain⟨ad,rfl,hc⟩:=OC hm q C hn hr;obtain⟨e1,e2⟩:=uc hl hc;obtain⟨us,S,f2,f3,_⟩:=e2.vals;refine⟨rfl,.agg us.toArray,?_,us.toArray,rfl,by simpa using S,by simpa using f3⟩;have O:=run_loadCells_list (P:=P) w ad us (λj u hu=>by have:=f2 j u hu;simpa using this);simp[Instr.loadAt,Instr.sureAddr,loadVar,yT W,hw,gw N,<- e1,<- S,O];cases h;rename_i hw;split at h;rename_i a r;cases h;obtain⟨ad,rfl,⟨u,e1,e2,e3⟩,_⟩:=OC hm q C hn hr;refine⟨rfl,u,?_,e2,e3⟩;have H:w.cell? ad=U u:=by simpa[Addr.add]using e1
 have Q:cV P t=false:=by simpa using hw
 simp[Instr.loadAt,Instr.sureAddr,loadVar,yT W,Q,Sem.run,H];cases h;cases h;cases h
end
def gd(k:IntKind)(n:Int):inR k (k.wrap n):=by
 unfold inR IntKind.wrap IntKind.min IntKind.max;cases k<;>simp[IntKind.signed,IntKind.bits]<;>first|omega|(split<;>omega)
def zF(k:IntKind):k.min<=0/\0<=k.max:=by cases k<;>simp[IntKind.min,IntKind.max,IntKind.signed,IntKind.bits]
def zby(k:IntKind){b:Int}(j:inR k a):inR k (a.tmod b):=by
 have hz:=zF k;have m:(a.tmod b).natAbs<=a.natAbs:=by rw[Int.natAbs_tmod];exact Nat.mod_le _ _
 unfold inR at *;rcases Int.le_total 0 a with h|h
 have i:=Int.tmod_nonneg b h;omega;have i:0<=(-a).tmod b:=Int.tmod_nonneg b (by omega);rw[Int.neg_tmod]at i;omega
def qhd(k:IntKind)(n:Nat)(q:inR k a):inR k (a.fdiv (2 ^ n)):=by
 have hz:=zF k;have i:(0:Int)<2 ^ n:=Int.pow_pos (by omega);rw[uag _ (by omega)];unfold inR at *;rcases Int.le_total 0 a with h|h
 have j:=udh h (ueq i);have m:=Int.ediv_le_self (2 ^ n) h;omega;have j:=Int.ediv_nonpos_of_nonpos_of_neg h (by omega);have m:a<=a/2 ^ n:=by
  refine Int.le_ediv_of_mul_le i ?_;have:=Int.mul_le_mul_of_nonpos_left (b:=2 ^ n) (c:=1) h (by omega);omega
 omega
section
variable {P:Program} {B:Nat} {o:Oper} {a:Act} {w w':World} {F F':Nat->Prop} {γ γ':Nat->Value} {M m:aT} {R:Nat->Value->Prop}
def vP{i:TypeInfo}{d:TypeDesc}(m:P.underlying t=U d)(hi:P.info? t=U i)(j:off+(if cV P t then P.cellsOf t else 1)<=cs.size):
  (part t cs off).run P w=.ok (if cV P t then .agg (cs.extract off (off+P.cellsOf t))else cs.getD off undef) w:=by
 unfold part;rw[uep,yT m];cases hw:cV P t;simp only[hw]at j;have:off<cs.size:=by simp at j;omega
 simp[this];simp[gw hi]
def y9{xs l:List AC}(m:n=if cV P t then P.cellsOf t else 1)(O:cs.size=xs.length)(q:aN P w F R xs (λj u=>cs[j]?= U u))(h:ig xs off n=U l):
  off+n<=cs.size/\∃ us:List Value,us.length=l.length/\aN P w F R l (λj u=>us[j]?= U u)/\(if cV P t then .agg (cs.extract off (off+P.cellsOf t))else cs.getD off undef)=(if cV P t then .agg us.toArray else us.headD undef)/\l.length=n:=by
 have i:off+n<=xs.length:=by
  unfold ig at h;split at h;assumption;cases h
 obtain⟨e1,e2⟩:=uc h q;refine⟨by omega,(cs.toList.drop off).take n,by rw[uc3,uc4,e1,ubt];omega,e2.turn λj u N C=>?_,?_,e1⟩;have:j<n:=by omega
 rw[ub1,if_pos this,ub0];simpa using C;subst m;split;congr 1;rw[<- uc5];simp[List.extract];rename_i hw;have H:off+1<=xs.length:=by simpa[hw]using i
 have:off<cs.size:=by omega
 simp[Array.getD,this];rw[ual (by simpa using this)];simp
def tQ(d:Nat)(e:TypeId)(n:Nat)(xs j:Array Value):List Nat->Sem Bool
 |[]=>pure Z
 |i::r=>do
  let a <- part e xs (i*n)
  let b <- part e j (i*n)
  let q <- Op.equalIn d e a b
  if (!q)=Z then pure Y else tQ d e n xs j r
def qx7(d:Nat)(t e:TypeId)(len:Nat){O:TypeInfo}(xs j:Array Value)(u:P.underlying t=U (.array len e))(hi:P.info? e=U O):
  (Op.equalIn (d+1) t (.agg xs) (.agg j)).run P w=(tQ d e (P.cellsOf e) xs j (List.range len)).run P w:=by
 simp only[Op.equalIn,uep,ud2 u,ucl,gw hi];rw[Std.Legacy.Range.forIn_eq_forIn_range'];have:List.range' 0 len 1=List.range len:=ubl.symm;simp;rw[this];generalize List.range len=l
 induction l generalizing w with
 |nil=>simp[tQ]
 |cons i l C=>
  simp only[List.forIn_cons,tQ,uep];generalize (part e xs (i*P.cellsOf e)).run P w=F;cases F with
  |ok a m=>
   simp only[ucl];generalize (part e j (i*P.cellsOf e)).run P m=H;cases H with
   |ok b q=>
    simp only[ucl];generalize (Op.equalIn d e a b).run P q=N;cases N with
    |ok r Q=>
     cases r;simp;simp only[ucl,Bool.not_true,ufn,uer];exact C
    |halt x Q=>simp
   |halt x q=>simp
  |halt x m=>simp
def KE:(n:Nat) -> {t:TypeId} -> {xs ys:List AC} -> {r:Bool}->tR P n t xs ys=U r->(d:Nat)->n<=d->(us vs:List Value)->us.length=xs.length->vs.length=ys.length ->
  aN P w F R xs (λj u=>us[j]?= U u)->aN P w F R ys (λj u=>vs[j]?= U u) ->
  (Op.equalIn d t (if cV P t then .agg us.toArray else us.headD undef) (if cV P t then .agg vs.toArray else vs.headD undef)).run P w=.ok r w
 |0,t,xs,ys,r,h,d,hd,us,vs,hu,hv,hx,hy=>by simp[tR]at h
 |n+1,t,xs,ys,r,h,d,hd,us,vs,hu,hv,hx,hy=>by
  obtain⟨d,rfl⟩:∃ d',d=d'+1:=⟨d-1,by omega⟩;unfold tR at h;split at h;rename_i C;split at h;rename_i a b;cases h;obtain⟨⟨u,e1,_,rfl⟩,_⟩:=hx;obtain⟨⟨v,f1,_,rfl⟩,_⟩:=hy;have hw:cV P t=false:=by simp[cV,C]
  have e2:us.headD undef=.bool a:=by cases us<;>simp_all
  have f2:vs.headD undef=.bool b:=by cases vs<;>simp_all
  simp only[hw,e2,f2];exact ucm w d t a b C;cases h;rename_i k0 C;split at h;rename_i k a k' b;split at h;rename_i hk;cases h;obtain⟨⟨u,e1,_,rfl,_⟩,_⟩:=hx;obtain⟨⟨v,f1,_,rfl,_⟩,_⟩:=hy;have hw:cV P t=false:=by simp[cV,C]
  have e2:us.headD undef=.int k a:=by cases us<;>simp_all
  have f2:vs.headD undef=.int k b:=by cases vs<;>simp_all
  simp only[hw,e2,f2];exact run_equalIn_int w d t k k0 a b C;cases h;cases h;rename_i fs C;split at h;cases h;rename_i hst;have hw:cV P t=true:=by simp[cV,C]
  simp only[hw,if_true];have hfo:P.fieldsOf t=fs:=by simp[Program.fieldsOf,C]
  rw[run_equalIn_struct w d t us.toArray vs.toArray (by rw[hfo];exact C) (by simpa using hst),hfo];generalize fs.toList=l at h
  induction l generalizing r with
  |nil=>
   simp at h;subst h;simp[Op.eqFields]
  |cons f l ih=>
   simp at h;split at h;rename_i hf;simp only[Op.eqFields,hf];simpa using ih _ h;rename_i hf;split at h;rename_i hi;obtain⟨di,H⟩:=uar.1 hi.1;obtain⟨ti,m⟩:=uar.1 hi.2;split at h;rename_i x y O Q;split at h;rename_i p q hp hq;cases h;obtain⟨b1,S,b2,b3,b4,b5⟩:=y9 (cs:=us.toArray) rfl (by simpa using hu) (by simpa using hx) O;obtain⟨c1,W,c2,c3,c4,c5⟩:=y9 (cs:=vs.toArray) rfl (by simpa using hv) (by simpa using hy) Q;have N:=KE n hp d (by omega) S W b2 c2 b3 c3;simp only[Op.eqFields,if_pos hf,uep,vP H m b1,vP H m c1,ucl,b4,c4,N];cases p;simp;simpa using ih _ hq;cases h;cases h;cases h
  rename_i len e C;split at h;rename_i hi;obtain⟨di,H⟩:=uar.1 hi.1;obtain⟨ti,m⟩:=uar.1 hi.2;have hw:cV P t=true:=by simp[cV,C]
  simp only[hw,if_true];rw[qx7 d t e len us.toArray vs.toArray C m];generalize List.range len=l at h
  induction l generalizing r with
  |nil=>
   simp at h;subst h;simp[tQ]
  |cons i l ih=>
   simp at h;split at h;rename_i x y O Q;split at h;rename_i p q hp hq;cases h;obtain⟨b1,S,b2,b3,b4,b5⟩:=y9 (cs:=us.toArray) rfl (by simpa using hu) (by simpa using hx) O;obtain⟨c1,W,c2,c3,c4,c5⟩:=y9 (cs:=vs.toArray) rfl (by simpa using hv) (by simpa using hy) Q;have N:=KE n hp d (by omega) S W b2 c2 b3 c3;simp only[tQ,uep,vP H m b1,vP H m c1,ucl,b4,c4,N];cases p;simp;simpa using ih _ hq;cases h;cases h
  cases h;cases h
def qdx{i:BinOp}{r:Bool}(h:Hd i x y=U r)(t:TypeId)(X j:Operand):
  (do eqGuard i t X j (.int k x) (.int k y);binOp i t (.int k x) (.int k y):Sem Value).run P w=.ok (.bool r) w:=by
 unfold Hd at h;split at h<;>simp at h<;>subst h<;>simp[ud3,binOp,Op.intCmp]
def qbm{C:BinOp}{x y:AV}{S:Value}{c:AC}{n:List Prop}(h:F6 P C t x y=U (c,n))(i:av n)(O:aE P w F R x vx)(Q:aE P w F R y S)(X Y:Operand):
  ∃ u,(do eqGuard C t X Y vx S;binOp C t vx S:Sem Value).run P w=.ok u w/\u.oneCell'=Z/\bc P w F R c u:=by
 unfold F6 at h;split at h;rename_i k a k' b;obtain⟨_,rfl,W⟩:=O;obtain⟨_,rfl,hb⟩:=Q;split at h;rename_i q;have key:∀ j,j=C->(j ≠ .shl/\j ≠ .shr)->k=k':=by
  rintro j rfl ⟨h1,h2⟩;rcases q with q|q
  exact q;cases j<;>simp_all[RS]
 unfold NU at h;split at h;obtain rfl:=key _ rfl (by simp);cases h;exact⟨_,by simp[ud3,binOp,Op.intArith],rfl,rfl,gd _ _⟩;obtain rfl:=key _ rfl (by simp);cases h;exact⟨_,by simp[ud3,binOp,Op.intArith],rfl,rfl,gd _ _⟩;obtain rfl:=key _ rfl (by simp);cases h;exact⟨_,by simp[ud3,binOp,Op.intArith],rfl,rfl,gd _ _⟩;obtain rfl:=key _ rfl (by simp);cases h;exact⟨_,by have i:=i;simp only[av]at i;simp[ud3,binOp,Op.intDiv,i],rfl,rfl,gd _ _⟩;obtain rfl:=key _ rfl (by simp);cases h;exact⟨_,by have i:=i;simp only[av]at i;simp[ud3,binOp,Op.intDiv,i],rfl,rfl,zby _ W⟩;obtain rfl:=key _ rfl (by simp);cases h;exact⟨_,by simp[ud3,binOp,Op.intBits],rfl,rfl,gd _ _⟩;obtain rfl:=key _ rfl (by simp);cases h;exact⟨_,by simp[ud3,binOp,Op.intBits],rfl,rfl,gd _ _⟩;obtain rfl:=key _ rfl (by simp);cases h;exact⟨_,by simp[ud3,binOp,Op.intBits],rfl,rfl,gd _ _⟩;obtain rfl:=key _ rfl (by simp);cases h;exact⟨_,by simp[ud3,binOp,Op.intBits],rfl,rfl,gd _ _⟩;cases h;exact⟨_,by have i:=i;simp only[av]at i;simp[ud3,binOp,Op.shift,i],rfl,rfl,gd _ _⟩;cases h;exact⟨_,by have i:=i;simp only[av]at i;simp[ud3,binOp,Op.shift,i],rfl,rfl,qhd _ _ W⟩;obtain rfl:=key _ rfl ⟨by assumption,by assumption⟩;split at h;rename_i r H;cases h;exact⟨_,qdx H t X Y,rfl,rfl⟩;cases h;cases h;rename_i a b;obtain⟨_,rfl⟩:=O;obtain⟨_,rfl⟩:=Q;split at h;split at h;rename_i N;simp only at h;obtain⟨rfl,rfl⟩:=h;have m:P.underlying t=U .bool:=by revert N;cases P.underlying t with
  |none=>simp
  |some d=>cases d<;>simp
 exact⟨_,by simp[eqGuard_at_bool,binOp,Op.equal,Op.maxDepth,ucm w 9999 t a b m],rfl,rfl⟩;cases h;split at h;rename_i N;simp only at h;obtain⟨rfl,rfl⟩:=h;have m:P.underlying t=U .bool:=by revert N;cases P.underlying t with
  |none=>simp
  |some d=>cases d<;>simp
 exact⟨_,by simp[eqGuard_at_bool,binOp,Op.equal,Op.maxDepth,ucm w 9999 t a b m],rfl,rfl⟩;cases h;cases h;rename_i xs ys;obtain⟨us,rfl,e1,e2⟩:=O;obtain⟨vs,rfl,f1,f2⟩:=Q;split at h;rename_i hg;split at h;rename_i r H;have hq:=KE 20 H 10000 (by omega) us.toList vs.toList (by simpa using e1) (by simpa using f1) (by simpa using e2) (by simpa using f2);simp only[hg.2,if_true]at hq;split at h;cases h;exact⟨_,by simp[run_eqGuard_agg w _ t X Y us vs hg.1,run_eql_struct,hq],rfl,rfl⟩;cases h;exact⟨_,by simp[run_eqGuard_agg w _ t X Y us vs hg.1,run_neq_struct,hq],rfl,rfl⟩;cases h;cases h;cases h;cases h
end
section
variable {P:Program} {B:Nat} {o:Oper} {a:Act} {w w':World} {F F':Nat->Prop} {γ γ':Nat->Value} {M m:aT} {R:Nat->Value->Prop}
def N7(v:Value):bc P w F R (wF v) v:=by
 unfold wF;split;split;rename_i h;exact⟨rfl,h⟩;trivial;rfl;split;rename_i h;exact⟨rfl,h⟩;trivial;rfl;trivial
def qab(vs:List Value)(h:∀ v∈vs,v.oneCell'=Z):aN P w F R (vs.map wF) (λj u=>vs[j]?= U u):=
 ki _ λj c hc=>by
  rw[ucn]at hc;cases i:vs[j]? with
  |none=>rw[i]at hc;simp at hc
  |some v=>
   rw[i]at hc;simp at hc;subst hc;exact⟨v,rfl,h v (ubf i),N7 v⟩
def tf(v:Value):aE P w F R (lu v) v:=by
 unfold lu;split;rename_i cs;split;rename_i h;refine⟨cs,rfl,by simp,?_⟩;have:=qab (P:=P) (w:=w) (F:=F) (R:=R) cs.toList (λv m=>uc6.1 h v m);simpa using this;trivial;trivial;rename_i i j;refine⟨?_,N7 v⟩;cases v<;>first|rfl|(exact absurd rfl (i _))|(exact absurd rfl (j _))
def o6{x:AV}{cs:List AC}(h:lz x=U cs)(i:aE P w F R x v):v.cells.size=cs.length/\aN P w F R cs (λj u=>v.cells[j]?= U u)/\(∀ u∈v.cells,u.oneCell'=Z):=by
 unfold lz at h;split at h;cases h;have N:v.cells = #[v]:=by
  have:=i.1;cases v<;>first|rfl|simp[Value.oneCell']at this
 rw[N];exact⟨rfl,⟨⟨v,rfl,i.1,i.2⟩,uT⟩,by simpa using i.1⟩;cases h;obtain⟨arr,rfl,C,q⟩:=i;refine⟨C,q,λu H=>?_⟩;obtain⟨us,e1,e2,O,t⟩:=q.vals;have:us=arr.toList:=by
  apply List.ext_getElem?;intro j;rcases uem j us.length with m|m
  have:=e2 j us[j] (uaq m);rw[uaq m,<- this];simp;rw[ua4 m,ua4 (by simp;omega)]
 subst this;exact t u (ubg.2 H);cases h
def Ij(vs:List Value)(off:Nat):∀ (k:Nat) (cs:Array Value),
  ((vs.zipIdx k).foldl (λcs (x:Value×Nat)=>cs.setIfInBounds (off+x.2) x.1) cs).size=cs.size /\
  ∀ j,((vs.zipIdx k).foldl (λcs (x:Value×Nat)=>cs.setIfInBounds (off+x.2) x.1) cs)[j]?= if off+k<=j/\j<off+k+vs.length/\j<cs.size then vs[j-(off+k)]? else cs[j]? := by
 induction vs with
 |nil=>
  intro k cs;refine⟨rfl,λj=>?_⟩;simp only[List.zipIdx_nil,List.foldl_nil,udi];rw[if_neg (by omega)]
 |cons v vs t=>
  intro k cs;obtain⟨e1,e2⟩:=t (k+1) (cs.setIfInBounds (off+k) v);simp;refine⟨by rw[e1];simp,λj=>?_⟩;rw[e2];simp;by_cases i:off+(k+1)<=j/\j<off+(k+1)+vs.length/\j<cs.size;rw[if_pos i,if_pos (by omega)];rw[show j-(off+k)=(j-(off+(k+1)))+1 from by omega,List.getElem?_cons_succ];rw[if_neg i];by_cases q:j=off+k;subst q;by_cases m:off+k<cs.size;rw[if_pos (by omega)];simp[m];rw[if_neg (by omega)];simp[m];rw[uaa (by omega),if_neg (by omega)]
def Dt{cs cs' new:List AC}{g':Nat->Value->Prop}(h:nw cs off new=U cs')(hc:aN P w F R cs g)(C:aN P w F R new (λj u=>g' (off+j) u))(t:∀ j u,(j<off\/off+new.length<=j)->g j u->g' j u):cs'.length=cs.length/\aN P w F R cs' g':=by
 unfold nw at h;split at h;rename_i H;cases h;refine⟨by simp;omega,ki _ λj c i=>?_⟩;rcases uem j off with m|m
 rw[uaj (by simp;omega),uaj (by simp;omega),ub1,if_pos m]at i;obtain⟨u,e1,e2⟩:=hc.at_ i;exact⟨u,t j u (.inl m) e1,e2⟩;rcases uem j (off+new.length)with q|q
 rw[uaj (by simp;omega),uae (by simp;omega)]at i;simp at i;rw[show j-min off cs.length=j-off from by omega]at i;obtain⟨u,e1,e2⟩:=C.at_ i;rw[show off+(j-off)=j from by omega]at e1;exact⟨u,e1,e2⟩;rw[uae (by simp;omega),ub0]at i;rw[show off+new.length+(j-(cs.take off++new).length)=j from by simp;omega]at i;obtain⟨u,e1,e2⟩:=hc.at_ i;exact⟨u,t j u (.inr q) e1,e2⟩;cases h
def Qs{pl:Nat->Option (Nat×Nat)}:{q:List (Nat×AV)} -> {ps:List (Nat×Value)} -> {cs cs':List AC} -> {arr:Array Value}->xA pl cs q=U cs'->ps.length=q.length ->
  (∀ (k i:Nat) (x:AV) (v:Nat×Value),q[k]?= U (i,x)->ps[k]?= U v->v.1=i/\aE P w F R x v.2)->arr.size=cs.length->aN P w F R cs (λj u=>arr[j]?= U u) ->
  ∃ m,Instr.fill pl arr ps=U m/\m.size=cs'.length/\aN P w F R cs' (λj u=>m[j]?= U u)
 |[],[],cs,cs',arr,h,_,_,O,hc=>by
  simp only[xA,uck]at h;subst h;exact⟨arr,rfl,O,hc⟩
 |(i,x)::r,(i',v)::ps,cs,cs',arr,h,C,W,O,hc=>by
  obtain⟨rfl,hv⟩:=W 0 i x (i',v) rfl rfl;simp only at hv;simp only[xA]at h;split at h;rename_i off n new N H;split at h;rename_i hn;split at h;rename_i cs1 t;obtain⟨e1,e2,_⟩:=o6 H hv;have hb:off+new.length<=cs.length:=by
   unfold nw at t;split at t;assumption;cases t
  obtain⟨f1,S⟩:=Ij v.cells.toList off 0 arr;have hz:v.cells.zipIdx.foldl (λcs (x:Value×Nat)=>cs.setIfInBounds (off+x.2) x.1) arr=(v.cells.toList.zipIdx 0).foldl (λcs (x:Value×Nat)=>cs.setIfInBounds (off+x.2) x.1) arr:=by
   rw[<- Array.foldl_toList,Array.toList_zipIdx]
  obtain⟨g1,g2⟩:=Dt (g':=λj u=>((v.cells.toList.zipIdx 0).foldl (λcs (x:Value×Nat)=>cs.setIfInBounds (off+x.2) x.1) arr)[j]?= U u) t hc
   (e2.turn λj u hj Q=>by
    simp only[S];rw[if_pos (by simp;omega)];simpa using Q)
   (λj u hj Q=>by
    simp only[S];rw[if_neg (by simp;omega)];exact Q)
  obtain⟨m,k1,k2,k3⟩:=Qs h (by simpa using C) (λk i x v h1 h2=>W (k+1) i x v (by simpa using h1) (by simpa using h2)) (by rw[f1,O,g1]) g2;refine⟨m,?_,k2,k3⟩;simp only[Instr.fill,N];rw[if_neg (by simp;omega)];rw[<- k1];congr 1;cases h;cases h;cases h
 |[],_::_,_,_,_,_,C,_,_,_=>by simp at C
 |_::_,[],_,_,_,_,C,_,_,_=>by simp at C
def qx9(fs:List Field)(h:∀ f∈fs,(P.info? f.type).isSome=Z):
  (fs.mapM (m:=Sem) λf=>(do pure (f.offset,<- sizeOf f.type):Sem (Nat×Nat))).run P w=.ok (fs.map λf=>(f.offset,P.cellsOf f.type)) w:=by
 induction fs with
 |nil=>simp
 |cons f fs q=>
  obtain⟨i,hi⟩:=uar.1 (h f (by simp));rw[List.mapM_cons];have j:=q (λg hg=>h g (by simp[hg]));rw[uep,uep,gw hi];simp only[ucl,uer];rw[uep,j];simp
def qbq{m:List (Nat×AV)}{ps:Array (Nat×Value)}{x:AV}(h:FS P t m=U x)(hl:ps.size=m.length)(hp:∀ (k i:Nat) (x:AV) (v:Nat×Value),m[k]?= U (i,x)->ps[k]?= U v->v.1=i/\aE P w F R x v.2):
  ∃ u,(Instr.build t ps).run P w=.ok u w/\aE P w F R x u:=by
 unfold FS at h;split at h;rename_i z pl hz j;split at h;rename_i cs Q;split at h;rename_i cs' C;cases h;cases hi:P.info? t with
 |none=>simp[hi]at hz
 |some ti=>
  simp only[hi,uc8]at hz;have hzr:=tf (P:=P) (w:=w) (F:=F) (R:=R) z;obtain⟨e1,e2,_⟩:=o6 Q hzr;have O:(zeroValue t).run P w=.ok z w:=by simp[zeroValue,typeInfo,hi,hz]
  obtain⟨q,k1,k2,k3⟩:=Qs (ps:=ps.toList) C (by simpa using hl) (λk i x v h1 h2=>hp k i x v h1 (by simpa using h2)) e1 e2;refine⟨.agg q,?_,q,rfl,k2,k3⟩;unfold Uc at j;split at j;rename_i fs H;split at j;rename_i N;cases j;have hm:=qx9 (w:=w) fs.toList (λf hf=>uc6.1 N f hf);have hm':(fs.mapM λ(f:Field)=>(do pure (f.offset,<- sizeOf f.type):Sem (Nat×Nat))).run P w=.ok (fs.map λ(f:Field)=>(f.offset,P.cellsOf f.type)) w:=by
   rw[Array.mapM_eq_mapM_toList];rw[Sem.run_map,hm];simp only[ucl];congr 1;rw[<- uc5];simp
  have:(λ(i:Nat)=>(fs.map λ(f:Field)=>(f.offset,P.cellsOf f.type))[i]?)=(λi=>(fs[i]?).map λf=>(f.offset,P.cellsOf f.type)):=by
   simp
  simp only[Instr.build,uep,O,ucl,ud2 H];rw[hm'];simp only[ucl,this,k1];rfl;cases j;rename_i len e H;split at j;rename_i W;obtain⟨ei,S⟩:=uar.1 W;cases j;simp[Instr.build,O,ud2 H,gw S,k1];cases j;cases j
 cases h;cases h;cases h
end
section
variable {P:Program} {B:Nat} {o:Oper} {a:Act} {w w':World} {F F':Nat->Prop} {γ γ':Nat->Value} {M m:aT} {R:Nat->Value->Prop}
def Qp{s:TypeId}{f:Nat}{i:Field}(h:tW P s f=U i):∃ fs,P.underlying s=U (.struct fs)/\fs[f]?= U i:=by
 unfold tW at h;split at h;exact⟨_,by assumption,h⟩;cases h
def qx8{j:Field}{i:TypeInfo}(hi:P.info? j.type=U i)(m:P.cellsOf j.type≠0):(fieldPlace ad j).run P w=.ok (ad.add j.offset) w:=by
 simp[fieldPlace,gw hi,m]
def KF{s:TypeId}{f:Nat}{j:Field}(h:tW P s f=U j)(hi:(P.info? j.type).isSome=Z)(u:P.cellsOf j.type≠0):
  (Instr.fieldAt s (.pointer (U ad)) f).run P w=.ok (.pointer (U (ad.add j.offset))) w:=by
 obtain⟨fs,q,t⟩:=Qp h;obtain⟨i,m⟩:=uar.1 hi;simp[Instr.fieldAt,ud2 q,t,Instr.sureAddr,qx8 m u]
def qp(ad:Addr)(n:Nat):(ad.add n).block=ad.block:=by unfold Addr.add;split<;>rfl
def qkn{s:TypeId}{f:Nat}{x y:AV}(h:Ie P s x f=U y)(t:aE P w F R x v):
  ∃ u,(Instr.fieldAt s v f).run P w=.ok u w/\aE P w F R y u:=by
 unfold Ie at h;split at h;rename_i O q;split at h;rename_i hc;split at h<;>try trivial
 rename_i id off;cases h;obtain⟨_,b,m,rfl⟩:=t;exact⟨_,KF q hc.1 hc.2,rfl,b,m,by rw[i8]⟩;rename_i cs;cases h;obtain⟨_,ad,rfl,C,H⟩:=t;exact⟨_,KF q hc.1 hc.2,rfl,_,rfl,by rw[qp];exact C,(H.drop_ _).turn λj u _ N=>by rw[m9];exact N⟩;rename_i id sz i off;cases h;obtain⟨A,n,c,m,rfl⟩:=t;exact⟨_,KF q hc.1 hc.2,A,n,c,m,by rw[m9,uee]⟩;cases h;cases h
def quf{wide:Bool}{cs:List AC}{x:AV}{us:List Value}(h:CL wide cs=U x)(q:us.length=cs.length)(i:aN P w F R cs (λj u=>us[j]?= U u)):
  aE P w F R x (if wide then .agg us.toArray else us.headD undef):=by
 unfold CL at h;cases wide;simp only[ub2,ufn]at h |-;split at h;rename_i c;cases h;obtain⟨⟨u,e1,e2,m⟩,_⟩:=i;have:us.headD undef=u:=by cases us<;>simp_all
 rw[this];exact⟨e2,m⟩;cases h;simp at h |-;subst h;exact⟨us.toArray,rfl,by simpa using q,by simpa using i⟩
def qko{s:TypeId}{f:Nat}{j:Field}{cs l:List AC}{x:AV}(N:tW P s f=U j)(hi:(P.info? j.type).isSome=Z/\(P.underlying j.type).isSome=Z)(hg:ig cs j.offset (if cV P j.type then P.cellsOf j.type else 1)=U l)(Q:CL (cV P j.type) l=U x)(O:aE P w F R (.agg cs) v):
  ∃ u,(Instr.field s v f).run P w=.ok u w/\aE P w F R x u:=by
 obtain⟨fs,C,H⟩:=Qp N;obtain⟨i,m⟩:=uar.1 hi.1;obtain⟨d,q⟩:=uar.1 hi.2;obtain⟨arr,rfl,e1,e2⟩:=O;obtain⟨b1,us,b2,b3,t,_⟩:=y9 rfl e1 e2 hg;refine⟨_,?_,quf Q b2 b3⟩;simp only[Instr.field,uep,ud2 C,ucl,H,asAgg,uer,vP q m b1,t]
def R3{q:TypeInfo}{i:Int}(m:P.underlying t=U (.slice e))(j:P.info? e=U q)(h:0<=i/\i<n):
  (Instr.indexAt t (.slice (U ad) n c) (.int k i)).run P w=.ok (.pointer (U (ad.add (i.toNat*P.cellsOf e)))) w:=by
 simp[Instr.indexAt,ud2 m,asIntOf,h,gw j]
def Co{q:TypeInfo}{i:Int}(m:P.underlying t=U (.array n e))(j:P.info? e=U q)(h:0<=i/\i<n):
  (Instr.indexAt t (.pointer (U ad)) (.int k i)).run P w=.ok (.pointer (U (ad.add (i.toNat*P.cellsOf e)))) w:=by
 simp[Instr.indexAt,ud2 m,asIntOf,Instr.sureAddr,h,gw j]
def KU{tt:Ty}{l:List tt.den}{v:Value}{t e:TypeId}{S:TypeInfo}{k:IntKind}{i:Int}(H:aA w F (.sl tt) l (λ_ u=>u=v))(O:P.underlying t=U (.slice e))(C:P.info? e=U S)(N:tt.size=P.cellsOf e)(hi:0<=i/\i<l.length):∃ u,(Instr.indexAt t v (.int k i)).run P w=.ok u w/\aE P w F R (.c (.sptr (enc tt (l.getD i.toNat tt.dflt)))) u:=by
 obtain⟨ad,c,rfl,m,q⟩:=Vk (i:=i.toNat) H (by omega);exact⟨_,R3 O C hi,rfl,_,rfl,by rw[qp];exact m,q.turn λj u _ Q=>by rw[<- N];exact Q⟩
def TM{id sz:Nat}{m:TypeId}{o:Ob}{S:TypeInfo}{i:Int}(h:w.ownsRow B m sz (γ id) n xs)(q:M id=U o)(H:o ≠ .gone)(N:sz=P.cellsOf e)(O:P.underlying t=U (.slice e))(C:P.info? e=U S)(hi:0<=i/\i<n)(j:aE P w F (ap M γ) (.c (.own id)) v):
  ([]:List (Nat×Ob))=[]/\∃ u,(Instr.indexAt t v (.int k i)).run P w=.ok u w/\aE P w F (ap M γ) (.optr id sz i.toNat 0) u:=by
 have Q:=ez q H j.2;subst Q;obtain⟨_,⟨_,rfl⟩|⟨b,c,cur,e1,_⟩⟩:=h;omega;refine⟨rfl,_,by rw[e1];exact R3 O C hi,⟨b,0,V⟩,n,c,?_,by rw[<- N];rfl⟩;have:=j.2;simp only[bc]at this;rw[e1]at this;exact this
def qnq{x:AV}{i:Int}{e:Eff}(hm:MemOK P B w F γ M)(C:∀ i y,m i=U y->M i=U y)(h:IR P t x i m=U e)(H:av e.need)(S:aE P w F (ap M γ) x v):
  e.wr=[]/\∃ u,(Instr.indexAt t v (.int k i)).run P w=.ok u w/\aE P w F (ap M γ) e.v u:=by
 unfold IR at h;split at h;rename_i el Q;split at h;rename_i W;obtain⟨ti,N⟩:=uar.1 W;split at h<;>try trivial
 rename_i id;split at h<;>try trivial
 rename_i ety tt l q;split at h<;>try trivial
 rename_i O;cases h;obtain⟨e',xs,h1,_⟩:=UD (hm.ob id _ (C _ _ q)) O.1;exact TM h1 (C _ _ q) (by simp) O.2 Q N H S;rename_i ety tt l j q;split at h<;>try trivial
 rename_i O;cases h;obtain⟨_,_,xs,h1⟩:=hm.ob id _ (C _ _ q);exact TM h1.own (C _ _ q) (by simp) O Q N H S;rename_i tt l q;split at h<;>try trivial
 rename_i O;cases h;have hv:=ez (C _ _ q) (by simp) S.2;subst hv;exact⟨rfl,KU (hm.ob id _ (C _ _ q)) Q N O H⟩;rename_i tt l;split at h<;>try trivial
 rename_i O;cases h;exact⟨rfl,KU (by simpa only[bc]using S.2) Q N O H⟩;rename_i tt l;split at h<;>try trivial
 rename_i O;cases h;obtain⟨_,A,_,h2⟩:=S;exact⟨rfl,KU h2 Q N O H⟩;cases h;rename_i n el Q;split at h;rename_i W;obtain⟨ti,N⟩:=uar.1 W;split at h;rename_i h1;split at h<;>try trivial
 rename_i id off;cases h;obtain⟨_,b,f1,rfl⟩:=S;exact⟨rfl,_,Co Q N H,⟨b,off,V⟩,⟨b,f1,rfl⟩,H.1,H.2,by rw[h1,Nat.mul_one]⟩;rename_i cs;cases h;obtain⟨_,ad,rfl,f2,f3⟩:=S;exact⟨rfl,_,Co Q N H,ad,⟨ad,rfl,f2,f3⟩,H.1,H.2,by rw[h1,Nat.mul_one]⟩;split at h<;>try trivial
 rename_i k';split at h<;>try trivial
 rename_i hk;have hb:(0:Int)<=Int.ofNat k'/\Int.ofNat k'<(n:Int):=⟨ub3 _,Int.ofNat_lt.2 hk⟩;split at h<;>try trivial
 rename_i id off;cases h;obtain⟨_,b,f1,rfl⟩:=S;exact⟨rfl,_,Co Q N hb,rfl,b,f1,by rw[i8];rfl⟩;rename_i cs;cases h;obtain⟨_,ad,rfl,f2,f3⟩:=S;exact⟨rfl,_,Co Q N hb,rfl,_,rfl,by rw[qp];exact f2,(f3.drop_ _).turn λj u _ hu=>by rw[m9];exact hu⟩;cases h;cases h
def KR{tt:Ty}{l:List tt.den}(j:aA w F (.sl tt) l (λ_ u=>u=v)):∃ A c,v=.slice A l.length c/\l.length<=maxLen:=by
 obtain⟨A,c,i,m,q,_⟩:=j;exact⟨A,c,i.symm,by omega⟩
def TN{id:Nat}{t:Ty}{l:List t.den}(H:MemOK P B w F γ M)(u:M id=U (.arr ety t l))(C:ety<dL):∃ A c,γ id=.slice A l.length c/\l.length<=maxLen:=by
 obtain⟨_,xs,⟨N,q⟩,_⟩:=UD (H.ob id _ u) C;rcases q with ⟨i,j⟩|⟨g,m,cur,i,_,_,j,O,_⟩
 exact⟨V,0,by rw[i,j],by omega⟩;exact⟨_,_,i,by omega⟩
def qqj{c:AC}{tt:Ty}{l:List tt.den}(H:MemOK P B w F γ M)(q:∀ i y,m i=U y->M i=U y)(h:rp m c=U ⟨tt,l⟩)(t:bc P w F (ap M γ) c v):
  ∃ A u,v=.slice A l.length u/\l.length<=maxLen:=by
 unfold rp at h;split at h<;>try trivial
 cases h;exact KR t;cases h;obtain⟨A,_,N⟩:=t;exact KR N;rename_i id;split at h<;>try trivial
 rename_i ety S Q j;split at h<;>try trivial
 rename_i O;cases h;have C:=ez (q _ _ j) (by simp) t;subst C;exact TN H (q _ _ j) (Nat.lt_trans O (by decide));rename_i S Q j;cases h;have C:=ez (q _ _ j) (by simp) t;subst C;exact KR (H.ob id _ (q _ _ j))
def qqi{x:AV}{e:Eff}(S:MemOK P B w F γ M)(q:∀ i y,m i=U y->M i=U y)(h:ro P t x m=U e)(O:aE P w F (ap M γ) x v)(ty:TypeId):
  e.wr=[]/\∃ u,(Builtin.len_ #[t] ty #[v]).run P w=.ok u w/\aE P w F (ap M γ) e.v u:=by
 have j:∀ n:Nat,n<=maxLen->inR .i64 (n:Int):=λn hn=>by
  simp only[maxLen]at hn;unfold inR;simp[IntKind.min,IntKind.max,IntKind.bits];omega
 unfold ro at h;split at h;rename_i el N;split at h<;>try trivial
 cases h;obtain⟨_,rfl⟩:=O;exact⟨rfl,_,by simp[Builtin.len_,ud2 N,goInt],rfl,rfl,j 0 (by simp)⟩;rename_i c _;split at h<;>try trivial
 rename_i tt l hl;cases h;obtain⟨A,Q,rfl,H⟩:=qqj S q hl O.2;exact⟨rfl,_,by simp[Builtin.len_,ud2 N,goInt],rfl,rfl,j _ H⟩;split at h<;>try trivial
 split at h<;>try trivial
 rename_i id _ ety tt l C;split at h<;>try trivial
 rename_i W;cases h;have hv:=ez (q _ _ C) (by simp) O.2;subst hv;obtain⟨A,Q,e1,H⟩:=TN S (q _ _ C) W;exact⟨rfl,_,by simp[Builtin.len_,ud2 N,goInt,e1],rfl,rfl,j _ H⟩;rename_i N;split at h<;>try trivial
 cases h;obtain⟨_,rfl,H⟩:=O;exact⟨rfl,_,by simp[Builtin.len_,ud2 N,goInt],rfl,rfl,j _ H⟩;cases h
def qnp{x:AV}{i:Int}{e:Eff}(h:IS P t x i=U e)(W:av e.need)(hr:aE P w F R x v):
  e.wr=[]/\∃ u,(Instr.index t v (.int k i)).run P w=.ok u w/\aE P w F R e.v u:=by
 unfold IS at h;split at h;rename_i N;split at h<;>try trivial
 rename_i b;cases h;obtain⟨q,S⟩:=W;obtain⟨_,hx⟩:=hr;refine⟨rfl,?_⟩;have hi:i.toNat<b.size:=by omega
 have hb:b[i.toNat]?= U (b[i.toNat]):=by simp
 have C:b.data.getD i.toNat 0=b[i.toNat]:=by
  exact dif_pos hi
 refine⟨.int .u8 b[i.toNat].toNat,?_,?_⟩;rw[hx.1];simp[Instr.index,ud2 N,asIntOf,q,hb];refine⟨rfl,?_⟩;simp only[bc,C];have hlt:=b[i.toNat].toNat_lt;have e1:IntKind.u8.min=0:=by decide
 have e2:IntKind.u8.max=255:=by decide
 simp;constructor<;>omega
 rename_i n el N;split at h<;>try trivial
 rename_i hc;obtain⟨c1,c2,c3,Q⟩:=hc;obtain⟨ti,m⟩:=uar.1 c1;obtain⟨d,C⟩:=uar.1 c2;split at h<;>try trivial
 split at h<;>try trivial
 rename_i k' _;split at h<;>try trivial
 rename_i O H;split at h<;>try trivial
 cases h;obtain⟨q,S⟩:=W;obtain⟨arr,rfl,e1,e2⟩:=hr;have he:=Cu H;subst he;have hi:i.toNat<O.length:=by omega
 obtain⟨u,q1,q2,q3⟩:=e2.at_ (j:=i.toNat) (c:=.int k' (O.getD i.toNat 0)) (by simp[uaq hi]);refine⟨rfl,u,?_,q2,q3⟩;have hsz:arr.size=O.length:=by simpa using e1
 have hp:=vP (w:=w) (cs:=arr) (off:=i.toNat) C m (by rw[Q];simp;omega);simp only[Instr.index,uep,ud2 N,ucl,asIntOf,uer,q,true_and,S,if_true,gw m,c3,Nat.mul_one,hp,Q,ufn]
 simp_all
 cases h
end
section
variable {P:Program} {B:Nat} {o:Oper} {a:Act} {w w':World} {F F':Nat->Prop} {γ γ':Nat->Value} {M m:aT} {R:Nat->Value->Prop}
def ku:(t:Ty) -> {cs:List AC} -> {x:t.den} -> {r:List AC}->dec t cs=U (x,r)->cs.length=t.size+r.length
 |.int k,cs,x,r,h=>by
  simp only[dec]at h;unfold oB at h;split at h;split at h;simp at h;obtain⟨_,rfl⟩:=h;simp[Ty.size,uen];cases h;cases h
 |.bool,cs,x,r,h=>by
  simp only[dec]at h;unfold oA at h;split at h;simp at h;obtain⟨_,rfl⟩:=h;simp[Ty.size,uen];cases h
 |.str,cs,x,r,h=>by
  simp only[dec]at h;unfold oD at h;split at h;simp at h;obtain⟨_,rfl⟩:=h;simp[Ty.size,uen];cases h
 |.sl e,cs,x,r,h=>by
  simp only[dec]at h;unfold oC at h;split at h;split at h;simp at h;obtain⟨_,rfl⟩:=h;simp[Ty.size,uen];cases h;split at h;simp at h;obtain⟨_,rfl⟩:=h;simp[Ty.size,uen];cases h;simp at h;obtain⟨_,rfl⟩:=h;simp[Ty.size,uen];cases h
 |.unit,cs,x,r,h=>by
  obtain⟨_,rfl⟩:=h;simp[Ty.size]
 |.pair a b,cs,x,r,h=>by
  simp only[dec]at h;split at h;rename_i x1 m i;split at h;rename_i x2 q j;obtain⟨_,rfl⟩:=h;have e1:=ku a i;have e2:=ku b j;simp only[Ty.size];omega;cases h;cases h
 |.fm es,cs,x,r,h=>by
  simp only[dec]at h;unfold qO at h;split at h<;>try trivial
  split at h<;>try trivial
  obtain⟨_,rfl⟩:=h;simp[Ty.size,uen]
 |.ic es t,cs,x,r,h=>by
  simp only[dec]at h;unfold qN at h;split at h<;>try trivial
  split at h<;>try trivial
  split at h<;>try trivial
  obtain⟨_,rfl⟩:=h;simp[Ty.size,uen]
 |.fc f,cs,x,r,h=>by
  simp only[dec]at h;unfold qM at h;split at h<;>try trivial
  all_goals
   split at h<;>try trivial
   obtain⟨_,rfl⟩:=h;simp[Ty.size,uen]
def aA.cell:(t:Ty) -> {x:t.den} -> {g:Nat->Value->Prop}->aA w F t x g->∀ j,j<t.size->∃ u,g j u/\u.oneCell'=Z
 |.int _,_,_,h,j,i=>by
  have:j=0:=by simp[Ty.size]at i;omega
  subst this;exact⟨_,h.1,rfl⟩
 |.bool,_,_,h,j,i=>by
  have:j=0:=by simp[Ty.size]at i;omega
  subst this;exact⟨_,h,rfl⟩
 |.str,_,_,h,j,i=>by
  have:j=0:=by simp[Ty.size]at i;omega
  subst this;exact⟨_,h.1,rfl⟩
 |.sl e,_,_,h,j,i=>by
  have:j=0:=by simp[Ty.size]at i;omega
  subst this;obtain⟨A,c,m,_⟩:=h;exact⟨_,m,rfl⟩
 |.unit,_,_,_,j,i=>by simp[Ty.size]at i
 |.pair a b,x,g,h,j,i=>by
  rcases uem j a.size with m|m
  exact aA.cell a h.1 j m;obtain⟨u,e1,e2⟩:=aA.cell b h.2 (j-a.size) (by simp only[Ty.size]at i;omega);rw[show a.size+(j-a.size)=j from by omega]at e1;exact⟨u,e1,e2⟩
 |.fm es,_,_,h,j,i=>by
  have:j=0:=by simp[Ty.size]at i;omega
  subst this;obtain⟨r,arr,C,m,_⟩:=h;exact⟨_,m,rfl⟩
 |.ic es t,_,_,h,j,i=>by
  have:j=0:=by simp[Ty.size]at i;omega
  subst this;rcases h with ⟨ty,u,_,q,_⟩|⟨_,q⟩
  exact⟨_,q,rfl⟩;exact⟨_,q,rfl⟩
 |.fc f,_,_,h,j,i=>by
  have:j=0:=by simp[Ty.size]at i;omega
  subst this;obtain⟨u,m,q,_⟩:=h;exact⟨u,m,q⟩
def yQ{t:Ty}{l:List t.den}(h:bU w F t l xs)(m:xs.length=l.length*t.size):∀ u∈xs,u.oneCell'=true:=by
 intro u q;obtain⟨k,j,rfl⟩:=List.getElem_of_mem q;have i:0<t.size:=by
  rcases ub4 t.size with h0|h0
  rw[h0]at m;omega;exact h0
 have hi:k/t.size<l.length:=(Nat.div_lt_iff_lt_mul i).2 (by omega);have:=h (k/t.size) l[k/t.size] (uaq hi);obtain⟨v,e1,e2⟩:=aA.cell t this (k%t.size) (ufd _ i);rw[ues,Nat.div_add_mod,uaq j]at e1;cases e1;exact e2
def fT{t:Ty}{x:t.den}(h:bu w F t x v):aE P w F R (dE t x) v:=by
 obtain⟨q,j,C⟩:=h;have i:=aA.enc (P:=P) (R:=R) t x C;unfold dE;cases hw:t.wide
 ·simp;have H:v.cells = #[v]:=by
   cases v<;>first|rfl|(exact absurd (j.2 ⟨_,rfl⟩) (by simp[hw]))
  have:∃ c,enc t x=[c]:=by cases t<;>first|(simp_all[Ty.wide,enc];done)|(rename_i f;cases f<;>simp_all[Ty.wide,enc])
  obtain⟨c,hc⟩:=this;rw[hc]at i |-;obtain⟨⟨u,e1,e2,m⟩,_⟩:=i;rw[H]at e1;simp at e1;subst e1;exact⟨e2,m⟩
 simp;obtain⟨arr,rfl⟩:=j.1 hw;exact⟨arr,rfl,by rw[fl];exact q,i⟩
def P6:{ts:List Ty} -> {x:aa ts} -> {vs:List Value}->dM w F ts x vs->bj P w F R (Bm ts x) vs
 |[],_,_,h=>by cases h;trivial
 |_::_,_,_,⟨v,q,i,j,m⟩=>by subst i;exact⟨fT j,P6 m⟩
def bj.length:{xs:List AV} -> {vs:List Value}->bj P w F R xs vs->vs.length=xs.length
 |[],[],_=>rfl
 |_::_,_::_,h=>by simp[bj.length h.2]
 |[],_::_,h=>h.elim
 |_::_,[],h=>h.elim
def P5{ts:List Ty}{x:aa ts}(h:∃ vs:Array Value,v=.tuple vs/\dM w F ts x vs.toList):aE P w F R (.tup (Bm ts x)) v:=by
 obtain⟨vs,rfl,j⟩:=h;have i:=P6 (P:=P) (R:=R) j;exact⟨vs,rfl,by have:=i.length;simpa using this,by simpa using Uy i⟩
def tN:{ts:List Ty} -> {x:aa ts} -> {v:Value}->gT w F ts x v->aE P w F R (jg ts x) v
 |[],_,_,h=>P5 h
 |[_],_,_,h=>fT h
 |t::i::r,_,_,h=>P5 h
def zE(hF:∀ b,F b->F' b)(hw:∀ b,F b->w'.heap[b]?= w.heap[b]?)(hR:∀ id v,R id v->R' id v):{xs:List AV} -> {vs:List Value}->bj P w F R xs vs->bj P w' F' R' xs vs
 |[],[],_=>trivial
 |_::_,_::_,h=>⟨aE.mono hF hw hR _ h.1,zE hF hw hR h.2⟩
 |[],_::_,h=>h.elim
 |_::_,[],h=>h.elim
def qP{t:Ty}{x:AV}{d:t.den}(h:lB t x=U d)(i:aE P w F R x v):bu w F t d v:=by
 unfold lB at h;split at h;rename_i c;split at h;cases h;rename_i hw;split at h<;>try trivial
 rename_i y m;cases h;have q:v.cells = #[v]:=by
  have:=i.1;cases v<;>first|rfl|simp[Value.oneCell']at this
 obtain⟨e1,_⟩:=aA.dec (g:=λj u=>v.cells[j]?= U u) t m ⟨⟨v,by simp[q],i.1,i.2⟩,uT⟩;refine⟨?_,⟨λC=>absurd C hw,λ⟨cs,hc⟩=>?_⟩,e1⟩;rw[q];cases t<;>simp_all[Ty.size,Ty.wide]
 have:=i.1;rw[hc]at this;simp[Value.oneCell']at this;rename_i cs;split at h;rename_i hw;split at h<;>try trivial
 rename_i y m;cases h;obtain⟨arr,rfl,N,H⟩:=i;have O:cs.length=t.size:=by simpa using ku t m
 obtain⟨e1,_⟩:=aA.dec t m H;exact⟨by show arr.size=_;omega,⟨λ_=>⟨arr,rfl⟩,λ_=>hw⟩,e1⟩;cases h;cases h
def lC:{ts:List Ty} -> {xs:List AV} -> {x:aa ts} -> {vs:List Value}->g9 ts xs=U x->bj P w F R xs vs->dM w F ts x vs
 |[],[],_,[],_,_=>rfl
 |t::r,a::s,x,v::vs,h,i=>by
  simp only[g9]at h;split at h;rename_i y z j m;cases h;exact⟨v,vs,rfl,qP j i.1,lC m i.2⟩;cases h
 |[],[],_,_::_,_,i=>i.elim
 |_::_,_::_,_,[],_,i=>i.elim
 |[],_::_,_,_,h,_=>by simp[g9]at h
 |_::_,[],_,_,h,_=>by simp[g9]at h
def gc(M:aT)(u v:List (Nat×Ob)):ax M (u++v)=ax (ax M u) v:=by
 induction u generalizing M with
 |nil=>rfl
 |cons x u i=>exact i _
def cX(m M:aT):Prop:=∀ i y,m i=U y->M i=U y \/ ∃ e t l,y=.arr e t l/\M i=U (.frz t l)
def cX.of(h:∀ i y,m i=U y->M i=U y):cX m M:=λi y j=>.inl (h i y j)
def zco{id:Nat}{o:Ob}(h:M id=U o):upd M id o=M:=by
 funext i;unfold upd;split;rename_i hi;subst hi;exact h.symm;rfl
def K6{t:Ty}{l:List t.den}(q:w.ownsRow B e t.size v l.length xs)(m:bU w F t l xs)(hF:∀ b,v.ownBlock=U b->F b):aA w F (.sl t) l (λ_ u=>u=v):=by
 obtain⟨hl,hn|⟨g,C,cur,P,S,hg,N,H,W,ht⟩⟩:=q;obtain⟨Q,O⟩:=hn;refine⟨V,0,?_,by omega,by simp,λi x hi=>?_⟩;rw[Q,O];rw[uab O]at hi;simp at hi;refine⟨U ⟨g,0,V⟩,C,P.symm,N,H,λi x hi=>⟨_,rfl,hF g (by rw[P];rfl),?_⟩⟩;refine(m i x hi).mono (λb h=>h) (λ_ _=>rfl) λj u hj hu=>?_;rw[i8,tG hg,<- hu,<- ht,ub1];have:i<l.length:=(uak.1 hi).1;have h3:i*t.size+t.size<=l.length*t.size:=by
  rw[<- uet];exact ubd _ this
 rw[if_pos (by omega)];simp
def RwOK.rep{e:Nat}{t:Ty}{l:List t.den}(h:RwOK P B w F v e t l (λ_=>False) xs)(S:cj<=e){x:t.den}(hi:l[i]?= U x):
  aA w (λb=>F b\/bK w (.arr e t l) v b) t x (λj u=>xs[i*t.size+j]?= U u):=by
 refine LH (P:=P) (R:=λ_ _=>False) t x (ki _ λk c hc=>?_);by_cases H:k=cB e;subst H;obtain⟨t',li,u,ys,q,m,N,O,W,a6⟩:=h.inn i x hi (λh=>h);rw[hc]at q;cases q;refine⟨u,m,h.one u (ubf m),?_⟩;simp only[bc];exact K6 N (O.mono (λ_ h=>.inl h) (λ_ _=>rfl)) λb hb=>.inr (.inr (.inl ⟨S,i,u,(uak.1 hi).1,λh=>h,rk h.own m,hb⟩));obtain⟨u,C,Q⟩:=h.cells i x k c hi hc H;exact⟨u,C,h.one u (ubf C),bc.mono (λ_ h=>.inl h) (λ_ _=>rfl) (λ_ _ h=>h) c Q⟩
def ql1{id:Nat}{t:Ty}{l:List t.den}(O:MemOK P B w F γ M)(hb:∀ b,F b->b<w.heap.size)(u:M id=U (.arr e t l))(Q:e<dL):
  ∃ F',Step B w F γ M w F' γ (upd M id (.frz t l))/\MemOK P B w F' γ (upd M id (.frz t l)):=by
 have j:=O.ob id _ u;refine⟨λb=>F b\/bK w (.arr e t l) (γ id) b,?_,?_⟩;refine⟨λb h=>.inl h,λ_ _=>rfl,nx u (by simp),λ_ _=>rfl,rfl,rfl,rfl,ue6 _,λb h=>?_,λb h=>?_⟩;rcases h with h|h
 exact hb b h;exact(gZ j h).1;rcases h with h|h
 exact .inl h;exact .inr (gZ j h).2.2;refine O.change u (by simp) (λb h=>.inl h) (λ_ _=>rfl) (λb h=>h.elim) (λb _ H=>⟨rfl,λh=>h.resolve_right H⟩) ?_;simp only[fI];rcases j with ⟨_,xs,q,_,m,_⟩|⟨C,_,xs,N⟩|⟨k,_⟩
 exact K6 q (m.mono (λb h=>.inl h) (λ_ _=>rfl)) λb hb=>.inr (.inl hb);exact K6 N.own (λi x hi=>N.rep C hi) λb hb=>.inr (.inl hb);exact absurd Q (Nat.not_lt.2 k)
def D5{c x:AC}{u:List (Nat×Ob)}(H:MemOK P B w F γ M)(hb:∀ b,F b->b<w.heap.size)(N:cX m M)(h:me m c=U (x,u))(Q:bc P w F (ap M γ) c v):
  ∃ F',Step B w F γ M w F' γ (ax M u)/\MemOK P B w F' γ (ax M u)/\cX m (ax M u)/\bc P w F' (ap (ax M u) γ) x v:=by
 unfold me at h;split at h;rename_i id;split at h<;>try trivial
 rename_i e t l C;split at h<;>try trivial
 rename_i W;cases h;rcases N id _ C with q|⟨e',t',l',S,q⟩
 obtain⟨F',s1,s2⟩:=ql1 H hb q W;have O:=ez q (by simp) Q;subst O;refine⟨F',s1,s2,λi y hy=>?_,?_⟩;by_cases hi:i=id;subst hi;rw[C]at hy;cases hy;exact .inr ⟨e,t,l,rfl,iX _ _ _⟩;simp only[ax];rw[fa _ _ hi];exact N i y hy;simp only[bc];exact s2.ob id _ (iX _ _ _);cases S;have O:=ez q (by simp) Q;subst O;have j:ax M [(id,Ob.frz t l)]=M:=zco q;refine⟨F,by rw[j];exact Step.refl hb,by rw[j];exact H,by rw[j];exact N,?_⟩;exact H.ob id _ q;rename_i t l C;cases h;rcases N id _ C with q|⟨e',t',l',S,q⟩
 have O:=ez q (by simp) Q;subst O;refine⟨F,Step.refl hb,H,N,?_⟩;exact H.ob id _ q;cases S;cases h;exact⟨F,Step.refl hb,H,N,Q⟩
def yR:{cs xs:List AC} -> {u:List (Nat×Ob)} -> {M:aT} -> {F:Nat->Prop} -> {g:Nat->Value->Prop}->MemOK P B w F γ M->(∀ b,F b->b<w.heap.size)->cX m M->jr m cs=U (xs,u)->aN P w F (ap M γ) cs g ->
  ∃ F',Step B w F γ M w F' γ (ax M u)/\MemOK P B w F' γ (ax M u)/\cX m (ax M u)/\xs.length=cs.length/\aN P w F' (ap (ax M u) γ) xs g
 |[],xs,u,M,F,g,i,hb,j,h,q=>by
  obtain⟨rfl,rfl⟩:=h;exact⟨F,Step.refl hb,i,j,rfl,uT⟩
 |c::r,xs,u,M,F,g,i,hb,j,h,q=>by
  simp only[jr]at h;split at h;rename_i x u1 y u2 H N;cases h;obtain⟨⟨v,e1,e2,t⟩,C⟩:=q;obtain⟨F1,s1,O,t1,S⟩:=D5 i hb j H t;obtain⟨F2,s2,Q,t2,l2,W⟩:=yR O s1.bd t1 N (s1.repCL C);rw[gc];exact⟨F2,s1.trans s2,Q,t2,by simp[l2],⟨⟨v,e1,e2,bc.mono s2.hF s2.hw s2.hR _ S⟩,W⟩⟩;cases h
def UJ{x y:AV}{u:List (Nat×Ob)}(H:MemOK P B w F γ M)(hb:∀ b,F b->b<w.heap.size)(N:cX m M)(h:pD m x=U (y,u))(j:aE P w F (ap M γ) x v):
  ∃ F',Step B w F γ M w F' γ (ax M u)/\MemOK P B w F' γ (ax M u)/\cX m (ax M u)/\aE P w F' (ap (ax M u) γ) y v:=by
 unfold pD at h;split at h;split at h<;>try trivial
 rename_i i;cases h;obtain⟨F1,s1,q,C,t⟩:=D5 H hb N i j.2;exact⟨F1,s1,q,C,j.1,t⟩;split at h<;>try trivial
 rename_i i;cases h;obtain⟨arr,e1,e2,O⟩:=j;obtain⟨F1,s1,q,C,Q,t⟩:=yR H hb N i O;exact⟨F1,s1,q,C,arr,e1,by rw[e2,Q],t⟩;cases h
def iy:{cs xs:List AV} -> {u:List (Nat×Ob)} -> {M:aT} -> {F:Nat->Prop} -> {vs:List Value}->MemOK P B w F γ M->(∀ b,F b->b<w.heap.size)->cX m M->dK m cs=U (xs,u)->bj P w F (ap M γ) cs vs ->
  ∃ F',Step B w F γ M w F' γ (ax M u)/\MemOK P B w F' γ (ax M u)/\cX m (ax M u)/\bj P w F' (ap (ax M u) γ) xs vs
 |[],xs,u,M,F,vs,j,hb,q,h,i=>by
  obtain⟨rfl,rfl⟩:=h;exact⟨F,Step.refl hb,j,q,i⟩
 |c::r,xs,u,M,F,[],j,hb,q,h,i=>i.elim
 |c::r,xs,u,M,F,v::vs,j,hb,q,h,i=>by
  simp only[dK]at h;split at h;rename_i x u1 y u2 C H;cases h;obtain⟨F1,s1,N,W,Q⟩:=UJ j hb q C i.1;have t:=zE s1.hF s1.hw s1.hR i.2;obtain⟨F2,s2,O,t2,S⟩:=iy N s1.bd W H t;rw[gc];exact⟨F2,s1.trans s2,O,t2,s2.repA Q,S⟩;cases h
def aA.flat:{t:Ty}->t.flat=Z -> {x:t.den} -> {g:Nat->Value->Prop}->aA w F t x g->aA w' F' t x g
 |.int _,_,_,_,h=>h
 |.bool,_,_,_,h=>h
 |.str,_,_,_,h=>h
 |.unit,_,_,_,h=>h
 |.sl _,i,_,_,_=>by simp[Ty.flat]at i
 |.fm _,i,_,_,_=>by simp[Ty.flat]at i
 |.ic _ t,i,_,_,h=>by
  simp only[Ty.flat]at i;rcases h with ⟨ty,u,j,m,q,C,H⟩|h
  exact .inl ⟨ty,u,j,m,q,C,H.flat i⟩;exact .inr h
 |.fc _,i,_,_,_=>by simp[Ty.flat]at i
 |.pair a b,i,_,_,h=>by
  simp only[Ty.flat,uda]at i;exact⟨aA.flat i.1 h.1,aA.flat i.2 h.2⟩
def bu.flat{t:Ty}(i:t.flat=Z){x:t.den}(h:bu w F t x v):bu w' F' t x v:=⟨h.1,h.2.1,h.2.2.flat i⟩
def dM.flat:{ts:List Ty}->ts.all Ty.flat=Z -> {x:aa ts} -> {vs:List Value}->dM w F ts x vs->dM w' F' ts x vs
 |[],_,_,_,h=>h
 |t::r,i,_,_,⟨v,j,m,q,u⟩=>by
  simp only[ueg,uda]at i;exact⟨v,j,m,q.flat i.1,dM.flat i.2 u⟩
def gT.flat:{ts:List Ty}->ts.all Ty.flat=Z -> {x:aa ts} -> {v:Value}->gT w F ts x v->gT w' F' ts x v
 |[],i,_,_,⟨vs,j,m⟩=>⟨vs,j,dM.flat i m⟩
 |[t],i,_,_,h=>by
  simp only[ueg,uda]at i;exact bu.flat i.1 h
 |t::q::r,i,_,_,⟨vs,j,m⟩=>⟨vs,j,dM.flat i m⟩
def bU.flat{t:Ty}(j:t.flat=Z){l:List t.den}(h:bU w F t l xs):bU w' F' t l xs:=λi x hi=>(h i x hi).flat j
end
section
variable {P:Program} {B:Nat} {o:Oper} {a:Act} {w w':World} {F F':Nat->Prop} {γ γ':Nat->Value} {M m:aT} {R:Nat->Value->Prop}
def zaq{ob:Ob}{x:Obj}(hb:∀ b,F b->b<w.heap.size)(hB:B<=w.heap.size)(i:M d=V):Step B w F γ M (w.alloc x) F (cU γ d v) (upd M d ob):=
 ⟨λ_ h=>h,λb h=>uc9 _ _ _ (hb b h),yM i,λb h=>uc9 _ _ _ (by omega),rfl,rfl,rfl,by simp,λb h=>by have:=hb b h;simp;omega,λb h=>.inl h⟩
def SZ{cs:List AC}(C:MemOK P B w F γ M)(hb:∀ b,F b->b<w.heap.size)(hB:B<=w.heap.size)(m:M d=V)(t:arr.size=cs.length)(H:aN P w F (ap M γ) cs (λj u=>arr[j]?= U u)):
  Step B w F γ M (w.alloc (.cells arr ty)) F (cU γ d (.pointer (U ⟨w.heap.size,0,V⟩))) (upd M d (.box ty cs)) /\
  MemOK P B (w.alloc (.cells arr ty)) F (cU γ d (.pointer (U ⟨w.heap.size,0,V⟩))) (upd M d (.box ty cs)):=by
 have i:Step B w F γ M (w.alloc (.cells arr ty)) F (cU γ d (.pointer (U ⟨w.heap.size,0,V⟩))) (upd M d (.box ty cs)):=zaq hb hB m;refine⟨i,C.new m i.hF i.hw (λb h=>?_) (λb h=>⟨uc9 _ _ _ h,λh=>h⟩) ?_⟩;obtain⟨a,q,rfl⟩:=h;cases q;exact ue6 _;exact⟨w.heap.size,arr,rfl,ud4 w _,λh=>by have:=hb _ h;omega,hB,t,i.repCL H⟩
def Ul{cs:List AC}:aE P w F (ap (upd M d (.box ty cs)) (cU γ d (.pointer (U ⟨b,0,V⟩)))) (.c (.ptr d 0)) (.pointer (U ⟨b,0,V⟩)):=by
 refine⟨rfl,b,?_,rfl⟩;unfold ap;rw[iX];exact(fy _ _ _).symm
def uN{t:Ty}{l:List t.den}(O:MemOK P B w F γ M)(hb:∀ b,F b->b<w.heap.size)(hB:B<=w.heap.size)(H:M d=V)(hg:w.grownBy w' V)(j:w'.ownsRow B ety t.size v l.length xs)(q:∀ g,v.ownBlock=U g->w.heap.size<=g)(m:bU w' F t l xs)(N:ety<cj):
  Step B w F γ M w' F (cU γ d v) (upd M d (.arr ety t l))/\MemOK P B w' F (cU γ d v) (upd M d (.arr ety t l)):=by
 have i:=λb h=>hg.block b h (by simp);have C:Step B w F γ M w' F (cU γ d v) (upd M d (.arr ety t l)):=
  ⟨λ_ h=>h,λb h=>i b (hb b h),yM H,λb h=>i b (by omega),hg.os,hg.tape,hg.output,hg.size,λb h=>by have:=hb b h;have:=hg.size;omega,λb h=>.inl h⟩
 refine⟨C,O.new H C.hF C.hw (λb h=>q b ((lE N (nq j)).1 h)) (λb h=>⟨i b h,λh=>h⟩) ?_⟩;refine .inl ⟨N,xs,j,λg u hF=>?_,m,yQ m j.1⟩;have:=hb g hF;have:=q g u;omega
def lP{t:Ty}{l:List t.den}(i:v.oneCell'=Z):aE P w F (ap (upd M d (.arr ety t l)) (cU γ d v)) (.c (.own d)) v:=by
 refine⟨i,?_⟩;simp only[bc];unfold ap;rw[iX];exact(fy _ _ _).symm
def MemOK.re(h:MemOK P B w F γ M)(S:Nat->Prop){O:aT}(hM:∀ i,¬ S i->O i=M i)(Q:∀ i,¬ S i->γ' i=γ i)(hw:∀ b,F b->w'.heap[b]?= w.heap[b]?)(hR:∀ i v,ap M γ i v->ap O γ' i v)(hoth:∀ b,b<w.heap.size->(∀ i o,S i->M i=U o->¬ bK w o (γ i) b)->w'.heap[b]?= w.heap[b]?)(hok:∀ i o,S i->O i=U o->fI P B w' F (ap O γ') (γ' i) o)(hex:∀ i o b,S i->O i=U o->bK w' o (γ' i) b->(∃ j o0,S j/\M j=U o0/\bK w o0 (γ j) b)\/w.heap.size<=b)(hap:∀ i j m H b,S i->S j->i≠j->O i=U m->O j=U H->bK w' m (γ' i) b->¬ bK w' H (γ' j) b):MemOK P B w' F γ' O:=by
 have hk:∀ i m,¬ S i->M i=U m->∀ b,bK w m (γ i) b->w'.heap[b]?= w.heap[b]? /\ ¬ F b:=λi m C hi b hb=>by
  obtain⟨e1,e2,_⟩:=gZ (h.ob i m hi) hb;exact⟨hoth b e1 (λj o N hjo hc=>h.apart i j m o b (λe=>C (e ▸ N)) hi hjo hb hc),e2⟩
 have hkb:∀ i m,¬ S i->M i=U m->∀ b,bK w' m (γ i) b->bK w m (γ i) b:=λi m C hi b=>tU (λb hb=>(hk i m C hi b hb).1);have key:∀ i j m H b,S i->¬ S j->O i=U m->M j=U H->bK w' m (γ' i) b->¬ bK w' H (γ j) b:=λi j m H b hi N hoi hoj u t=>by
  have W:=hkb j H N hoj b t;rcases hex i m b hi hoi u with ⟨k,o0,k1,k2,k3⟩|k
  exact h.apart k j o0 H b (λe=>N (e ▸ k1)) k2 hoj k3 W;have:=(gZ (h.ob j H hoj) W).1;omega
 refine⟨λi o hi=>?_,λi j m H b hij hi N u t=>?_⟩;by_cases C:S i;exact hok i o C hi;rw[hM i C]at hi;rw[Q i C];exact(h.ob i o hi).keep (λ_ h=>h) hw hR (hk i o C hi);by_cases C:S i;by_cases q:S j;exact hap i j m H b C q hij hi N u t;rw[hM j q]at N;rw[Q j q]at t;exact key i j m H b C q hi N u t;rw[hM i C]at hi;rw[Q i C]at u;by_cases q:S j;exact key j i H m b q C N hi t u;rw[hM j q]at N;rw[Q j q]at t;exact h.apart i j m H b hij hi N (hkb i m C hi b u) (hkb j H q N b t)
def MemOK.moved(h:MemOK P B w F γ M){id:Nat}{o0 o:Ob}(h0:M id=U o0)(W:M d=V)(hw:∀ b,F b->w'.heap[b]?= w.heap[b]?)(Q:∀ b,bK w' o v b->bK w o0 (γ id) b\/w.heap.size<=b)(H:∀ b,b<w.heap.size->¬ bK w o0 (γ id) b->w'.heap[b]?= w.heap[b]?)(S:fI P B w' F (ap (upd (upd M id .gone) d o) (cU γ d v)) v o):MemOK P B w' F (cU γ d v) (upd (upd M id .gone) d o):=by
 have C:d≠id:=by rintro rfl;rw[W]at h0;cases h0
 have hg:∀ m,upd (upd M id .gone) d o id=U m->m=.gone:=λm hi=>by
  rw[fa _ _ C.symm,iX]at hi;exact(ud0 hi).symm
 have q:∀ m,upd (upd M id .gone) d o d=U m->m=o:=λm hi=>by
  rw[iX]at hi;exact(ud0 hi).symm
 refine h.re (λi=>i=id\/i=d) (λi hi=>?_) (λi hi=>eC _ _ (λe=>hi (.inr e))) hw (λi u hu=>yM (by rw[fa _ _ C];exact W) i u (nx h0 (λ_=>rfl) i u hu))
  (λb hb hn=>H b hb (hn id o0 (.inl rfl) h0)) ?_ ?_ ?_
 rw[fa _ _ (λe=>hi (.inr e)),fa _ _ (λe=>hi (.inl e))];rintro i m (rfl|rfl) hi;obtain rfl:=hg m hi;trivial;obtain rfl:=q m hi;rw[fy];exact S;rintro i m b (rfl|rfl) hi hb;obtain rfl:=hg m hi;exact hb.elim;obtain rfl:=q m hi;rw[fy]at hb;exact(Q b hb).imp (λh1=>⟨id,o0,.inl rfl,h0,h1⟩) (λh=>h);rintro i j m oj b (rfl|rfl) (rfl|rfl) t hi hj N O;exact t rfl;obtain rfl:=hg m hi;exact N;obtain rfl:=hg oj hj;exact O;exact t rfl
def CJ{id:Nat}{H:TypeId}{t t0:Ty}{l:List t.den}{l0:List t0.den}(hm:MemOK P B w F γ M)(hb:∀ b,F b->b<w.heap.size)(hB:B<=w.heap.size)(h0:M id=U (.arr H t0 l0))(S:M d=V)(hg:w.grownBy w' (γ id).ownBlock)(q:w'.ownsRow B ety t.size v l.length xs)(O:v.ownBlock=(γ id).ownBlock\/v.ownBlock=U w.heap.size\/v.ownBlock=V)(C:bU w' F t l xs)(W:H<cj)(N:ety<cj):
  Step B w F γ M w' F (cU γ d v) (upd (upd M id .gone) d (.arr ety t l))/\MemOK P B w' F (cU γ d v) (upd (upd M id .gone) d (.arr ety t l)):=by
 have hne:d≠id:=by rintro rfl;rw[S]at h0;cases h0
 obtain⟨xs0,q1,q2,_⟩:=gg.of (hm.ob id _ h0) W;have hnF:∀ b,F b->U b≠(γ id).ownBlock:=λb Q N=>q2 b N.symm Q;have hs:Step B w F γ M w' F (cU γ d v) (upd (upd M id .gone) d (.arr ety t l)):=
  ⟨λ_ h=>h,λb h=>hg.block b (hb b h) (hnF b h),
   λi u hu=>yM (by rw[fa _ _ hne];exact S) i u (nx h0 (λ_=>rfl) i u hu),
   λb h=>hg.block b (by omega) (λN=>by have:=(q1.lt b N.symm).1;omega),hg.os,hg.tape,hg.output,hg.size,λb h=>by have:=hb b h;have:=hg.size;omega,λb h=>.inl h⟩
 refine⟨hs,hm.moved h0 S hs.hw (λb h=>?_) (λb h1 h2=>hg.block b h1 (λN=>h2 (.inl N.symm))) ?_⟩;replace h:=(lE N (nq q)).1 h;refine(λh=>h.imp (.inl:(γ id).ownBlock=U b->_) (λh=>h):_\/_->_) ?_;rcases O with m|m|m
 rw[m]at h;exact .inl h;rw[m]at h;simp at h;exact .inr (by omega);rw[m]at h;cases h;refine .inl ⟨N,xs,q,λg j hF=>?_,C,yQ C q.1⟩;rcases O with m|m|m
 rw[m]at j;exact q2 g j hF;rw[m]at j;simp at j;have:=hb g hF;omega;rw[m]at j;cases j
end
end Go.Ab
