/-
  Parts of the proof, one behind the other: AbA.
-/
import Derived.Calls
import Derived.Below
import Derived.Laws.AppendOwn
import Derived.OwnWalk
import Derived.Maps.AppendAt
import Derived.Deep.Draws
import Derived.Deep.MidRow
import Derived.Laws.StructEq
import Derived.Laws.MakeOwn
set_option linter.all false
abbrev uaa:=@Array.getElem?_setIfInBounds_ne
abbrev uab:=@List.eq_nil_of_length_eq_zero
abbrev uac:=@Array.getD_eq_getD_getElem?
abbrev uad:=@Array.getElem?_append_right
abbrev uae:=@List.getElem?_append_right
abbrev uaf:=@Array.getElem?_eq_some_iff
abbrev uag:=@Int.fdiv_eq_ediv_of_nonneg
abbrev uah:=@List.getD_eq_getElem?_getD
abbrev uai:=@Array.getElem?_append_left
abbrev uaj:=@List.getElem?_append_left
abbrev uak:=@List.getElem?_eq_some_iff
abbrev ual:=@List.drop_eq_getElem_cons
abbrev uam:=@Array.getElem?_eq_getElem
abbrev uan:=@List.getLast?_eq_getElem?
abbrev uao:=@List.mem_or_eq_of_mem_set
abbrev uap:=@List.getElem?_eq_getElem
abbrev uaq:=@Option.isSome_iff_exists
abbrev uar:=@Array.getElem?_replicate
abbrev uas:=@List.take_append_getElem
abbrev uat:=@List.getElem?_cons_zero
abbrev uau:=@decide_eq_false_iff_not
abbrev uav:=@List.pairwise_lt_range'
abbrev uaw:=@Nat.add_sub_cancel_left
abbrev uax:=@List.pairwise_singleton
abbrev uay:=@List.length_eq_zero_iff
abbrev uaz:=@Array.getElem?_eq_none
abbrev ua0:=@List.drop_eq_nil_of_le
abbrev ua1:=@List.take_of_length_le
abbrev ua2:=@List.getElem?_eq_none
abbrev ua3:=@Array.getElem?_toList
abbrev ua4:=@List.mem_append_right
abbrev ua5:=@List.length_singleton
abbrev ua6:=@List.mem_of_mem_erase
abbrev ua7:=@List.mem_iff_getElem?
abbrev ua8:=@List.take_append_drop
abbrev ua9:=@Bool.cond_false_right
abbrev uba:=@Bool.and_eq_false_iff
abbrev ubb:=@Go.World.cell?_of_block
abbrev ubc:=@Nat.mul_le_mul_right
abbrev ubd:=@Array.toArray_toList
abbrev ube:=@List.mem_of_getElem?
abbrev ubf:=@Array.mem_toList_iff
abbrev ubg:=@List.mem_cons_of_mem
abbrev ubh:=@List.mem_append_left
abbrev ubi:=@List.erase_cons_head
abbrev ubj:=@List.range_eq_range'
abbrev ubk:=@Array.replicate_succ
abbrev ubl:=@Array.replicate_zero
abbrev ubm:=@Bool.or_eq_false_iff
abbrev ubn:=@List.pairwise_append
abbrev ubo:=@List.mem_of_mem_take
abbrev ubp:=@List.mem_of_mem_drop
abbrev ubq:=@List.getElem?_of_mem
abbrev ubr:=@Go.Value.pointer.injEq
abbrev ubs:=@Array.length_toList
abbrev ubt:=@Go.World.grownBy_alloc
abbrev ubu:=@beq_eq_false_iff_ne
abbrev ubv:=@List.append_toArray
abbrev ubw:=@Bool.cond_true_left
abbrev ubx:=@List.length_pos_iff
abbrev uby:=@Nat.add_sub_cancel
abbrev ubz:=@List.getElem?_drop
abbrev ub0:=@List.getElem?_take
abbrev ub1:=@Bool.false_eq_true
abbrev ub2:=@Int.natCast_nonneg
abbrev ub3:=@Nat.eq_zero_or_pos
abbrev ub4:=@List.length_append
abbrev ub5:=@Go.grownCap_le_maxLen
abbrev ub6:=@Go.World.grownBy.refl
abbrev ub7:=@List.mem_filterMap
abbrev ub8:=@List.pairwise_cons
abbrev ub9:=@Nat.lt_of_lt_of_le
abbrev uca:=@List.mem_cons_self
abbrev ucb:=@Nat.lt_of_le_of_lt
abbrev ucc:=@Go.calls_of_wp_defers
abbrev ucd:=@List.mem_singleton
abbrev uce:=@Go.World.size_setCell
abbrev ucf:=@of_decide_eq_false
abbrev ucg:=@Array.ext_getElem?
abbrev uch:=@List.filter_append
abbrev uci:=@Go.heap_setCell_other
abbrev ucj:=@Option.some.injEq
abbrev uck:=@Go.Result.andThen_ok
abbrev ucl:=@Go.run_equalIn_bool'
abbrev ucm:=@List.getElem?_map
abbrev ucn:=@Array.size_append
abbrev uco:=@List.size_toArray
abbrev ucp:=@List.append_assoc
abbrev ucq:=@Go.World.ownsRow_nil
abbrev ucr:=@Nat.lt_trichotomy
abbrev ucs:=@decide_eq_true_eq
abbrev uct:=@Bool.not_eq_true'
abbrev ucu:=@List.mem_range'_1
abbrev ucv:=@of_decide_eq_true
abbrev ucw:=@List.push_toArray
abbrev ucx:=@Bool.eq_false_iff
abbrev ucy:=@Int.toNat_natCast
abbrev ucz:=@Go.heap_setCell_same
abbrev uc0:=@Go.setCell_eq_setRow
abbrev uc1:=@List.any_eq_false
abbrev uc2:=@List.cons_append
abbrev uc3:=@List.length_take
abbrev uc4:=@List.length_drop
abbrev uc5:=@Array.toList_inj
abbrev uc6:=@List.all_eq_true
abbrev uc7:=@List.length_cons
abbrev uc8:=@Go.RowKit.Below.heap_alloc
abbrev uc9:=@Bool.and_eq_true
abbrev uda:=@Option.getD_some
abbrev udb:=@List.range'_succ
abbrev udc:=@Go.IntKind.wrap_i64
abbrev udd:=@List.countP_cons
abbrev ude:=@Go.World.size_alloc
abbrev udf:=@decide_eq_decide
abbrev udg:=@List.getElem_mem
abbrev udh:=@List.not_mem_nil
abbrev udi:=@Int.ediv_nonneg
abbrev udj:=@List.length_nil
abbrev udk:=@List.nil_append
abbrev udl:=@List.all_append
abbrev udm:=@List.length_set
abbrev udn:=@Nat.min_eq_left
abbrev udo:=@List.cons.injEq
abbrev udp:=@List.append_nil
abbrev udq:=@List.mem_append
abbrev udr:=@Bool.or_eq_true
abbrev uds:=@Nat.zero_lt_one
abbrev udt:=@decide_eq_false
abbrev udu:=@List.map_append
abbrev udv:=@Bool.eq_iff_iff
abbrev udw:=@List.length_zip
abbrev udx:=@List.take_left'
abbrev udy:=@List.drop_left'
abbrev udz:=@List.range_succ
abbrev ud0:=@List.length_map
abbrev ud1:=@Option.some.inj
abbrev ud2:=@ne_of_beq_false
abbrev ud3:=@Go.run_underlying
abbrev ud4:=@Go.eqGuard_at_int
abbrev ud5:=@Go.heap_alloc_new
abbrev ud6:=@List.take_take
abbrev ud7:=@List.mem_range
abbrev ud8:=@decide_eq_true
abbrev ud9:=@Int.mul_nonneg
abbrev uea:=@Bool.and_assoc
abbrev ueb:=@Bool.and_false
abbrev uec:=@Nat.mul_le_mul
abbrev ued:=@List.drop_zero
abbrev uee:=@Prod.mk.injEq
abbrev uef:=@Nat.add_assoc
abbrev ueg:=@List.mem_cons
abbrev ueh:=@List.all_cons
abbrev uei:=@List.map_cons
abbrev uej:=@Bool.true_and
abbrev uek:=@Bool.and_true
abbrev uel:=@Nat.mul_assoc
abbrev uem:=@Int.lt_irrefl
abbrev uen:=@Nat.le_trans
abbrev ueo:=@Nat.lt_or_ge
abbrev uep:=@Nat.add_comm
abbrev ueq:=@Int.sub_zero
abbrev uer:=@Go.Sem.run_bind
abbrev ues:=@Int.le_of_lt
abbrev uet:=@Go.Sem.run_pure
abbrev ueu:=@Nat.mul_comm
abbrev uev:=@Nat.succ_mul
abbrev uew:=@Nat.zero_add
abbrev uex:=@Nat.add_zero
abbrev uey:=@Go.setRow_other
abbrev uez:=@Int.mul_comm
abbrev ue0:=@Int.lt_trans
abbrev ue1:=@Go.bodyPost_ret
abbrev ue2:=@Go.results_none
abbrev ue3:=@Int.le_trans
abbrev ue4:=@Int.le_of_eq
abbrev ue5:=@Int.add_zero
abbrev ue6:=@Nat.le_of_lt
abbrev ue7:=@List.mem_map
abbrev ue8:=@Go.Addr.add_lit
abbrev ue9:=@Go.bodyPost_end
abbrev ufa:=@Nat.le_refl
abbrev ufb:=@Int.le_refl
abbrev ufc:=@Nat.add_mul
abbrev ufd:=@Go.setRow_heap
abbrev ufe:=@Go.calls_of_wp
abbrev uff:=@Go.leaves_cons
abbrev ufg:=@Nat.zero_le
abbrev ufh:=@beq_iff_eq
abbrev ufi:=@Go.RowKit.Below.refl
abbrev ufj:=@cond_false
abbrev ufk:=@Int.not_le
abbrev ufl:=@Int.not_lt
abbrev ufm:=@bne_iff_ne
abbrev ufn:=@Go.info_parts
abbrev ufo:=@Array.ext
abbrev ufp:=@Go.mem_ready
abbrev ufq:=@Go.wp_region
abbrev ufr:=@cond_true
abbrev ufs:=@and_self
abbrev uft:=@and_true
abbrev ufu:=@if_false
abbrev ufv:=@congrArg
abbrev ufw:=@Prod.ext
abbrev I6:=Go.IntKind.i64
theorem uT:True:=⟨⟩
namespace Go.Ab
open Go Go.RowKit
inductive Ty where
 |int (k:IntKind)
 |bool
 |str
 |sl (e:Ty)
 |unit
 |pair (a b:Ty)
 |fm (es:List (Int×Nat))
 |ic (es:List (Int×Nat)) (t:Ty)
 |fc (f:Option Nat)
 deriving DecidableEq
@[reducible] def Ty.den:Ty->Type
 |.int _=>Int
 |.bool=>Bool
 |.str=>ByteArray
 |.sl e=>List e.den
 |.unit=>Unit
 |.pair a b=>a.den×b.den
 |.fm _=>Unit
 |.ic _ t=>Int×t.den
 |.fc _=>Unit
def Ty.size:Ty->Nat
 |.unit=>0
 |.pair a b=>a.size+b.size
 |_=>1
def Ty.wide:Ty->Bool
 |.unit | .pair _ _=>true
 |_=>false
def Ty.dflt:(t:Ty)->t.den
 |.int _=>(0:Int)
 |.bool=>false
 |.str=>ByteArray.empty
 |.sl _=>[]
 |.unit=>()
 |.pair a b=>(a.dflt,b.dflt)
 |.fm _=>()
 |.ic _ t=>(0,t.dflt)
 |.fc _=>()
def dq (es:List (Int×Nat)) (k:Int):Option Nat:=(es.find? (λx=>x.1==k)).map (·.2)
def inR (k:IntKind) (n:Int):Prop:=k.min<=n/\n<=k.max
def aD (w:World) (F:Nat->Prop):(t:Ty)->t.den->(Nat->Value->Prop)->Prop
 |.int k,n,g=>g 0 (.int k n)/\inR k n
 |.bool,b,g=>g 0 (.bool b)
 |.str,s,g=>g 0 (.string s)/\s.size<=maxLen
 |.sl e,l,g=>∃ A c,g 0 (.slice A l.length c)/\l.length<=c/\c<=maxLen /\
   ∀ i x,l[i]? = some x->∃ ad,A=some ad/\F ad.block/\aD w F e x (λj u=>w.cell? (ad.add (i*e.size+j))=some u)
 |.unit,_,_=>True
 |.pair a b,x,g=>aD w F a x.1 g/\aD w F b x.2 (λj u=>g (a.size+j) u)
 |.fm es,_,g=>∃ r arr ck,g 0 (.map (some r))/\F r/\w.heap[r]? = some (.map arr ck)/\arr.toList.map (λe=>(e.key,e.val))=es.map (λx=>(Value.int .i64 x.1,Value.func (.func x.2) #[] #[]))
 |.ic es t,x,g=>(∃ ty u,dq es x.1=some ty/\g 0 (.iface ty u)/\u.cells.size=t.size/\(t.wide=true↔∃ cs,u = .agg cs)/\aD w F t x.2 (λj v=>u.cells[j]? = some v))\/(dq es x.1=none/\g 0 .nilIface)
 |.fc f,_,g=>∃ u,g 0 u/\u.oneCell'=true/\∀ k,f=some k->u = .func (.func k) #[] #[]
def Wf:(t:Ty)->t.den->Prop
 |.int k,n=>inR k n
 |.bool,_=>True
 |.str,s=>s.size<=maxLen
 |.sl e,l=>l.length<=maxLen/\∀ (i:Nat) (x:e.den),l[i]? = some x->Wf e x
 |.unit,_=>True
 |.pair a b,x=>Wf a x.1/\Wf b x.2
 |.fm _,_=>True
 |.ic _ _,_=>True
 |.fc _,_=>True
def aD.wf {w:World} {F:Nat->Prop}:{t:Ty} -> {x:t.den} -> {g:Nat->Value->Prop}->aD w F t x g->Wf t x
 |.int _,_,_,h=>h.2
 |.bool,_,_,_=>trivial
 |.str,_,_,h=>h.2
 |.sl _,_,_,h=>by
  obtain⟨A,c,_,h1,h2,h3⟩:=h;exact⟨uen h1 h2,λi x hi=>by
   obtain⟨ad,_,_,h4⟩:=h3 i x hi;exact aD.wf h4⟩
 |.unit,_,_,_=>trivial
 |.pair _ _,_,_,h=>⟨aD.wf h.1,aD.wf h.2⟩
 |.fm _,_,_,_=>trivial
 |.ic _ _,_,_,_=>trivial
 |.fc _,_,_,_=>trivial
def aD.mono {w w':World} {F F':Nat->Prop} (hF:∀ b,F b->F' b) (hw:∀ b,F b->w'.heap[b]? = w.heap[b]?) :
  {t:Ty} -> {x:t.den} -> {g g':Nat->Value->Prop}->(∀ j u,j<t.size->g j u->g' j u)->aD w F t x g->aD w' F' t x g'
 |.int _,_,_,_,hg,h=>⟨hg _ _ (by simp[Ty.size]) h.1,h.2⟩
 |.bool,_,_,_,hg,h=>hg _ _ (by simp[Ty.size]) h
 |.str,_,_,_,hg,h=>⟨hg _ _ (by simp[Ty.size]) h.1,h.2⟩
 |.sl e,_,_,_,hg,h=>by
  obtain⟨A,c,h0,h1,h2,h3⟩:=h;refine⟨A,c,hg _ _ (by simp[Ty.size]) h0,h1,h2,λi x hi=>?_⟩;obtain⟨ad,ha,hf,h4⟩:=h3 i x hi;refine⟨ad,ha,hF _ hf,aD.mono hF hw (λj u _ hc=>?_) h4⟩;rw[<- hc];refine ubb ?_;have:(ad.add (i*e.size+j)).block=ad.block:=by unfold Addr.add; split<;>rfl
  rw[this];exact hw _ hf
 |.unit,_,_,_,_,_=>trivial
 |.pair a b,_,_,_,hg,h=>
  ⟨aD.mono hF hw (λj u hj hu=>hg j u (by simp only[Ty.size]; omega) hu) h.1,
   aD.mono hF hw (λj u hj hu=>hg _ u (by simp only[Ty.size]; omega) hu) h.2⟩
 |.fm _,_,_,_,hg,h=>by
  obtain⟨r,arr,ck,h1,h2,h3,h4⟩:=h;exact⟨r,arr,ck,hg _ _ (by simp[Ty.size]) h1,hF r h2,(hw r h2).trans h3,h4⟩
 |.ic es t,_,_,_,hg,h=>by
  rcases h with ⟨ty,u,h1,h2,h3,h4,h5⟩|⟨h1,h2⟩
  ·exact .inl ⟨ty,u,h1,hg _ _ (by simp[Ty.size]) h2,h3,h4,aD.mono hF hw (λ_ _ _ h=>h) h5⟩
  ·exact .inr ⟨h1,hg _ _ (by simp[Ty.size]) h2⟩
 |.fc f,_,_,_,hg,h=>by
  obtain⟨u,h1,h2,h3⟩:=h;exact⟨u,hg _ _ (by simp[Ty.size]) h1,h2,h3⟩
def bq (w:World) (F:Nat->Prop) (t:Ty) (x:t.den) (v:Value):Prop:=
 v.cells.size=t.size/\(t.wide=true↔∃ cs,v = .agg cs)/\aD w F t x (λj u=>v.cells[j]? = some u)
def bq.mono {w w':World} {F F':Nat->Prop} (hF:∀ b,F b->F' b) (hw:∀ b,F b->w'.heap[b]? = w.heap[b]?) {t:Ty} {x:t.den} {v:Value}
  (h:bq w F t x v):bq w' F' t x v:=⟨h.1,h.2.1,h.2.2.mono hF hw (λ_ _ _ h=>h)⟩
@[reducible] def ae:List Ty->Type
 |[]=>Unit
 |t::r=>t.den×ae r
def eK (w:World) (F:Nat->Prop):(ts:List Ty)->ae ts->List Value->Prop
 |[],_,vs=>vs=[]
 |t::r,x,vs=>∃ v vs',vs=v::vs'/\bq w F t x.1 v/\eK w F r x.2 vs'
def eK.mono {w w':World} {F F':Nat->Prop} (hF:∀ b,F b->F' b) (hw:∀ b,F b->w'.heap[b]? = w.heap[b]?):{ts:List Ty} -> {x:ae ts} -> {vs:List Value}->eK w F ts x vs->eK w' F' ts x vs
 |[],_,_,h=>h
 |_::_,_,_,⟨v,vs',h1,h2,h3⟩=>⟨v,vs',h1,h2.mono hF hw,eK.mono hF hw h3⟩
def kB:(ts:List Ty)->ae ts->Prop
 |[],_=>True
 |t::r,x=>Wf t x.1/\kB r x.2
def eK.wf {w:World} {F:Nat->Prop}:{ts:List Ty} -> {x:ae ts} -> {vs:List Value}->eK w F ts x vs->kB ts x
 |[],_,_,_=>trivial
 |_::_,_,_,⟨_,_,_,h2,h3⟩=>⟨h2.2.2.wf,eK.wf h3⟩
def ja (w:World) (F:Nat->Prop):(ts:List Ty)->ae ts->Value->Prop
 |[t],x,v=>bq w F t x.1 v
 |ts,x,v=>∃ vs:Array Value,v = .tuple vs/\eK w F ts x vs.toList
def fy (w:World) (F:Nat->Prop) (rs:List Ty) (y:ae rs) (e:Ending) (w':World):Prop:=
 ∃ v F',e = .returned v/\Below w.heap.size w w'/\(∀ b,F b->F' b)/\(∀ b,F' b->(F b\/w.heap.size<=b)/\b<w'.heap.size)/\ja w' F' rs y v
def jJ (P:Program) (w:World) (F:Nat->Prop) (ps rs:List Ty) (g:ae ps->ae rs) (v:Value):Prop:=
 ∃ f caps,v = .func (.func f) #[] caps/\(∀ args w2,(callFunc f args).run P w2 = .ok (.enter f args) w2)/\∀ (w1:World) (F1:Nat->Prop),(∀ b,F b->F1 b/\w1.heap[b]? = w.heap[b]?)->(∀ b,F1 b->b<w1.heap.size) ->
  ∀ xs vs,eK w1 F1 ps xs vs->Calls P f (vs.toArray++caps) w1 (fy w1 F1 rs (g xs))
def jJ.mono {P:Program} {w w':World} {F F':Nat->Prop} (hF:∀ b,F b->F' b) (hw:∀ b,F b->w'.heap[b]? = w.heap[b]?) {ps rs:List Ty} {g:ae ps->ae rs} {v:Value}
  (h:jJ P w F ps rs g v):jJ P w' F' ps rs g v:=by
 obtain⟨f,caps,h1,h3,h2⟩:=h;exact⟨f,caps,h1,h3,λw1 F1 hf hb xs vs hr=>h2 w1 F1 (λb hb'=>⟨(hf b (hF b hb')).1,(hf b (hF b hb')).2.trans (hw b hb')⟩) hb xs vs hr⟩
def lr (P:Program) (w:World) (F:Nat->Prop) (ps rs:List Ty) (g:ae ps->ae rs) (D:ae ps->Prop) (v:Value):Prop:=
 ∃ f caps,v = .func (.func f) #[] caps/\(∀ args w2,(callFunc f args).run P w2 = .ok (.enter f args) w2)/\∀ (w1:World) (F1:Nat->Prop),(∀ b,F b->F1 b/\w1.heap[b]? = w.heap[b]?)->(∀ b,F1 b->b<w1.heap.size) ->
  ∀ xs vs,D xs->eK w1 F1 ps xs vs->Calls P f (vs.toArray++caps) w1 (fy w1 F1 rs (g xs))
def lr.mono {P:Program} {w w':World} {F F':Nat->Prop} (hF:∀ b,F b->F' b) (hw:∀ b,F b->w'.heap[b]? = w.heap[b]?) {ps rs:List Ty} {g:ae ps->ae rs} {D:ae ps->Prop} {v:Value}
  (h:lr P w F ps rs g D v):lr P w' F' ps rs g D v:=by
 obtain⟨f,caps,h1,h3,h2⟩:=h;exact⟨f,caps,h1,h3,λw1 F1 hf hb xs vs hd hr=>h2 w1 F1 (λb hb'=>⟨(hf b (hF b hb')).1,(hf b (hF b hb')).2.trans (hw b hb')⟩) hb xs vs hd hr⟩
inductive AC where
 |dead
 |int (k:IntKind) (n:Int)
 |bool (b:Bool)
 |str (s:ByteArray)
 |nil
 |sl (t:Ty) (l:List t.den)
 |slx (t:Ty) (l:List t.den)
 |own (id:Nat)
 |ptr (id off:Nat)
 |sptr (cs:List AC)
 |fn (f:FuncId) (caps:List AC)
 |fv (ps rs:List Ty) (g:ae ps->ae rs)
 |pv (ps rs:List Ty) (g:ae ps->ae rs) (D:ae ps->Prop)
 |mp (es:List (Int×Nat))
 |fs (es:List (Int×Nat)) (n:Int)
 |ic (es:List (Int×Nat)) (t:Ty) (x:Int×t.den)
inductive AV where
 |dead
 |c (a:AC)
 |agg (cs:List AC)
 |tup (vs:List AV)
 |optr (id sz i off:Nat)
 |aptr (base:AC) (n:Nat) (i:Int)
 |maybe (g:Tmp) (want:Bool) (v:AV)
inductive Ob where
 |gone
 |box (ty:TypeId) (cs:List AC)
 |fbox (cs:List AC)
 |arr (ety:TypeId) (t:Ty) (l:List t.den)
 |frz (t:Ty) (l:List t.den)
def enc:(t:Ty)->t.den->List AC
 |.int k,n=>[.int k n]
 |.bool,b=>[.bool b]
 |.str,s=>[.str s]
 |.sl e,l=>[.sl e l]
 |.unit,_=>[]
 |.pair a b,x=>enc a x.1++enc b x.2
 |.fm es,_=>[.mp es]
 |.ic es t,x=>[.ic es t x]
 |.fc (some f),_=>[.fn f []]
 |.fc none,_=>[.dead]
def oP:{t:Ty}->(x:t.den)->(enc t x).length=t.size
 |.int _,_ | .bool,_ | .str,_ | .sl _,_ | .unit,_ | .fm _,_ | .ic _ _,_ | .fc (some _),_ | .fc none,_=>rfl
 |.pair a b,x=>by simp[enc,Ty.size,oP x.1,oP x.2]
def dw {t u:Ty} (h:t=u) (l:List t.den):List u.den:=h ▸ l
def zf (k:IntKind):List AC->Option (Int×List AC)
 |.int k' n::r=>if k=k' then some (n,r) else none
 |_=>none
def zd:List AC->Option (Bool×List AC)
 |.bool b::r=>some (b,r)
 |_=>none
def zh:List AC->Option (ByteArray×List AC)
 |.str s::r=>some (s,r)
 |_=>none
def zg (e:Ty):List AC->Option (List e.den×List AC)
 |.sl t l::r=>if h:t=e then some (dw h l,r) else none
 |.slx t l::r=>if h:t=e then some (dw h l,r) else none
 |.nil::r=>some ([],r)
 |_=>none
def CM (es:List (Int×Nat)):List AC->Option (Unit×List AC)
 |.mp es'::r=>if es'=es then some ((),r) else none
 |_=>none
def qcd {t u:Ty} (h:t=u) (x:Int×t.den):Int×u.den:=h ▸ x
def CL (es:List (Int×Nat)) (t:Ty):List AC->Option ((Int×t.den)×List AC)
 |.ic es' t' x::r=>if h:t'=t then if es'=es then some (qcd h x,r) else none else none
 |_=>none
def CK (f:Option Nat):List AC->Option (Unit×List AC)
 |.fn f' []::r=>if f=some f' then some ((),r) else none
 |.dead::r=>if f=none then some ((),r) else none
 |_=>none
def dec:(t:Ty)->List AC->Option (t.den×List AC)
 |.int k,cs=>zf k cs
 |.bool,cs=>zd cs
 |.str,cs=>zh cs
 |.sl e,cs=>zg e cs
 |.unit,cs=>some ((),cs)
 |.pair a b,cs=>match dec a cs with
  |some (x,r')=>match dec b r' with
   |some (y,r'')=>some ((x,y),r'')
   |none=>none
  |none=>none
 |.fm es,cs=>CM es cs
 |.ic es t,cs=>CL es t cs
 |.fc f,cs=>CK f cs
inductive PT where
 |d (t:Ty)
 |ptr (t:Ty)
 |fn (ps rs:List Ty)
 |pf (ps rs:List Ty)
 |pfn (ps rs:List Ty)
 |pk (f:Nat)
 deriving DecidableEq
@[reducible] def PT.den:PT->Type
 |.d t=>t.den
 |.ptr t=>t.den
 |.fn ps rs=>ae ps->ae rs
 |.pf ps rs=>(ae ps->ae rs)×(ae ps->Prop)
 |.pfn ps rs=>ae ps->ae rs
 |.pk _=>Unit
@[reducible] def aq:List PT->Type
 |[]=>Unit
 |t::r=>t.den×aq r
def Gu (P:Program) (w:World) (F:Nat->Prop):(p:PT)->p.den->Value->Prop
 |.d t,x,v=>bq w F t x v
 |.ptr t,x,v=>∃ ad,v = .pointer (some ad)/\F ad.block/\aD w F t x (λj u=>w.cell? (ad.add j)=some u)
 |.fn ps rs,g,v=>jJ P w F ps rs g v
 |.pf ps rs,g,v=>lr P w F ps rs g.1 g.2 v
 |.pfn ps rs,g,v=>∃ ad u,v = .pointer (some ad)/\F ad.block/\w.cell? (ad.add 0)=some u/\jJ P w F ps rs g u
 |.pk f,_,v=>∃ ad,v = .pointer (some ad)/\F ad.block/\w.cell? (ad.add 0)=some (.func (.func f) #[] #[])
def dX (P:Program) (w:World) (F:Nat->Prop):(ts:List PT)->aq ts->List Value->Prop
 |[],_,vs=>vs=[]
 |t::r,x,vs=>∃ v vs',vs=v::vs'/\Gu P w F t x.1 v/\dX P w F r x.2 vs'
def aE:List Prop->Prop
 |[]=>True
 |[p]=>p
 |p::r=>p/\aE r
def jS {p:Prop} {r:List Prop}:aE (p::r)↔p/\aE r:=by
 cases r with
 |nil=>exact⟨λh=>⟨h,uT⟩,λh=>h.1⟩
 |cons q r=>exact Iff.rfl
def lB {a b:List Prop}:aE (a++b)↔aE a/\aE b:=by
 induction a with
 |nil=>exact⟨λh=>⟨uT,h⟩,λh=>h.2⟩
 |cons p a ih=>rw[uc2,jS,jS,ih,and_assoc]
structure Ct where
 ps:List PT
 rs:List Ty
 f:aq ps->ae rs
 ok:aq ps->List Prop
def aa (P:Program) (fid:FuncId) (ct:Ct):Prop:=
 (∀ args w,(callFunc fid args).run P w = .ok (.enter fid args) w) /\
 ∀ (w:World) (F:Nat->Prop) xs vs,(∀ b,F b->b<w.heap.size)->dX P w F ct.ps xs vs->aE (ct.ok xs)->Calls P fid vs.toArray w (fy w F ct.rs (ct.f xs))
structure PV where
 ty:TypeId
 k:IntKind
 n:Int
def PV.val (p:PV):Value:=if p.ty<1000000 then .iface p.ty (.int p.k p.n) else .iface (p.ty-1000000) (.agg #[.int p.k p.n])
def W6 {p:PV} (h:p.ty<1000000):p.val = .iface p.ty (.int p.k p.n):=if_pos h
def W5 {p:PV} {T:TypeId} (h:p.ty=T+1000000):p.val = .iface T (.agg #[.int p.k p.n]):=by
 unfold PV.val;have hn:¬ p.ty<1000000:=by rw[h]; exact Nat.not_lt.2 (Nat.le_add_left _ _)
 have he:p.ty-1000000=T:=by rw[h]; exact uby T 1000000
 rw[if_neg hn,he]
structure Pc where
 ps:List PT
 rs:List Ty
 f:aq ps->ae rs
 bad:aq ps->Bool
 pv:aq ps->PV
 ok:aq ps->List Prop
def kz (P:Program) (fid:FuncId) (ct:Pc):Prop:=
 (∀ args w,(callFunc fid args).run P w = .ok (.enter fid args) w) /\
 ∀ (w:World) (F:Nat->Prop) xs vs,(∀ b,F b->b<w.heap.size)->dX P w F ct.ps xs vs->aE (ct.ok xs)->Calls P fid vs.toArray w λe w'=>
  (ct.bad xs=false/\fy w F ct.rs (ct.f xs) e w')\/(ct.bad xs=true/\e = .panicked [{ v:=(ct.pv xs).val,recovered:=false }]/\Below w.heap.size w w')
structure St where
 n:Nat
 sl:Nat->AV
 mem:Nat->Option Ob
 gs:Nat->AV
def aA (mem:Nat->Option Ob) (γ:Nat->Value) (id:Nat) (v:Value):Prop:=
 match mem id with
 |none=>False
 |some .gone=>True
 |some _=>v=γ id
def iP:Option (Int×Nat)->Value
 |some x=>.func (.func x.2) #[] #[]
 |none=>.nilFunc
section
variable (P:Program) (w:World) (F:Nat->Prop) (R:Nat->Value->Prop)
mutual
def bh:AC->Value->Prop
 |.dead,_=>True
 |.int k n,v=>v = .int k n/\inR k n
 |.bool b,v=>v = .bool b
 |.str s,v=>v = .string s/\s.size<=maxLen
 |.nil,v=>v = .slice none 0 0
 |.sl t l,v=>aD w F (.sl t) l (λ_ u=>u=v)
 |.slx t l,v=>∃ A,v = .slice A l.length l.length/\aD w F (.sl t) l (λ_ u=>u=v)
 |.own id,v=>R id v
 |.ptr id off,v=>∃ b,R id (.pointer (some ⟨b,0,none⟩))/\v = .pointer (some ⟨b,off,none⟩)
 |.sptr cs,v=>∃ ad,v = .pointer (some ad)/\F ad.block/\aR cs (λj u=>w.cell? (ad.add j)=some u)
 |.fn f caps,v=>∃ vs:Array Value,v = .func (.func f) #[] vs/\vs.size=caps.length/\aR caps (λj u=>vs[j]? = some u)
 |.fv ps rs g,v=>jJ P w F ps rs g v
 |.pv ps rs g D,v=>lr P w F ps rs g D v
 |.mp es,v=>∃ r arr ck,v = .map (some r)/\F r/\w.heap[r]? = some (.map arr ck)/\arr.toList.map (λe=>(e.key,e.val))=es.map (λx=>(Value.int .i64 x.1,Value.func (.func x.2) #[] #[]))
 |.fs es n,v=>v=iP (es.find? (λx=>x.1==n))
 |.ic es t x,v=>aD w F (.ic es t) x (λ_ u=>u=v)
def aR:List AC->(Nat->Value->Prop)->Prop
 |[],_=>True
 |c::r,g=>(∃ u,g 0 u/\u.oneCell'=true/\bh c u)/\aR r (λj u=>g (j+1) u)
end
mutual
def aM:AV->Value->Prop
 |.dead,_=>True
 |.c a,v=>v.oneCell'=true/\bh P w F R a v
 |.agg cs,v=>∃ arr:Array Value,v = .agg arr/\arr.size=cs.length/\aR P w F R cs (λj u=>arr[j]? = some u)
 |.tup vs,v=>∃ arr:Array Value,v = .tuple arr/\arr.size=vs.length/\mJ vs (λj u=>arr[j]? = some u)
 |.optr id sz i off,v=>∃ A n c,R id (.slice (some A) n c)/\v = .pointer (some (A.add (i*sz+off)))
 |.aptr base n i,v=>∃ ad,bh P w F R base (.pointer (some ad))/\0<=i/\i<n/\v = .pointer (some (ad.add i.toNat))
 |.maybe _ _ _,_=>False
def mJ:List AV->(Nat->Value->Prop)->Prop
 |[],_=>True
 |c::r,g=>(∃ u,g 0 u/\aM c u)/\mJ r (λj u=>g (j+1) u)
end
end
section
variable {P:Program} {w w':World} {F F':Nat->Prop} {R R':Nat->Value->Prop}
mutual
def bh.mono (hF:∀ b,F b->F' b) (hw:∀ b,F b->w'.heap[b]? = w.heap[b]?) (hR:∀ id v,R id v->R' id v):(c:AC) -> {v:Value}->bh P w F R c v->bh P w' F' R' c v
 |.dead,_,_=>trivial
 |.int _ _,_,h=>h
 |.bool _,_,h=>h
 |.str _,_,h=>h
 |.nil,_,h=>h
 |.sl _ _,_,h=>by
  simp only[bh] at h |-;exact aD.mono (t:=.sl _) hF hw (λ_ _ _ h=>h) h
 |.slx _ _,_,⟨A,h1,h2⟩=>⟨A,h1,aD.mono (t:=.sl _) hF hw (λ_ _ _ h=>h) h2⟩
 |.own id,_,h=>hR id _ h
 |.ptr id off,_,⟨u,h1,h2⟩=>⟨u,hR _ _ h1,h2⟩
 |.sptr cs,_,⟨ad,h1,h2,h3⟩=>⟨ad,h1,hF _ h2,aR.mono hF hw hR cs (λj u hu=>by
   rw[<- hu];refine ubb ?_;have:(ad.add j).block=ad.block:=by unfold Addr.add; split<;>rfl
   rw[this];exact hw _ h2) h3⟩
 |.fn f caps,_,⟨vs,h1,h2,h3⟩=>⟨vs,h1,h2,aR.mono hF hw hR caps (λ_ _ h=>h) h3⟩
 |.fv _ _ _,_,h=>by
  simp only[bh] at h |-;exact jJ.mono hF hw h
 |.pv _ _ _ _,_,h=>by
  simp only[bh] at h |-;exact lr.mono hF hw h
 |.mp _,_,h=>by
  obtain⟨r,arr,ck,h1,h2,h3,h4⟩:=h;exact⟨r,arr,ck,h1,hF r h2,(hw r h2).trans h3,h4⟩
 |.fs _ _,_,h=>h
 |.ic _ _ _,_,h=>by
  simp only[bh] at h |-;exact aD.mono (t:=.ic _ _) hF hw (λ_ _ _ h=>h) h
def aR.mono (hF:∀ b,F b->F' b) (hw:∀ b,F b->w'.heap[b]? = w.heap[b]?) (hR:∀ id v,R id v->R' id v) :
  (cs:List AC) -> {g g':Nat->Value->Prop}->(∀ j u,g j u->g' j u)->aR P w F R cs g->aR P w' F' R' cs g'
 |[],_,_,_,_=>trivial
 |c::r,_,_,hg,⟨⟨u,h1,h2,h3⟩,h4⟩=>⟨⟨u,hg _ _ h1,h2,bh.mono hF hw hR c h3⟩,aR.mono hF hw hR r (λ_ _ h=>hg _ _ h) h4⟩
end
mutual
def aM.mono (hF:∀ b,F b->F' b) (hw:∀ b,F b->w'.heap[b]? = w.heap[b]?) (hR:∀ id v,R id v->R' id v):(c:AV) -> {v:Value}->aM P w F R c v->aM P w' F' R' c v
 |.dead,_,_=>trivial
 |.c a,_,h=>⟨h.1,bh.mono hF hw hR a h.2⟩
 |.agg cs,_,⟨arr,h1,h2,h3⟩=>⟨arr,h1,h2,aR.mono hF hw hR cs (λ_ _ h=>h) h3⟩
 |.tup vs,_,⟨arr,h1,h2,h3⟩=>⟨arr,h1,h2,mJ.mono hF hw hR vs (λ_ _ h=>h) h3⟩
 |.optr _ _ _ _,_,⟨A,n,c,h1,h2⟩=>⟨A,n,c,hR _ _ h1,h2⟩
 |.aptr base _ _,_,⟨ad,h1,h2⟩=>⟨ad,bh.mono hF hw hR base h1,h2⟩
 |.maybe _ _ _,_,h=>h
def mJ.mono (hF:∀ b,F b->F' b) (hw:∀ b,F b->w'.heap[b]? = w.heap[b]?) (hR:∀ id v,R id v->R' id v) :
  (cs:List AV) -> {g g':Nat->Value->Prop}->(∀ j u,g j u->g' j u)->mJ P w F R cs g->mJ P w' F' R' cs g'
 |[],_,_,_,_=>trivial
 |c::r,_,_,hg,⟨⟨u,h1,h3⟩,h4⟩=>⟨⟨u,hg _ _ h1,aM.mono hF hw hR c h3⟩,mJ.mono hF hw hR r (λ_ _ h=>hg _ _ h) h4⟩
end
end
def aR.at_ {P:Program} {w:World} {F:Nat->Prop} {R:Nat->Value->Prop}:{cs:List AC} -> {g:Nat->Value->Prop}->aR P w F R cs g ->
  ∀ {j:Nat} {c:AC},cs[j]? = some c->∃ u,g j u/\u.oneCell'=true/\bh P w F R c u
 |[],_,_,_,_,h=>by simp at h
 |_::_,_,h,0,_,hc=>by simp at hc; subst hc; exact h.1
 |_::_,_,h,j+1,_,hc=>aR.at_ h.2 (by simpa using hc)
def pK {P:Program} {w:World} {F:Nat->Prop} {R:Nat->Value->Prop}:(cs:List AC) -> {g:Nat->Value->Prop} ->
  (∀ (j:Nat) (c:AC),cs[j]? = some c->∃ u,g j u/\u.oneCell'=true/\bh P w F R c u)->aR P w F R cs g
 |[],_,_=>trivial
 |c::r,_,h=>⟨h 0 c rfl,pK r (λj c' hc=>h (j+1) c' (by simpa using hc))⟩
def aR.append {P:Program} {w:World} {F:Nat->Prop} {R:Nat->Value->Prop} (a b:List AC) {g:Nat->Value->Prop} (ha:aR P w F R a g) (hb:aR P w F R b (λj u=>g (a.length+j) u)):aR P w F R (a++b) g:=by
 refine pK _ λj c hc=>?_;rcases ueo j a.length with h|h
 ·rw[uaj h] at hc;exact ha.at_ hc
 ·rw[uae h] at hc;obtain⟨u,h1,h2⟩:=hb.at_ hc;rw[show a.length+(j-a.length)=j from by omega] at h1;exact⟨u,h1,h2⟩
def aD.enc {P:Program} {w:World} {F:Nat->Prop} {R:Nat->Value->Prop}:(t:Ty)->(x:t.den) -> {g:Nat->Value->Prop}->aD w F t x g->aR P w F R (Ab.enc t x) g
 |.int k,n,g,h=>⟨⟨_,h.1,rfl,rfl,h.2⟩,uT⟩
 |.bool,b,g,h=>⟨⟨_,h,rfl,rfl⟩,uT⟩
 |.str,b,g,h=>⟨⟨_,h.1,rfl,rfl,h.2⟩,uT⟩
 |.sl e,l,g,h=>by
  obtain⟨A,c,h0,h1,h2,h3⟩:=h;exact⟨⟨_,h0,rfl,⟨A,c,rfl,h1,h2,h3⟩⟩,uT⟩
 |.unit,_,_,_=>trivial
 |.pair a b,x,g,h=>aR.append _ _ (aD.enc a x.1 h.1) (by rw[oP]; exact aD.enc b x.2 h.2)
 |.fm es,_,g,h=>by
  obtain⟨r,arr,ck,h1,h2,h3,h4⟩:=h;exact⟨⟨_,h1,rfl,⟨r,arr,ck,rfl,h2,h3,h4⟩⟩,uT⟩
 |.ic es t,x,g,h=>by
  rcases h with ⟨ty,u,h1,h2,h3,h4,h5⟩|⟨h1,h2⟩
  ·exact⟨⟨_,h2,rfl,.inl ⟨ty,u,h1,rfl,h3,h4,h5⟩⟩,uT⟩
  ·exact⟨⟨_,h2,rfl,.inr ⟨h1,rfl⟩⟩,uT⟩
 |.fc (some k),_,g,h=>by
  obtain⟨u,h1,h2,h3⟩:=h;exact⟨⟨u,h1,h2,#[],h3 k rfl,rfl,uT⟩,uT⟩
 |.fc none,_,g,h=>by
  obtain⟨u,h1,h2,_⟩:=h;exact⟨⟨u,h1,h2,uT⟩,uT⟩
section
variable {P:Program} {w:World} {F:Nat->Prop} {R:Nat->Value->Prop}
def qyz {k:IntKind} {cs:List AC} {x:Int} {r:List AC} {g:Nat->Value->Prop} (h:zf k cs=some (x,r)) (hr:aR P w F R cs g) :
  (g 0 (.int k x)/\inR k x)/\aR P w F R r (λj u=>g (1+j) u):=by
 unfold zf at h;split at h
 ·split at h
  ·rename_i hk;subst hk;cases h;obtain⟨⟨u,h1,_,rfl,h3⟩,h4⟩:=hr;exact⟨⟨h1,h3⟩,by simpa[uep] using h4⟩
  ·cases h
 ·cases h
def qyy {cs:List AC} {x:Bool} {r:List AC} {g:Nat->Value->Prop} (h:zd cs=some (x,r)) (hr:aR P w F R cs g) :
  g 0 (.bool x)/\aR P w F R r (λj u=>g (1+j) u):=by
 unfold zd at h;split at h
 ·cases h;obtain⟨⟨u,h1,_,rfl⟩,h4⟩:=hr;exact⟨h1,by simpa[uep] using h4⟩
 ·cases h
def qy1 {cs:List AC} {x:ByteArray} {r:List AC} {g:Nat->Value->Prop} (h:zh cs=some (x,r)) (hr:aR P w F R cs g) :
  (g 0 (.string x)/\x.size<=maxLen)/\aR P w F R r (λj u=>g (1+j) u):=by
 unfold zh at h;split at h
 ·cases h;obtain⟨⟨u,h1,_,rfl,h3⟩,h4⟩:=hr;exact⟨⟨h1,h3⟩,by simpa[uep] using h4⟩
 ·cases h
def qy0 {e:Ty} {cs:List AC} {x:List e.den} {r:List AC} {g:Nat->Value->Prop} (h:zg e cs=some (x,r)) (hr:aR P w F R cs g) :
  aD w F (.sl e) x g/\aR P w F R r (λj u=>g (1+j) u):=by
 unfold zg at h;split at h
 ·split at h
  ·rename_i t l r' ht;subst ht;cases h;obtain⟨⟨u,h1,_,h3⟩,h4⟩:=hr;refine⟨?_,by simpa[uep] using h4⟩;obtain⟨A,c,e1,e2⟩:=h3;subst e1;exact⟨A,c,h1,e2⟩
  ·cases h
 ·split at h
  ·rename_i t l r' ht;subst ht;cases h;obtain⟨⟨u,h1,_,h3⟩,h4⟩:=hr;refine⟨?_,by simpa[uep] using h4⟩;obtain⟨_,_,A,c,e1,e2⟩:=h3;subst e1;exact⟨A,c,h1,e2⟩
  ·cases h
 ·cases h;obtain⟨⟨u,h1,_,h3⟩,h4⟩:=hr;subst h3;exact⟨⟨none,0,h1,ufa _,by simp,λi x hi=>by simp at hi⟩,by simpa[uep] using h4⟩
 ·cases h
def aD.dec:(t:Ty) -> {cs:List AC} -> {x:t.den} -> {r:List AC} -> {g:Nat->Value->Prop}->Ab.dec t cs=some (x,r)->aR P w F R cs g ->
  aD w F t x g/\aR P w F R r (λj u=>g (t.size+j) u)
 |.int _,_,_,_,_,h,hr=>qyz h hr
 |.bool,_,_,_,_,h,hr=>qyy h hr
 |.str,_,_,_,_,h,hr=>qy1 h hr
 |.sl _,_,_,_,_,h,hr=>qy0 h hr
 |.unit,_,_,_,_,h,hr=>by
  obtain⟨_,rfl⟩:=h;exact⟨uT,by simpa[Ty.size] using hr⟩
 |.pair a b,cs,x,r,g,h,hr=>by
  simp only[Ab.dec] at h;split at h
  ·rename_i x1 r1 h1;split at h
   ·rename_i x2 r2 h2;cases h;obtain⟨e1,e2⟩:=aD.dec a h1 hr;obtain⟨e3,e4⟩:=aD.dec b h2 e2;exact⟨⟨e1,e3⟩,by simpa[Ty.size,uef] using e4⟩
   ·cases h
  ·cases h
 |.fm es,cs,x,r,g,h,hr=>by
  simp only[Ab.dec] at h;unfold CM at h;split at h<;>try trivial
  split at h<;>try trivial
  rename_i he;subst he;obtain⟨_,rfl⟩:=h;obtain⟨⟨u,h1,_,h3⟩,h4⟩:=hr;obtain⟨r',arr,ck,rfl,e2,e3,e4⟩:=h3;exact⟨⟨r',arr,ck,h1,e2,e3,e4⟩,by simpa[Ty.size,uep] using h4⟩
 |.ic es t,cs,x,r,g,h,hr=>by
  simp only[Ab.dec] at h;unfold CL at h;split at h<;>try trivial
  split at h<;>try trivial
  rename_i ht;subst ht;split at h<;>try trivial
  rename_i he;subst he;cases h;obtain⟨⟨u,h1,_,h3⟩,h4⟩:=hr;refine⟨?_,by simpa[Ty.size,uep] using h4⟩;rcases h3 with ⟨ty,v,e1,e2,e3,e4,e5⟩|⟨e1,e2⟩
  ·exact .inl ⟨ty,v,e1,by rw[e2]; exact h1,e3,e4,e5⟩
  ·exact .inr ⟨e1,by rw[e2]; exact h1⟩
 |.fc f,cs,x,r,g,h,hr=>by
  simp only[Ab.dec] at h;unfold CK at h;split at h<;>try trivial
  ·split at h<;>try trivial
   rename_i hf;subst hf;obtain⟨_,rfl⟩:=h;obtain⟨⟨u,h1,h2,h3⟩,h4⟩:=hr;obtain⟨vs,rfl,h5,_⟩:=h3;have h6:=Array.size_eq_zero_iff.mp h5;subst h6;exact⟨⟨_,h1,h2,λk hk=>by cases hk; rfl⟩,by simpa[Ty.size,uep] using h4⟩
  ·split at h<;>try trivial
   rename_i hf;subst hf;obtain⟨_,rfl⟩:=h;obtain⟨⟨u,h1,h2,_⟩,h4⟩:=hr;exact⟨⟨u,h1,h2,λk hk=>nomatch hk⟩,by simpa[Ty.size,uep] using h4⟩
end
end Go.Ab

namespace Go.Ab
open Go Go.RowKit
def cQ:Ob->Value->Option Nat
 |.box _ _,.pointer (some a)=>some a.block
 |.arr _ _ _,v=>v.ownBlock
 |_,_=>none
section
variable (P:Program) (B:Nat) (w:World) (F:Nat->Prop) (R:Nat->Value->Prop)
def cJ (t:Ty) (l:List t.den) (xs:List Value):Prop:=
 ∀ i x,l[i]? = some x->aD w F t x (λj u=>xs[i*t.size+j]? = some u)
def lq (v:Value):Ob->Prop
 |.gone=>True
 |.box ty cs=>∃ b arr,v = .pointer (some ⟨b,0,none⟩)/\w.heap[b]? = some (.cells arr ty (0,0))/\¬ F b/\B<=b/\arr.size=cs.length/\aR P w F R cs (λj u=>arr[j]? = some u)
 |.fbox cs=>∃ b,v = .pointer (some ⟨b,0,none⟩)/\F b/\aR P w F R cs (λj u=>w.cell? ⟨b,j,none⟩=some u)
 |.arr ety t l=>∃ xs,w.ownsRow B ety t.size v l.length xs/\(∀ g,v.ownBlock=some g->¬ F g)/\cJ w F t l xs/\(∀ u∈xs,u.oneCell'=true)
 |.frz t l=>aD w F (.sl t) l (λ_ u=>u=v)
end
structure MemOK (P:Program) (B:Nat) (w:World) (F:Nat->Prop) (γ:Nat->Value) (m:Nat->Option Ob):Prop where
 ob:∀ id o,m id=some o->lq P B w F (aA m γ) (γ id) o
 apart:∀ i j oi oj b,i≠j->m i=some oi->m j=some oj->cQ oi (γ i)=some b->cQ oj (γ j)≠some b
structure Step (B:Nat) (w:World) (F:Nat->Prop) (γ:Nat->Value) (m:Nat->Option Ob) (w':World) (F':Nat->Prop) (γ':Nat->Value) (m':Nat->Option Ob):Prop where
 hF:∀ b,F b->F' b
 hw:∀ b,F b->w'.heap[b]? = w.heap[b]?
 hR:∀ id v,aA m γ id v->aA m' γ' id v
 old:∀ b,b<B->w'.heap[b]? = w.heap[b]?
 os:w'.os=w.os
 tape:w'.tape=w.tape
 output:w'.output=w.output
 size:w.heap.size<=w'.heap.size
 bd:∀ b,F' b->b<w'.heap.size
 new:∀ b,F' b->F b\/B<=b
section
variable {P:Program} {B:Nat} {w w' w'':World} {F F' F'':Nat->Prop} {γ γ' γ'':Nat->Value} {m m' m'':Nat->Option Ob}
def Step.refl (hb:∀ b,F b->b<w.heap.size):Step B w F γ m w F γ m:=
 ⟨λ_ h=>h,λ_ _=>rfl,λ_ _ h=>h,λ_ _=>rfl,rfl,rfl,rfl,ufa _,hb,λ_ h=>.inl h⟩
def Step.trans (h:Step B w F γ m w' F' γ' m') (k:Step B w' F' γ' m' w'' F'' γ'' m''):Step B w F γ m w'' F'' γ'' m'':=
 ⟨λb hb=>k.hF b (h.hF b hb),λb hb=>(k.hw b (h.hF b hb)).trans (h.hw b hb),λi v hv=>k.hR i v (h.hR i v hv),λb hb=>(k.old b hb).trans (h.old b hb),
  k.os.trans h.os,k.tape.trans h.tape,k.output.trans h.output,uen h.size k.size,k.bd,λb hb=>(k.new b hb).elim (λh'=>h.new b h') .inr⟩
def Step.repA {a:AV} {v:Value} (h:Step B w F γ m w' F' γ' m') (hr:aM P w F (aA m γ) a v):aM P w' F' (aA m' γ') a v:=aM.mono h.hF h.hw h.hR a hr
def Step.repCL {cs:List AC} {g:Nat->Value->Prop} (h:Step B w F γ m w' F' γ' m') (hr:aR P w F (aA m γ) cs g):aR P w' F' (aA m' γ') cs g:=
 aR.mono h.hF h.hw h.hR cs (λ_ _ h=>h) hr
def cJ.mono {t:Ty} {l:List t.den} {xs:List Value} (hF:∀ b,F b->F' b) (hw:∀ b,F b->w'.heap[b]? = w.heap[b]?) (h:cJ w F t l xs):cJ w' F' t l xs:=
 λi x hi=>(h i x hi).mono hF hw (λ_ _ _ h=>h)
def lI {id:Nat} {o:Ob} {b:Nat} {R:Nat->Value->Prop} (h:lq P B w F R (γ id) o) (he:cQ o (γ id)=some b):b<w.heap.size/\¬ F b/\B<=b:=by
 cases o with
 |gone=>simp[cQ] at he
 |fbox cs=>simp[cQ] at he
 |frz t l=>simp[cQ] at he
 |box ty cs=>
  obtain⟨b',arr,h1,h2,h3,h4,_⟩:=h;rw[h1] at he;simp only[cQ,ucj] at he;subst he;exact⟨(uaf.1 h2).1,h3,h4⟩
 |arr ety t l=>
  obtain⟨xs,h1,h2,_⟩:=h;exact⟨(h1.lt b he).2,h2 b he,(h1.lt b he).1⟩
def lq.keep {v:Value} {o:Ob} {R R':Nat->Value->Prop} (h:lq P B w F R v o) (hF:∀ b,F b->F' b) (hw:∀ b,F b->w'.heap[b]? = w.heap[b]?) (hR:∀ id v,R id v->R' id v)
  (hb:∀ b,cQ o v=some b->w'.heap[b]? = w.heap[b]? /\ ¬ F' b):lq P B w' F' R' v o:=by
 cases o with
 |gone=>trivial
 |fbox cs=>
  obtain⟨b,h1,h2,h3⟩:=h;exact⟨b,h1,hF b h2,aR.mono hF hw hR cs (λj u hu=>by rw[<- hu]; exact ubb (hw b h2)) h3⟩
 |frz t l=>
  simp only[lq] at h |-;exact aD.mono hF hw (λ_ _ _ h=>h) h
 |box ty cs=>
  obtain⟨b,arr,h1,h2,h3,h4,h5,h6⟩:=h;obtain⟨e1,e2⟩:=hb b (by rw[h1]; rfl);exact⟨b,arr,h1,e1.trans h2,e2,h4,h5,aR.mono hF hw hR cs (λ_ _ h=>h) h6⟩
 |arr ety t l=>
  obtain⟨xs,h1,h2,h3,h4⟩:=h;refine⟨xs,?_,λg hg=>(hb g hg).2,h3.mono hF hw,h4⟩;refine⟨h1.1,?_⟩;rcases h1.2 with hn|⟨g,cap,cur,rfl,hb',hg,rest⟩
  ·exact .inl hn
  ·exact .inr ⟨g,cap,cur,rfl,hb',(hb g rfl).1.trans hg,rest⟩
def MemOK.keep (h:MemOK P B w F γ m) (hF:∀ b,F b->F' b) (hw:∀ b,F b->w'.heap[b]? = w.heap[b]?)
  (hb:∀ id o b,m id=some o->cQ o (γ id)=some b->w'.heap[b]? = w.heap[b]? /\ ¬ F' b):MemOK P B w' F' γ m:=
 ⟨λid o ho=>(h.ob id o ho).keep hF hw (λ_ _ h=>h) (λb hb'=>hb id o b ho hb'),h.apart⟩
def Step.below (hm:MemOK P B w F γ m) (hB:B<=w.heap.size) (hbd:∀ b,F b->b<w.heap.size) (hb:Below w.heap.size w w') (hF:∀ b,F b->F' b) (hF':∀ b,F' b->(F b\/w.heap.size<=b)/\b<w'.heap.size) :
  Step B w F γ m w' F' γ m/\MemOK P B w' F' γ m:=by
 refine⟨⟨hF,λb h=>hb.block b (hbd b h),λ_ _ h=>h,λb h=>hb.block b (by omega),hb.os,hb.tape,hb.output,hb.size,λb h=>(hF' b h).2,λb h=>(hF' b h).1.elim .inl (λh=>.inr (by omega))⟩,?_⟩;refine hm.keep hF (λb h=>hb.block b (hbd b h)) λid o b ho he=>?_;obtain⟨h1,h2,_⟩:=lI (hm.ob id o ho) he;exact⟨hb.block b h1,λh=>(hF' b h).1.elim h2 (by omega)⟩
def upd (m:Nat->Option Ob) (id:Nat) (o:Ob):Nat->Option Ob:=λi=>if i=id then some o else m i
def aK (m:Nat->Option Ob):List (Nat×Ob)->Nat->Option Ob
 |[]=>m
 |(id,o)::r=>aK (upd m id o) r
def eG (γ:Nat->Value) (id:Nat) (v:Value):Nat->Value:=λi=>if i=id then v else γ i
def i5 (m:Nat->Option Ob) (id:Nat) (o:Ob):upd m id o id=some o:=by simp[upd]
def fu (m:Nat->Option Ob) {id i:Nat} (o:Ob) (h:i≠id):upd m id o i=m i:=by simp[upd,h]
def ul (γ:Nat->Value) (id:Nat) (v:Value):eG γ id v id=v:=by simp[eG]
def uk (γ:Nat->Value) {id i:Nat} (v:Value) (h:i≠id):eG γ id v i=γ i:=by simp[eG,h]
def qN {id:Nat} {o o0:Ob} (h0:m id=some o0) (hg:o0 = .gone->o = .gone):∀ i v,aA m γ i v->aA (upd m id o) γ i v:=by
 intro i v h;unfold aA at *;by_cases hi:i=id
 ·subst hi;rw[i5];cases o<;>cases o0<;>simp_all
 ·rw[fu _ _ hi];exact h
def MemOK.change (h:MemOK P B w F γ m) {id:Nat} {o o0:Ob} (h0:m id=some o0) (hg:o0 = .gone->o = .gone)
  (hF:∀ b,F b->F' b) (hw:∀ b,F b->w'.heap[b]? = w.heap[b]?)
  (hex:∀ b,cQ o (γ id)=some b->cQ o0 (γ id)=some b)
  (hoth:∀ b,b<w.heap.size->cQ o0 (γ id)≠some b->w'.heap[b]? = w.heap[b]? /\ (F' b->F b))
  (hok:lq P B w' F' (aA (upd m id o) γ) (γ id) o):MemOK P B w' F' γ (upd m id o):=by
 refine⟨λi oi hi=>?_,λi j oi oj b hij hi hj hbi hbj=>?_⟩
 ·by_cases he:i=id
  ·subst he;rw[i5,ucj] at hi;subst hi;exact hok
  ·rw[fu _ _ he] at hi;refine(h.ob i oi hi).keep hF hw (qN h0 hg) λb hb=>?_;obtain⟨e1,e2,_⟩:=lI (h.ob i oi hi) hb;obtain⟨e3,e4⟩:=hoth b e1 (λhc=>h.apart i id oi o0 b he hi h0 hb hc);exact⟨e3,λhc=>e2 (e4 hc)⟩
 ·by_cases he:i=id
  ·subst he;rw[i5,ucj] at hi;subst hi;rw[fu _ _ (Ne.symm hij)] at hj;exact h.apart i j o0 oj b hij h0 hj (hex b hbi) hbj
  ·rw[fu _ _ he] at hi;by_cases hf:j=id
   ·subst hf;rw[i5,ucj] at hj;subst hj;exact h.apart i j oi o0 b hij hi h0 hbi (hex b hbj)
   ·rw[fu _ _ hf] at hj;exact h.apart i j oi oj b hij hi hj hbi hbj
def A5 {id:Nat} {o:Ob} {v:Value} (h0:m id=none):∀ i u,aA m γ i u->aA (upd m id o) (eG γ id v) i u:=by
 intro i u h;unfold aA at *;by_cases hi:i=id
 ·subst hi;simp[h0] at h
 ·rw[fu _ _ hi,uk _ _ hi];exact h
def MemOK.new (h:MemOK P B w F γ m) {id:Nat} {o:Ob} {v:Value} (h0:m id=none)
  (hF:∀ b,F b->F' b) (hw:∀ b,F b->w'.heap[b]? = w.heap[b]?)
  (hex:∀ b,cQ o v=some b->w.heap.size<=b)
  (hoth:∀ b,b<w.heap.size->(w'.heap[b]? = w.heap[b]? /\ (F' b->F b)))
  (hok:lq P B w' F' (aA (upd m id o) (eG γ id v)) v o):MemOK P B w' F' (eG γ id v) (upd m id o):=by
 refine⟨λi oi hi=>?_,λi j oi oj b hij hi hj hbi hbj=>?_⟩
 ·by_cases he:i=id
  ·subst he;rw[i5,ucj] at hi;subst hi;rw[ul];exact hok
  ·rw[fu _ _ he] at hi;rw[uk _ _ he];refine(h.ob i oi hi).keep hF hw (A5 h0) λb hb=>?_;obtain⟨e1,e2,_⟩:=lI (h.ob i oi hi) hb;obtain⟨e3,e4⟩:=hoth b e1;exact⟨e3,λhc=>e2 (e4 hc)⟩
 ·by_cases he:i=id
  ·subst he;rw[i5,ucj] at hi;subst hi;rw[fu _ _ (Ne.symm hij)] at hj;rw[uk _ _ (Ne.symm hij)] at hbj;rw[ul] at hbi;have h1:=(lI (h.ob j oj hj) hbj).1;have h2:=hex b hbi;omega
  ·rw[fu _ _ he] at hi;rw[uk _ _ he] at hbi;by_cases hf:j=id
   ·subst hf;rw[i5,ucj] at hj;subst hj;rw[ul] at hbj;have h1:=(lI (h.ob i oi hi) hbi).1;have h2:=hex b hbj;omega
   ·rw[fu _ _ hf] at hj;rw[uk _ _ hf] at hbj;exact h.apart i j oi oj b hij hi hj hbi hbj
end
end Go.Ab

namespace Go.Ab
open Go Go.RowKit
def yh:Value->AC
 |.int k n=>if k.min<=n/\n<=k.max then .int k n else .dead
 |.bool b=>.bool b
 |.string s=>if s.size<=maxLen then .str s else .dead
 |.slice none 0 0=>.nil
 |_=>.dead
def pV:Value->AV
 |.agg cs=>if cs.toList.all (·.oneCell') then .agg (cs.toList.map yh) else .dead
 |.tuple _=>.dead
 |v=>.c (yh v)
def gN (sl:Nat->AV):Operand->AV
 |.tmp t=>sl t
 |.const v=>pV v
 |.global _=>.dead
 |.func f=>.c (.fn f [])
def uj (P:Program):Nat->TypeId->Option Ty
 |0,_=>none
 |n+1,t=>
  match P.underlying t with
  |some .bool=>some .bool
  |some (.int k)=>some (.int k)
  |some .string=>some .str
  |some (.slice e)=>(uj P n e).map .sl
  |some (.struct fs)=>fs.toList.foldr (λf acc=>match uj P n f.type,acc with
   |some a,some r=>some (.pair a r)
   |_,_=>none) (some .unit)
  |some (.array k e)=>match uj P n e with
   |some a=>some (Nat.rec (motive:=λ_=>Ty) .unit (λ_ r=>.pair a r) k)
   |none=>none
  |_=>none
def d9 (P:Program) (t:TypeId):Bool:=
 match P.underlying t with
 |some (.struct _)|some (.array _ _)=>true
 |_=>false
def qg:AV->Option (List AC)
 |.c a=>some [a]
 |.agg cs=>some cs
 |_=>none
def DX (wide:Bool) (cs:List AC):Option AV:=
 if wide then some (.agg cs) else match cs with
  |[a]=>some (.c a)
  |_=>none
def pp (cs:List AC) (off:Nat) (new:List AC):Option (List AC):=
 if off+new.length<=cs.length then some (cs.take off++new++cs.drop (off+new.length)) else none
def iQ (cs:List AC) (off n:Nat):Option (List AC):=
 if off+n<=cs.length then some ((cs.drop off).take n) else none
structure Eff where
 v:AV
 wr:List (Nat×Ob)
 need:List Prop
abbrev aY:=Nat->Option Ob
def nY (m:aY):AC->Option (AC×List (Nat×Ob))
 |.own id=>match m id with
  |some (.arr _ t l)=>some (.sl t l,[(id,.frz t l)])
  |some (.frz t l)=>some (.sl t l,[])
  |_=>none
 |a=>some (a,[])
def ix (m:aY):List AC->Option (List AC×List (Nat×Ob))
 |[]=>some ([],[])
 |a::r=>match nY m a,ix m r with
  |some (x,u),some (y,v)=>some (x::y,u++v)
  |_,_=>none
def qQ (m:aY):AV->Option (AV×List (Nat×Ob))
 |.c a=>match nY m a with
  |some (x,u)=>some (.c x,u)
  |none=>none
 |.agg cs=>match ix m cs with
  |some (x,u)=>some (.agg x,u)
  |none=>none
 |_=>none
def eF (m:aY):List AV->Option (List AV×List (Nat×Ob))
 |[]=>some ([],[])
 |a::r=>match qQ m a,eF m r with
  |some (x,u),some (y,v)=>some (x::y,u++v)
  |_,_=>none
def tH (m:aY):List AV->Option (List AC×List (Nat×Ob))
 |[]=>some ([],[])
 |.c (.ptr id 0)::r=>match m id with
  |some (.box _ cs)=>match ix m cs with
   |some (cs',u)=>match aK m u id with
    |some (.box _ _)=>match tH (aK m (u++[(id,.fbox cs')])) r with
     |some (y,v)=>some (.sptr cs'::y,(u++[(id,.fbox cs')])++v)
     |none=>none
    |_=>none
   |none=>none
  |some (.fbox cs)=>match tH m r with
   |some (y,v)=>some (.sptr cs::y,v)
   |none=>none
  |_=>none
 |.c a::r=>match nY m a with
  |some (x,u)=>match tH (aK m u) r with
   |some (y,v)=>some (x::y,u++v)
   |none=>none
  |none=>none
 |_::_=>none
def nc:AC->List Nat
 |.own id=>[id]
 |.ptr id _=>[id]
 |_=>[]
def wl:AV->List Nat
 |.c a=>nc a
 |.agg cs=>cs.flatMap nc
 |.optr id _ _ _=>[id]
 |.aptr b _ _=>nc b
 |.maybe _ _ v=>wl v
 |_=>[]
def qn8:Option Ob->List Nat
 |some (.box _ cs)=>cs.flatMap nc
 |_=>[]
def vP (P:Program):Nat->TypeId->List AC->List AC->Option Bool
 |0,_,_,_=>none
 |n+1,t,xs,ys=>
  match P.underlying t with
  |some .bool=>match xs,ys with
   |[.bool a],[.bool b]=>some (a==b)
   |_,_=>none
  |some (.int _)=>match xs,ys with
   |[.int k a],[.int k' b]=>if k=k' then some (a==b) else none
   |_,_=>none
  |some (.struct fs)=>if P.stoodInHeld t=true then none else
   fs.toList.foldr (λf acc=>if f.name = "_" then acc else
    if (P.underlying f.type).isSome=true/\(P.info? f.type).isSome=true then
     match iQ xs f.offset (if d9 P f.type then P.cellsOf f.type else 1),iQ ys f.offset (if d9 P f.type then P.cellsOf f.type else 1) with
     |some x,some y=>match vP P n f.type x y,acc with
      |some p,some q=>some (p&&q)
      |_,_=>none
     |_,_=>none
    else none) (some true)
  |some (.array len e)=>
   if (P.underlying e).isSome=true/\(P.info? e).isSome=true then
    (List.range len).foldr (λi acc=>
     match iQ xs (i*P.cellsOf e) (if d9 P e then P.cellsOf e else 1),iQ ys (i*P.cellsOf e) (if d9 P e then P.cellsOf e else 1) with
     |some x,some y=>match vP P n e x y,acc with
      |some p,some q=>some (p&&q)
      |_,_=>none
     |_,_=>none) (some true)
   else none
  |_=>none
def H0 (op:BinOp) (a b:Int):Option Bool:=
 match op with
 |.eql=>some (a==b)
 |.neq=>some (a != b)
 |.lss=>some (decide (a<b))
 |.leq=>some (decide (a<=b))
 |.gtr=>some (decide (a>b))
 |.geq=>some (decide (a>=b))
 |_=>none
def NW (op:BinOp) (k:IntKind) (a b:Int):Option (AC×List Prop):=
 match op with
 |.add=>some (.int k (k.wrap (a+b)),[])
 |.sub=>some (.int k (k.wrap (a-b)),[])
 |.mul=>some (.int k (k.wrap (a*b)),[])
 |.quo=>some (.int k (k.wrap (a.tdiv b)),[b≠0])
 |.rem=>some (.int k (a.tmod b),[b≠0])
 |.and=>some (.int k (k.wrap (BitVec.ofInt k.bits a &&& BitVec.ofInt k.bits b).toNat),[])
 |.or=>some (.int k (k.wrap (BitVec.ofInt k.bits a ||| BitVec.ofInt k.bits b).toNat),[])
 |.xor=>some (.int k (k.wrap (BitVec.ofInt k.bits a ^^^ BitVec.ofInt k.bits b).toNat),[])
 |.andNot=>some (.int k (k.wrap (BitVec.ofInt k.bits a &&& ~~~BitVec.ofInt k.bits b).toNat),[])
 |.shl=>some (.int k (k.wrap (a*2 ^ (min b.toNat k.bits))),[¬ b<0])
 |.shr=>some (.int k (a.fdiv (2 ^ (min b.toNat k.bits))),[¬ b<0])
 |op=>match H0 op a b with
  |some x=>some (.bool x,[])
  |none=>none
def Si:BinOp->Bool
 |.shl | .shr=>true
 |_=>false
def G5 (P:Program) (op:BinOp) (t:TypeId):AV->AV->Option (AC×List Prop)
 |.c (.int k a),.c (.int k' b)=>if k=k'\/Si op=true then NW op k a b else none
 |.c (.bool a),.c (.bool b)=>match op with
  |.eql=>if P.underlying t matches some .bool then some (.bool (a==b),[]) else none
  |.neq=>if P.underlying t matches some .bool then some (.bool (!(a==b)),[]) else none
  |_=>none
 |.agg xs,.agg ys=>if P.eqGuardType P.depth t=false/\d9 P t=true then match vP P 20 t xs ys with
   |some x=>match op with
    |.eql=>some (.bool x,[])
    |.neq=>some (.bool (!x),[])
    |_=>none
   |none=>none
  else none
 |_,_=>none
structure InsOK (P:Program) (f:FuncId) (e:TypeId) (T:Ty) (bytes:Nat):Prop where
 enters:∀ args w,(callFunc f args).run P w = .ok (.enter f args) w
 calls:∀ (w:World) (B n i:Nat) (s v:Value) (xs news:List Value),B<=w.heap.size->w.ownsRow B e T.size s n xs->w.ownsRow B e T.size v 1 news->(∀ g,v.ownBlock=some g->s.ownBlock≠some g)->i<=n ->
  (∀ u∈xs,u.oneCell'=true)->(∀ u∈news,u.oneCell'=true)->n+1<=maxLen->(n+1)*bytes<=140737488355328 ->
  Calls P f #[s,.int .i64 i,v] w λen w'=>∃ v',en = .returned v'/\w.grownBy w' s.ownBlock/\w'.ownsRow B e T.size v' (n+1) (xs.take (i*T.size)++news++xs.drop (i*T.size))/\(v'.ownBlock=s.ownBlock\/v'.ownBlock=some w.heap.size)
structure CloneOK (P:Program) (f:FuncId) (e:TypeId) (T:Ty) (bytes:Nat):Prop where
 enters:∀ args w,(callFunc f args).run P w = .ok (.enter f args) w
 calls:∀ (w:World) (n c:Nat) (A:Option Addr) (xs:List Value),n<=c->(A=none->n=0)->xs.length=n*T.size->(∀ ad,A=some ad->∀ (j:Nat) u,xs[j]? = some u->w.cell? (ad.add j)=some u)->(∀ u∈xs,u.oneCell'=true) ->
  n<=maxLen->n*bytes<=140737488355328 ->
  Calls P f #[.slice A n c] w λen w'=>∃ v',en = .returned v'/\w.grownBy w' none/\w'.ownsRow w.heap.size e T.size v' n xs
structure UpdOK (P:Program) (f:FuncId) (T:Ty) (ps:List Ty) (g:T.den->ae ps->T.den):Prop where
 enters:∀ args w,(callFunc f args).run P w = .ok (.enter f args) w
 calls:∀ (w:World) (F:Nat->Prop) (b:Nat) (ety:TypeId) (arr:Array Value) (x:T.den) (y:ae ps) (vs:List Value),w.heap[b]? = some (.cells arr ety (0,0))->arr.size=T.size ->
  (∀ u∈arr,u.oneCell'=true)->aD w F T x (λj u=>arr[j]? = some u)->eK w F ps y vs ->
  Calls P f (Value.pointer (some ⟨b,0,none⟩)::vs).toArray w λen w'=>∃ (u:Value) (ns:List Value),en = .returned u/\ns.length=T.size/\w'=w.setRow b ns.toArray/\aD w F T (g x y) (λj u=>ns[j]? = some u)
inductive Row where
 |clone (e:TypeId) (T:Ty) (bytes:Nat)
 |ins (e:TypeId) (T:Ty) (bytes:Nat)
 |upd (T:Ty) (ps:List Ty) (g:T.den->ae ps->T.den)
def BF (P:Program) (f:FuncId):Row->Prop
 |.clone e T n=>CloneOK P f e T n
 |.ins e T n=>InsOK P f e T n
 |.upd T ps g=>UpdOK P f T ps g
structure Gm where
 c:FuncId->Option Ct
 r:FuncId->Option Row
instance:CoeFun Gm λ_=>FuncId->Option Ct:=⟨Gm.c⟩
instance:Coe (FuncId->Option Ct) Gm:=⟨λc=>⟨c,λ_=>none⟩⟩
def hH (P:Program) (Γ:Gm):Prop:=(∀ f ct,Γ.c f=some ct->aa P f ct)/\∀ f r,Γ.r f=some r->BF P f r
def vH (t:Ty):AV->Option t.den
 |.c a=>if t.wide then none else match dec t [a] with
  |some (x,[])=>some x
  |_=>none
 |.agg cs=>if t.wide then match dec t cs with
  |some (x,[])=>some x
  |_=>none else none
 |_=>none
def yK {ps ps' rs rs':List Ty} (h:ps=ps') (k:rs=rs') (g:ae ps->ae rs):ae ps'->ae rs':=k ▸ h ▸ g
def O9 {ps ps':List Ty} (h:ps=ps') (D:ae ps->Prop):ae ps'->Prop:=h ▸ D
def C7 {rs rs':List Ty} (k:rs=rs') (x:ae rs):ae rs':=k ▸ x
def Ht {t u:Ty} (h:t=u) (x:t.den):u.den:=h ▸ x
def iJ:(ps:List PT)->List AC->Option (aq ps)
 |[],[]=>some ()
 |.d t::r,a::s=>match vH t (.c a),iJ r s with
  |some x,some y=>some (x,y)
  |_,_=>none
 |.ptr t::r,.sptr cs::s=>match dec t cs,iJ r s with
  |some (x,_),some y=>some (x,y)
  |_,_=>none
 |.pk f::r,.sptr [.fn f' []]::s=>if f'=f then match iJ r s with
  |some y=>some ((),y)
  |none=>none
  else none
 |.pfn ps rs::r,.sptr [.fv ps' rs' g]::s=>if h:ps'=ps then if k:rs'=rs then match iJ r s with
   |some y=>some (yK h k g,y)
   |none=>none
  else none else none
 |_,_=>none
def kJ:(ps:List Ty)->(cps:List PT)->List AC->Option (ae ps->aq cps)
 |[],cps,caps=>match iJ cps caps with
  |some ys=>some (λ_=>ys)
  |none=>none
 |t::r,.d t'::cps,caps=>if h:t=t' then match kJ r cps caps with
   |some m=>some (λx=>(Ht h x.1,m x.2))
   |none=>none
  else none
 |_::_,_,_=>none
def HN (Γ:Gm) (ps rs:List Ty):AC->Option ((ae ps->ae rs)×List Prop)
 |.fv ps' rs' g=>if h:ps'=ps then if k:rs'=rs then some (yK h k g,[]) else none else none
 |.fn f caps=>match Γ f with
  |some ct=>if k:ct.rs=rs then match kJ ps ct.ps caps with
    |some m=>some (λx=>C7 k (ct.f (m x)),[∀ x,kB ps x->aE (ct.ok (m x))])
    |none=>none
   else none
  |none=>none
 |_=>none
def HP (Γ:Gm) (ps rs:List Ty):AC->Option ((ae ps->ae rs)×(ae ps->Prop))
 |.pv ps' rs' g D=>if h:ps'=ps then if k:rs'=rs then some (yK h k g,O9 h D) else none else none
 |.fn f caps=>match Γ f with
  |some ct=>if k:ct.rs=rs then match kJ ps ct.ps caps with
    |some m=>some (λx=>C7 k (ct.f (m x)),λx=>aE (ct.ok (m x)))
    |none=>none
   else none
  |none=>none
 |_=>none
def P6 (Γ:Gm):(p:PT)->AV->Option (p.den×List Prop)
 |.d t,a=>match vH t a with
  |some x=>some (x,[])
  |none=>none
 |.ptr t,.c (.sptr cs)=>match dec t cs with
  |some (x,_)=>some (x,[])
  |none=>none
 |.fn ps rs,.c a=>HN Γ ps rs a
 |.pf ps rs,.c a=>match HP Γ ps rs a with
  |some x=>some (x,[])
  |none=>none
 |_,_=>none
def lD (Γ:Gm):(ps:List PT)->List AV->Option (aq ps×List Prop)
 |[],[]=>some ((),[])
 |p::r,a::s=>match P6 Γ p a,lD Γ r s with
  |some (x,n),some (y,k)=>some ((x,y),n++k)
  |_,_=>none
 |_,_=>none
def gL (t:Ty) (x:t.den):AV:=if t.wide then .agg (enc t x) else match enc t x with
 |[a]=>.c a
 |_=>.dead
def CS:(ts:List Ty)->ae ts->List AV
 |[],_=>[]
 |t::r,x=>gL t x.1::CS r x.2
def mU:(ts:List Ty)->ae ts->AV
 |[t],x=>gL t x.1
 |ts,x=>.tup (CS ts x)
def O5 (Γ:Gm) (f:FuncId) (args:List AV):Option (AV×List Prop):=
 match Γ f with
 |some ct=>match lD Γ ct.ps args with
  |some (x,n)=>some (mU ct.rs (ct.f x),n++ct.ok x)
  |none=>none
 |none=>none
def iK:(ps:List Ty)->List AV->Option (ae ps)
 |[],[]=>some ()
 |t::r,a::s=>match vH t a,iK r s with
  |some x,some y=>some (x,y)
  |_,_=>none
 |_,_=>none
def qB (k:IntKind):List AC->Option (List Int)
 |[]=>some []
 |.int k' n::r=>if k=k' then (qB k r).map (n :: ·) else none
 |_=>none
def Sr:List AC->Option IntKind
 |.int k _::_=>some k
 |_=>none
def qU:List Int->Nat->Int->Int->List Int
 |[],_,_,_=>[]
 |n::r,j,i,v=>(bif i==(j:Int) then v else n)::qU r (j+1) i v
def xP (c:Operand) (want:Bool):AV->AV
 |.maybe g w v=>match c with
  |.tmp t=>if g=t/\w=want then v else .maybe g w v
  |_=>.maybe g w v
 |v=>v
def Aq (p:Bool):AV->AV->Option AV
 |.c (.bool x),.c (.bool y)=>some (.c (.bool (bif p then x else y)))
 |.c (.int k x),.c (.int k' y)=>if k=k' then some (.c (.int k (bif p then x else y))) else none
 |_,_=>none
def zq (place:Nat->Option (Nat×Nat)) (cs:List AC):List (Nat×AV)->Option (List AC)
 |[]=>some cs
 |(i,v)::r=>match place i,qg v with
  |some (off,n),some new=>if new.length=n then match pp cs off new with
    |some cs'=>zq place cs' r
    |none=>none
   else none
  |_,_=>none
def TB (P:Program) (t:TypeId):Option (Nat->Option (Nat×Nat)):=
 match P.underlying t with
 |some (.struct fs)=>if fs.toList.all (λf=>(P.info? f.type).isSome) then some λi=>(fs[i]?).map λf=>(f.offset,P.cellsOf f.type) else none
 |some (.array _ e)=>if (P.info? e).isSome then some λi=>some (i*P.cellsOf e,P.cellsOf e) else none
 |_=>none
def GE (P:Program) (t:TypeId) (parts:List (Nat×AV)):Option AV:=
 match (P.info? t).bind (·.zero),TB P t with
 |some z,some pl=>match qg (pV z) with
  |some cs=>match zq pl cs parts with
   |some cs'=>some (.agg cs')
   |none=>none
  |none=>none
 |_,_=>none
def px (t:Ty) (k:Nat):List (Nat×AV)->Option (List t.den)
 |[]=>some []
 |(i,v)::r=>if i=k then match vH t v,px t (k+1) r with
   |some x,some l=>some (x::l)
   |_,_=>none
  else none
def jX:Int->List AC->List (Int×Nat)
 |_,[]=>[]
 |k,.fn f []::r=>(k,f)::jX (k+1) r
 |k,_::r=>jX (k+1) r
def yN (m:aY):AV->Option (List AC×List Prop)
 |.c (.ptr id off)=>match m id with
  |some (.box _ cs)=>some (cs.drop off,[])
  |some (.fbox cs)=>some (cs.drop off,[])
  |_=>none
 |.c (.sptr cs)=>some (cs,[])
 |.optr id sz i off=>match m id with
  |some (.arr _ t l)=>if t.size=sz then some ((enc t (l.getD i t.dflt)).drop off,[i<l.length]) else none
  |some (.frz t l)=>if t.size=sz then some ((enc t (l.getD i t.dflt)).drop off,[i<l.length]) else none
  |_=>none
 |.aptr b n i=>match b with
  |.ptr id off=>match m id with
   |some (.box _ cs)=>pickI (cs.drop off) n i
   |some (.fbox cs)=>pickI (cs.drop off) n i
   |_=>none
  |.sptr cs=>pickI cs n i
  |_=>none
 |_=>none
where
 pickI (cs:List AC) (n:Nat) (i:Int):Option (List AC×List Prop):=
  match Sr cs,iQ cs 0 n with
  |some k,some bf=>match qB k bf with
   |some ns=>some ([.int k (ns.getD i.toNat 0)],[])
   |none=>none
  |none,some bf=>if (jX 0 bf).isEmpty then none else some ([.fs (jX 0 bf) i],[((jX 0 bf).find? (λx=>x.1==i)).isSome=true])
  |_,_=>none
def DL (P:Program) (t:TypeId) (x:AV) (m:aY):Option Eff:=
 match yN m x with
 |some (cs,n)=>if (P.info? t).isSome/\(P.underlying t).isSome then
   if d9 P t then match iQ cs 0 (P.cellsOf t) with
    |some l=>some ⟨.agg l,[],n⟩
    |none=>none
   else match cs with
    |a::_=>some ⟨.c a,[],n⟩
    |[]=>none
  else none
 |none=>none
def LG (P:Program) (t:TypeId) (x v:AV) (m:aY):Option Eff:=
 match qg v with
 |none=>none
 |some new=>if (P.info? t).isSome/\new.length=P.cellsOf t then
   match x with
   |.c (.ptr id off)=>match m id with
    |some (.box e cs)=>match pp cs off new with
     |some cs'=>some ⟨.dead,[(id,.box e cs')],[]⟩
     |none=>none
    |_=>none
   |.optr id sz i off=>match m id,ix m new with
    |some (.arr e t' l),some (new',u)=>if t'.size=sz/\(new.flatMap nc).all (· != id) then
      match pp (enc t' (l.getD i t'.dflt)) off new' with
      |some row=>match dec t' row with
       |some (y,[])=>some ⟨.dead,u++[(id,.arr e t' (l.set i y))],[i<l.length]⟩
       |_=>none
      |none=>none
     else none
    |_,_=>none
   |.aptr (.ptr id off) n i=>match m id,new with
    |some (.box e cs),[.int k y]=>match iQ cs off n with
     |some bf=>match qB k bf with
      |some ns=>match pp cs off ((qU ns 0 i y).map (.int k)) with
       |some cs'=>some ⟨.dead,[(id,.box e cs')],[]⟩
       |none=>none
      |none=>none
     |none=>none
    |_,_=>none
   |_=>none
  else none
def sP (m:aY):AC->Option ((t:Ty)×List t.den)
 |.sl t l=>some ⟨t,l⟩
 |.slx t l=>some ⟨t,l⟩
 |.own id=>match m id with
  |some (.arr _ t l)=>some ⟨t,l⟩
  |some (.frz t l)=>some ⟨t,l⟩
  |_=>none
 |_=>none
def JT (P:Program) (t:TypeId) (x:AV) (i:Int) (m:aY):Option Eff:=
 match P.underlying t with
 |some (.slice e)=>if (P.info? e).isSome then match x with
   |.c (.own id)=>match m id with
    |some (.arr _ tt l)=>if tt.size=P.cellsOf e then some ⟨.optr id tt.size i.toNat 0,[],[0<=i/\i<l.length]⟩ else none
    |some (.frz tt l)=>if tt.size=P.cellsOf e then some ⟨.c (.sptr (enc tt (l.getD i.toNat tt.dflt))),[],[0<=i/\i<l.length]⟩ else none
    |_=>none
   |.c (.sl tt l)=>if tt.size=P.cellsOf e then some ⟨.c (.sptr (enc tt (l.getD i.toNat tt.dflt))),[],[0<=i/\i<l.length]⟩ else none
   |.c (.slx tt l)=>if tt.size=P.cellsOf e then some ⟨.c (.sptr (enc tt (l.getD i.toNat tt.dflt))),[],[0<=i/\i<l.length]⟩ else none
   |_=>none
  else none
 |some (.array n e)=>if (P.info? e).isSome then
   if P.cellsOf e=1 then match x with
    |.c (.ptr id off)=>some ⟨.aptr (.ptr id off) n i,[],[0<=i/\i<n]⟩
    |.c (.sptr cs)=>some ⟨.aptr (.sptr cs) n i,[],[0<=i/\i<n]⟩
    |_=>none
   else match i with
    |.ofNat k=>if k<n then match x with
      |.c (.ptr id off)=>some ⟨.c (.ptr id (off+k*P.cellsOf e)),[],[]⟩
      |.c (.sptr cs)=>some ⟨.c (.sptr (cs.drop (k*P.cellsOf e))),[],[]⟩
      |_=>none
     else none
    |_=>none
  else none
 |_=>none
def vX (P:Program) (s:TypeId) (f:Nat):Option Field:=
 match P.underlying s with
 |some (.struct fs)=>fs[f]?
 |_=>none
def I4 (P:Program) (s:TypeId) (x:AV) (f:Nat):Option AV:=
 match vX P s f with
 |some fd=>if (P.info? fd.type).isSome=true/\P.cellsOf fd.type≠0 then match x with
   |.c (.ptr id off)=>some (.c (.ptr id (off+fd.offset)))
   |.c (.sptr cs)=>some (.c (.sptr (cs.drop fd.offset)))
   |.optr id sz i off=>some (.optr id sz i (off+fd.offset))
   |_=>none
  else none
 |none=>none
def L7 (t:Ty) (l:List t.den) (lo hi mx:Option Int):Option (AC×List Prop):=
 match mx with
 |none=>some (.sl t ((l.drop (lo.getD 0).toNat).take ((hi.getD l.length)-(lo.getD 0)).toNat),[0<=lo.getD 0/\lo.getD 0<=hi.getD l.length/\hi.getD l.length<=l.length])
 |some k=>match hi with
  |some h=>some (.slx t ((l.drop (lo.getD 0).toNat).take (h-(lo.getD 0)).toNat),[0<=lo.getD 0/\lo.getD 0<=h/\h<=l.length/\k=h])
  |none=>none
def G1 (P:Program) (d:Nat) (t:TypeId) (s x:AV) (m:aY):Option Eff:=
 match P.underlying t with
 |some (.slice e)=>match P.info? e,uj P 20 e,m d with
  |some i,some tt,none=>if i.size=tt.size/\0<tt.size/\(i.zero.any λz=>z.cells.size==tt.size)=true then
   match (match x with
    |.c .nil=>some ([]:List tt.den)
    |.c a=>match sP m a with
     |some ⟨u,l⟩=>if h:u=tt then some (dw h l) else none
     |none=>none
    |_=>none) with
   |some new=>match s with
    |.c .nil=>some ⟨.c (.own d),[(d,.arr e tt new)],[new.length<=maxLen/\new.length*i.bytes<=140737488355328]⟩
    |.c (.own id)=>match m id with
     |some (.arr e' u l)=>if h:u=tt then if e'=e/\(wl x).all (· != id) then
       some ⟨.c (.own d),[(id,.gone),(d,.arr e tt (dw h l++new))],[(dw h l).length+new.length<=maxLen/\((dw h l).length+new.length)*i.bytes<=140737488355328]⟩ else none else none
     |_=>none
    |.c (.slx u l)=>if h:u=tt then
       some ⟨.c (.own d),[(d,.arr e tt (dw h l++new))],[0<new.length/\(dw h l).length+new.length<=maxLen/\((dw h l).length+new.length)*i.bytes<=140737488355328]⟩ else none
    |_=>none
   |none=>none
   else none
  |_,_,_=>none
 |_=>none
def sW (k:IntKind) (x:Int):List AV->Option Int
 |[]=>some x
 |.c (.int k' y)::r=>if k=k' then sW k (if y<x then y else x) r else none
 |_=>none
def sV (k:IntKind) (x:Int):List AV->Option Int
 |[]=>some x
 |.c (.int k' y)::r=>if k=k' then sV k (if x<y then y else x) r else none
 |_=>none
def JU (P:Program) (t:TypeId) (x:AV) (i:Int):Option Eff:=
 match P.underlying t with
 |some .string=>match x with
  |.c (.str b)=>some ⟨.c (.int .u8 (b.data.getD i.toNat 0).toNat),[],[0<=i/\i<b.size]⟩
  |_=>none
 |some (.array n e)=>if (P.info? e).isSome=true/\(P.underlying e).isSome=true/\P.cellsOf e=1/\d9 P e=false then match x with
   |.agg cs=>match Sr cs with
    |some k=>match qB k cs with
     |some ns=>if ns.length=n then some ⟨.c (.int k (ns.getD i.toNat 0)),[],[0<=i/\i<n]⟩ else none
     |none=>none
    |none=>none
   |_=>none
  else none
 |_=>none
def tL (P:Program) (t:TypeId) (x:AV) (m:aY):Option Eff:=
 match P.underlying t,x with
 |some (.array n e),.c (.ptr id off)=>match P.info? e,uj P 20 e,m id with
  |some i,some tt,some (.box _ cs)=>match ix m cs with
   |some (cs',[])=>match iQ cs' off (n*tt.size) with
    |some bf=>match splitN tt n bf with
     |some l=>if i.size=tt.size/\0<tt.size/\n<=1000 then some ⟨.c (.sl tt l),[(id,.fbox cs')],[]⟩ else none
     |none=>none
    |none=>none
   |_=>none
  |_,_,_=>none
 |_,_=>none
where
 splitN (t:Ty):Nat->List AC->Option (List t.den)
  |0,[]=>some []
  |n+1,cs=>match dec t (cs.take t.size) with
   |some (x,[])=>match splitN t n (cs.drop t.size) with
    |some l=>some (x::l)
    |none=>none
   |_=>none
  |_,_=>none
def oN (Γ:Gm) (n:Int) (args:List AV):List (Int×Nat)->Option ((rs:List Ty)×ae rs×List Prop)
 |[]=>none
 |(k,f)::r=>match Γ f with
  |some ct=>match lD Γ ct.ps args with
   |some (x,ns)=>match r with
    |[]=>some ⟨ct.rs,ct.f x,(n=k)::(ns++ct.ok x)⟩
    |r=>match oN Γ n args r with
     |some ⟨rs,y,ms⟩=>if h:rs=ct.rs then some ⟨ct.rs,bif n==k then ct.f x else C7 h y,[n=k->aE (ns++ct.ok x),n≠k->aE ms]⟩ else none
     |none=>none
   |none=>none
  |none=>none
def Hr (Γ:Gm) (fv:AV) (args:List AV):Option (AV×List Prop):=
 match fv with
 |.c (.fn f caps)=>O5 Γ f (args++caps.map .c)
 |.c (.fv ps rs g)=>match iK ps args with
  |some x=>some (mU rs (g x),[])
  |none=>none
 |.c (.pv ps rs g D)=>match iK ps args with
  |some x=>some (mU rs (g x),[D x])
  |none=>none
 |.c (.fs es n)=>match oN Γ n args es with
  |some ⟨rs,y,ns⟩=>some (mU rs y,ns)
  |none=>none
 |_=>none
def Ke (P:Program) (t:TypeId) (x:AV) (m:aY):Option Eff:=
 match P.underlying t with
 |some (.slice _)=>match x with
  |.c .nil=>some ⟨.c (.int .i64 0),[],[]⟩
  |.c a=>match sP m a with
   |some ⟨_,l⟩=>some ⟨.c (.int .i64 l.length),[],[]⟩
   |none=>none
  |_=>none
 |some .string=>match x with
  |.c (.str s)=>some ⟨.c (.int .i64 s.size),[],[]⟩
  |_=>none
 |_=>none
def O6 (P:Program) (d:Nat) (b:Builtin) (ts:List TypeId) (vs:List AV) (m:aY):Option Eff:=
 match b,ts,vs with
 |.len,[t],[x]=>Ke P t x m
 |.append,[t,t'],[s,x]=>if t=t' then G1 P d t s x m else none
 |.min,_,.c (.int k n)::r=>match sW k n r with
  |some y=>some ⟨.c (.int k y),[],[]⟩
  |none=>none
 |.max,_,.c (.int k n)::r=>match sV k n r with
  |some y=>some ⟨.c (.int k y),[],[]⟩
  |none=>none
 |_,_,_=>none
def lR:List AV->Option (List AC×List (Nat×Ob))
 |[]=>some ([],[])
 |.c a::r=>match lR r with
  |some (y,_)=>some (a::y,[])
  |none=>none
 |_=>none
def Kg:AC->Option ((t:Ty)×List t.den)
 |.sl t l=>some ⟨t,l⟩
 |.slx t l=>some ⟨t,l⟩
 |_=>none
def wA:Bool->List AV->Option (Option Int×List AV)
 |false,r=>some (none,r)
 |true,.c (.int _ n)::r=>some (some n,r)
 |true,_=>none
def Kj (P:Program) (d:Nat) (t:TypeId) (n c:Int) (m:aY):Option Eff:=
 match P.underlying t with
 |some (.slice e)=>match P.info? e,uj P 20 e,m d with
  |some i,some tt,none=>match i.zero with
   |some z=>match qg (pV z) with
    |some cs=>match dec tt cs with
     |some (x,[])=>if i.size=tt.size/\z.cells.size=tt.size/\0<tt.size then
       some ⟨.c (.own d),[(d,.arr e tt (List.replicate n.toNat x))],[0<=n/\n<=c/\c<=maxLen/\c*i.bytes<=140737488355328]⟩ else none
     |_=>none
    |none=>none
   |none=>none
  |_,_,_=>none
 |_=>none
def H7 (P:Program) (d:Nat) (t:TypeId) (lo hi mx:Bool) (x:AV) (r:List AV) (m:aY):Option Eff:=
 match lo,hi,mx,x,r with
 |false,true,false,.c (.own id),[.c (.int _ h)]=>match P.underlying t,m id,m d with
  |some (.slice e),some (.arr e' tt l),none=>if (P.info? e).isSome=true/\P.cellsOf e=tt.size then
    some ⟨.c (.own d),[(id,.gone),(d,.arr e' tt (l.take h.toNat))],[0<=h/\h<=l.length]⟩
   else none
  |_,_,_=>none
 |_,_,_,_,_=>none
def iS:AV->Bool
 |.maybe _ _ _=>false
 |_=>true
def zV (P:Program) (t:TypeId):Bool:=match P.underlying t with
 |some (.interface _)=>true
 |_=>false
def SN (P:Program) (o:BinOp) (t:TypeId) (y:Operand) (x:AV):Option Bool:=
 match o,y,x with
 |.eql,.const .nilIface,.c (.ic es _ z)=>if zV P t=true then some (dq es z.1).isNone else none
 |.neq,.const .nilIface,.c (.ic es _ z)=>if zV P t=true then some (!(dq es z.1).isNone) else none
 |_,_,_=>none
def DR (P:Program) (name:String) (ty:TypeId):Option FuncId:=
 match P.info? ty,P.underlying ty with
 |some i,some (.struct _)=>match i.methods.find? (·.name==name) with
  |some mm=>match mm.func with
   |some (f,false)=>if mm.path.isEmpty=true then some f else none
   |_=>none
  |none=>none
 |_,_=>none
def zS (P:Program) (name:String):List (Int×Nat)->Option (List (Int×Nat))
 |[]=>some []
 |(k,ty)::r=>match DR P name ty,zS P name r with
  |some f,some fs=>some ((k,f)::fs)
  |_,_=>none
def jx {α:Type} (i:Int) (l m:List α):List α:=l.take i.toNat++m++l.drop i.toNat
def Ux (Γ:Gm):AV->Option Row
 |.c (.fn f [])=>Γ.r f
 |_=>none
def Lo (r:Row) (d:Nat) (args:List AV) (m:aY):Option Eff:=
 match r,args,m d with
 |.clone e T bytes,[.c a],none=>match sP m a with
  |some ⟨t1,l⟩=>if h1:t1=T then some ⟨.c (.own d),[(d,.arr e T (dw h1 l))],[l.length<=maxLen,l.length*bytes<=140737488355328]⟩ else none
  |none=>none
 |.ins e T bytes,[.c (.own a),.c (.int .i64 i),.c (.own b)],none=>match m a,m b with
  |some (.arr e1 t1 l),some (.arr e2 t2 x)=>if h1:t1=T then if h2:t2=T then if e1=e/\e2=e/\a≠b then
    some ⟨.c (.own d),[(a,.gone),(d,.arr e T (jx i (dw h1 l) (dw h2 x)))],[0<=i/\i<=l.length,x.length=1,l.length+1<=maxLen/\(l.length+1)*bytes<=140737488355328]⟩ else none else none else none
  |_,_=>none
 |_,_,_=>none
def Bp (Γ:Gm) (n:Int) (cs:List AC) (args:List AV):List (Int×Nat)->Option ((T:Ty)×T.den×List Prop)
 |[]=>none
 |(k,f)::r=>match Γ.r f with
  |some (.upd T ps g)=>match dec T cs,iK ps args with
   |some (x,[]),some y=>match r with
    |[]=>some ⟨T,g x y,[n=k]⟩
    |r=>match Bp Γ n cs args r with
     |some ⟨T',z,ms⟩=>if h:T'=T then some ⟨T,bif n==k then g x y else Ht h z,[n≠k->aE ms]⟩ else none
     |none=>none
   |_,_=>none
  |_=>none
def H3 (P:Program) (Γ:Gm) (d:Nat) (op:Op) (vs:List AV) (m:aY):Option Eff:=
 match op,vs with
 |.move _,[x] | .assign _,[x]=>some ⟨x,[],[]⟩
 |.alloc e,[]=>match (P.info? e).bind (·.zero),m d with
  |some z,none=>match qg (pV z) with
   |some cs=>some ⟨.c (.ptr d 0),[(d,.box e cs)],[]⟩
   |none=>none
  |_,_=>none
 |.box e _,[x]=>match qg x,m d with
  |some cs,none=>some ⟨.c (.ptr d 0),[(d,.box e cs)],[]⟩
  |_,_=>none
 |.build t ps,vs=>match GE P t ((ps.toList.map (·.1)).zip vs) with
  |some v=>some ⟨v,[],[]⟩
  |none=>none
 |.buildSlice t n ps,vs=>match P.underlying t,m d with
  |some (.slice e),none=>match P.info? e,uj P 20 e,eF m vs with
   |some i,some tt,some (vs',u)=>if i.size=tt.size/\0<tt.size/\n*i.size<=16777216/\ps.size=n/\(i.zero.any λz=>z.cells.size==tt.size)=true then match px tt 0 ((ps.toList.map (·.1)).zip vs') with
     |some l=>if l.length=n then some ⟨.c (.own d),u++[(d,.arr e tt l)],[]⟩ else none
     |none=>none
    else none
   |_,_,_=>none
  |_,_=>none
 |.load t _,[x]=>DL P t x m
 |.store t _ _,[x,v]=>LG P t x v m
 |.nilCheck _,[x]=>match x with
  |.c (.ptr id off)=>some ⟨.c (.ptr id off),[],[]⟩
  |.c (.sptr cs)=>some ⟨.c (.sptr cs),[],[]⟩
  |_=>none
 |.binOp o t _ y0 _,[x,y]=>match SN P o t y0 x with
  |some v=>some ⟨.c (.bool v),[],[]⟩
  |none=>match G5 P o t x y with
   |some (a,n)=>some ⟨.c a,[],n⟩
   |none=>none
 |.unOp o _ _,[.c (.int k n)]=>match o with
  |.neg=>some ⟨.c (.int k (k.wrap (0-n))),[],[]⟩
  |_=>none
 |.unOp o _ _,[.c (.bool b)]=>match o with
  |.not=>some ⟨.c (.bool (!b)),[],[]⟩
  |_=>none
 |.convert s t _,[.c (.int _ n)]=>match P.underlying s,P.underlying t with
  |some _,some (.int k)=>some ⟨.c (.int k (k.wrap n)),[],[]⟩
  |_,_=>none
 |.makeSlice t _ _,[.c (.int _ n),.c (.int _ c)]=>Kj P d t n c m
 |.slice t _ lo hi mx,x::r=>match H7 P d t lo.isSome hi.isSome mx.isSome x r m with
  |some e=>some e
  |none=>match (if lo.isSome=false/\hi.isSome=false/\mx.isSome=false then tL P t x m else none) with
  |some e=>some e
  |none=>match P.underlying t,qQ m x,wA lo.isSome r with
  |some (.slice e),some (x',u),some (l,r1)=>match wA hi.isSome r1 with
   |some (h,r2)=>match wA mx.isSome r2 with
    |some (k,[])=>match x' with
     |.c a=>match Kg a with
      |some ⟨tt,y⟩=>if (P.info? e).isSome/\P.cellsOf e=tt.size then match L7 tt y l h k with
        |some (z,n)=>some ⟨.c z,u,n⟩
        |none=>none
       else none
      |none=>none
     |_=>none
    |_=>none
   |none=>none
  |_,_,_=>none
 |.fieldAddr s _ f,[x]=>match I4 P s x f with
  |some v=>some ⟨v,[],[]⟩
  |none=>none
 |.field s _ f,[.agg cs]=>match vX P s f with
  |some fd=>if (P.info? fd.type).isSome/\(P.underlying fd.type).isSome then match iQ cs fd.offset (if d9 P fd.type then P.cellsOf fd.type else 1) with
    |some l=>match DX (d9 P fd.type) l with
     |some v=>some ⟨v,[],[]⟩
     |none=>none
    |none=>none
   else none
  |none=>none
 |.indexAddr t _ _,[x,.c (.int _ i)]=>JT P t x i m
 |.index t _ _,[x,.c (.int _ i)]=>JU P t x i
 |.lookup t _ _ true,[.c (.mp es),.c (.int .i64 n)]=>match P.underlying t with
  |some (.map k e)=>match P.underlying k,(P.info? e).bind (·.zero) with
   |some (.int .i64),some .nilFunc=>some ⟨.tup [.c (.fs es n),.c (.bool (es.find? (λx=>x.1==n)).isSome)],[],[]⟩
   |_,_=>none
  |_=>none
 |.extract _ i,[.tup vs]=>match vs[i]? with
  |some v=>some ⟨v,[],[]⟩
  |none=>none
 |.typeAssert _ _ ty true,[.c (.ic es _ x)]=>match P.underlying ty with
  |some (.struct _)=>if ((P.info? ty).bind (·.zero)).isSome=true then some ⟨.tup [.dead,.c (.bool (dq es x.1==some ty))],[],[]⟩ else none
  |_=>none
 |.makeFunc (.func f) first _,vs=>if first.size=0 then match (if (Γ f).isSome then tH m vs else lR vs) with
   |some (caps,u)=>some ⟨.c (.fn f caps),u,[]⟩
   |none=>none
  else none
 |.call ⟨.builtin b,_,ts⟩,vs=>O6 P d b ts.toList vs m
 |.call ⟨.invoke _ name,_,_⟩,.c (.ic es t x)::args=>match eF m args,zS P name es with
  |some (args',u),some fs=>match oN Γ x.1 (gL t x.2::args') fs with
   |some ⟨rs,y,n⟩=>some ⟨mU rs y,u,n⟩
   |none=>none
  |_,_=>none
 |.call ⟨.value _,_,_⟩,.c (.fs es n) :: .c (.ptr id 0)::args=>match m id with
  |some (.box e cs)=>match Bp Γ n cs args es with
   |some ⟨T,z,ns⟩=>some ⟨.dead,[(id,.box e (enc T z))],ns⟩
   |none=>none
  |_=>none
 |.call ⟨.value _,_,_⟩,fv::args=>match Ux Γ fv with
  |some r=>Lo r d args m
  |none=>match eF m args with
   |some (args',u)=>match Hr Γ fv args' with
    |some (v,n)=>some ⟨v,u,n⟩
    |none=>none
   |none=>none
 |_,_=>none
def CF (P:Program) (Γ:Gm) (d:Nat) (op:Op) (vs:List AV) (m:aY):Option Eff:=
 match op with
 |.pick c _ _=>match vs with
  |[.c (.bool p),a,b]=>match Aq p (xP c true a) (xP c false b) with
   |some v=>some ⟨v,[],[]⟩
   |none=>none
  |_=>none
 |op=>if vs.all iS then H3 P Γ d op vs m else none
def wo (op:Op) (vs:List AV) (m:aY):List Nat:=
 match op with
 |.makeFunc _ _ _=>vs.flatMap wl++(vs.flatMap wl).flatMap (λi=>qn8 (m i))
 |.move _=>[]
 |_=>vs.flatMap wl
def kj (ks:List Nat) (m:aY):aY:=λi=>if ks.contains i then m i else none
def oV (sl:Nat->AV):Nat->Tmp->Bool->Option (List (Tmp×Bool×Bool))
 |0,_,_=>none
 |n+1,g,want=>match sl g with
  |.c (.bool b)=>some [(g,want,b)]
  |.maybe g0 w0 (.c (.bool b))=>match oV sl n g0 w0 with
   |some l=>some ((g,want,b)::l)
   |none=>none
  |_=>none
def rF (gs:List (Tmp×Bool×Bool)):AV->AV
 |.maybe g w v=>if gs.any (λx=>x.1==g&&x.2.1==w) then v else .maybe g w v
 |v=>v
def LY (gs:List (Tmp×Bool×Bool)) (ns:List Prop):List Prop:=ns.map λp=>gs.foldr (λx q=>x.2.2=x.2.1->q) p
structure Ef where
 dst:Option Tmp
 v:AV
 wr:List (Nat×Ob)
 need:List Prop
 rd:List Tmp
 ks:List Nat
def xM (op:Op):List Tmp:=op.operands.toList.filterMap λ
 |.tmp t=>some t
 |_=>none
def yX (b:Nat) (o:Oper):Nat:=b+o.dst.getD 1000000
def eW (P:Program) (Γ:Gm) (b:Nat) (ops:List Oper) (o:Oper) (sl:Nat->AV) (m:aY):Option Ef:=
 match o.guard with
 |none=>
  let vs:=o.op.operands.toList.map (gN sl)
  let ks:=yX b o::wo o.op vs m
  match CF P Γ (yX b o) o.op vs (kj ks m) with
  |some e=>some ⟨o.dst,e.v,e.wr,e.need,xM o.op,ks⟩
  |none=>none
 |some (j,want)=>
  match (ops[j]?).bind (·.dst) with
  |some g=>match oV sl 5 g want with
   |some gs=>
    let vs:=o.op.operands.toList.map λx=>rF gs (gN sl x)
    let ks:=yX b o::wo o.op vs m
    match CF P Γ (yX b o) o.op vs (kj ks m) with
    |some e=>match e.wr with
     |[]=>some ⟨o.dst,.maybe g want e.v,[],LY gs e.need,gs.map (·.1)++xM o.op,ks⟩
     |_=>none
    |none=>none
   |none=>none
  |none=>none
def fp (sl:Nat->AV) (d:Option Tmp) (v:AV):Nat->AV:=
 match d with
 |none=>sl
 |some t=>λi=>if i=t then v else sl i
def Ef.go (e:Ef) (s:St):St:=⟨s.n,fp s.sl e.dst e.v,aK s.mem e.wr,s.gs⟩
def qR (P:Program) (Γ:Gm) (b:Nat) (ops:List Oper):List Oper->St->Option (List Ef×St)
 |[],s=>some ([],s)
 |o::r,s=>match eW P Γ b ops o s.sl s.mem with
  |some e=>match qR P Γ b ops r (e.go s) with
   |some (es,s')=>some (e::es,s')
   |none=>none
  |none=>none
def gr:List Nat->List Oper->List Nat
 |acc,[]=>acc
 |acc,o::r=>gr (acc++[o.after.toList.foldr (λe s=>if Region.binds .any e then 2 ^ e.on ||| acc.getD e.on 0 ||| s else s) 0]) r
def rb (n:Nat):Nat->List Tmp->List Oper->Bool
 |_,_,[]=>true
 |k,W,o::r=>
  (match o.dst with
   |some t=>decide (t<n) && !W.contains t
   |none=>true) &&
  (match o.guard with
   |some (j,_)=>decide (j<k)&&o.after.toList.any λe=>e.on==j&&Region.binds .any e
   |none=>true) &&
  (o.after.toList.all λe=>!Region.binds .any e || decide (e.on<k)) &&
  rb n (k+1) (o.dst.toList++W) r
def kb (e f:Ef):Bool:=
 (match e.dst with
  |some t=>!f.rd.contains t&&(f.dst != some t)
  |none=>true) &&
 (match f.dst with
  |some t=>!e.rd.contains t
  |none=>true) &&
 e.wr.all (λx=>!f.ks.contains x.1&&f.wr.all λy=>x.1 != y.1) &&
 f.wr.all λy=>!e.ks.contains y.1
def Em (k:Nat) (mask:Nat) (f:Ef):Nat->List Ef->Bool
 |_,[]=>true
 |i,e::r=>if i<k then (mask.testBit i || kb e f)&&Em k mask f (i+1) r else true
def tf (ops:List Oper) (es:List Ef):Bool:=
 let ms:=gr [] ops
 (List.range es.length).all λk=>match es[k]?,ms[k]? with
  |some f,some mask=>Em k mask f 0 es
  |_,_=>false
def jh (sl:Nat->AV):Nat->AV:=λi=>match sl i with
 |.maybe _ _ _=>.dead
 |v=>v
inductive XE where
 |normal
 |exit (id:Nat)
 |ret
 |panic (p:PV)
 |val (v:AV)
 |jump (l:Nat)
inductive Tr where
 |leaf (e:XE) (s:St)
 |br (b:Bool) (x y:Tr)
 |need (p:Prop) (x:Tr)
 |two (p:Prop) (x y:Tr)
def Tr.bind (f:St->Option Tr):Tr->Option Tr
 |.leaf .normal s=>f s
 |.leaf e s=>some (.leaf e s)
 |.br b x y=>match x.bind f,y.bind f with
  |some x',some y'=>some (.br b x' y')
  |_,_=>none
 |.need p x=>match x.bind f with
  |some x'=>some (.need p x')
  |none=>none
 |.two p x y=>match x.bind f,y.bind f with
  |some x',some y'=>some (.two p x' y')
  |_,_=>none
def Tr.bindV (f:AV->St->Option Tr):Tr->Option Tr
 |.leaf (.val v) s=>f v s
 |.leaf (.panic p) s=>some (.leaf (.panic p) s)
 |.leaf _ _=>none
 |.br b x y=>match x.bindV f,y.bindV f with
  |some x',some y'=>some (.br b x' y')
  |_,_=>none
 |.need p x=>match x.bindV f with
  |some x'=>some (.need p x')
  |none=>none
 |.two p x y=>match x.bindV f,y.bindV f with
  |some x',some y'=>some (.two p x' y')
  |_,_=>none
def Tr.block (id:Nat):Tr->Tr
 |.leaf (.exit i) s=>if i=id then .leaf .normal s else .leaf (.exit i) s
 |.leaf e s=>.leaf e s
 |.br b x y=>.br b (x.block id) (y.block id)
 |.need p x=>.need p (x.block id)
 |.two p x y=>.two p (x.block id) (y.block id)
def Tr.scope:Tr->Tr
 |.leaf (.jump _) s=>.need False (.leaf .ret s)
 |.leaf (.val _) s=>.need False (.leaf .ret s)
 |.leaf e s=>.leaf e s
 |.br b x y=>.br b x.scope y.scope
 |.need p x=>.need p x.scope
 |.two p x y=>.two p x.scope y.scope
def cG:Code->Nat
 |.loop _=>1
 |.seq a b=>cG a+cG b
 |.cond _ a b=>cG a+cG b
 |.block _ c=>cG c
 |.scope c=>cG c
 |_=>0
def needL (ns:List Prop) (t:Tr):Tr:=ns.foldr (λp t=>.need p t) t
def DV (es:List Ef) (t:Tr):Tr:=es.foldr (λe t=>needL e.need t) t
def iH (s:St):St:=⟨s.n,jh s.sl,s.mem,s.gs⟩
def E8 (P:Program) (Γ:Gm) (b:Nat) (ops:List Oper) (draw:Bool) (s:St):Option Tr:=
 if rb s.n 0 [] ops then match qR P Γ b ops ops s with
  |some (es,s')=>if draw=false\/tf ops es=true then some (DV es (.leaf .normal (iH s'))) else none
  |none=>none
 else none
structure Cx where
 Γ:Gm
 Pi:FuncId->Option Pc
 K:Nat->FuncId->List AV->St->Option Tr
def AM (P:Program) (C:Cx) (b:Nat) (o:Oper) (s:St):Option Tr:=
 match o.guard,o.op,o.op.operands.toList.map (gN s.sl) with
 |none,.call ⟨.value _,_,_⟩,.c (.fn f caps)::args=>match C.Pi f with
  |some pc=>match eF s.mem (args++caps.map .c) with
   |some (xs,u)=>match lD C.Γ pc.ps xs with
    |some (x,n)=>some (needL (n++pc.ok x) (.br (pc.bad x) (.leaf (.panic (pc.pv x)) (iH ⟨s.n,s.sl,aK s.mem u,s.gs⟩)) (.leaf (.val (mU pc.rs (pc.f x))) (iH ⟨s.n,s.sl,aK s.mem u,s.gs⟩))))
    |none=>none
   |none=>none
  |none=>if args.all iS then C.K (yX b o) f (args++caps.map .c) (iH s) else none
 |none,.binOp .eql t _ _ _,[.c (.sl _ l),.c .nil]=>if P.underlying t matches some (.slice _) then
   some (.two (l=[]) (.leaf (.val (.c (.bool true))) (iH s)) (.leaf (.val (.c (.bool false))) (iH s))) else none
 |_,_,_=>none
def w9 (P:Program) (C:Cx) (b:Nat) (ops:List Oper):List Oper->St->Option Tr
 |[],s=>some (.leaf .normal (iH s))
 |o::r,s=>match eW P C.Γ b ops o s.sl s.mem with
  |some e=>match w9 P C b ops r (e.go s) with
   |some t=>some (needL e.need t)
   |none=>none
  |none=>match AM P C b o s with
   |some t=>t.bindV λv s'=>w9 P C b ops r ⟨s'.n,fp s'.sl o.dst v,s'.mem,s'.gs⟩
   |none=>none
def wq (kn:List (Tmp×Bool)) (t:Tmp):Option Bool:=match kn with
 |[]=>none
 |(x,v)::r=>if x=t then some v else wq r t
def BZ (kn:List (Tmp×Bool)):Operand->Option Bool
 |.tmp t=>wq kn t
 |.const (.bool c)=>some c
 |_=>none
def J2 (kn:List (Tmp×Bool)):Op->Option Operand
 |.move x=>some x
 |.pick c x y=>match BZ kn c with
  |some true=>some x
  |some false=>some y
  |none=>none
 |_=>none
def zJ (o:Oper):Oper:=⟨o.dst,o.op,o.type,o.pos,o.after,none⟩
def w8 (P:Program) (C:Cx) (b:Nat) (ops:List Oper) (kn:List (Tmp×Bool)) (o:Oper) (s:St) (k:List (Tmp×Bool)->St->Option Tr):Option Tr:=
 match J2 kn o.op,o.dst with
 |some x,some d=>match BZ kn x with
  |some c=>k ((d,c)::kn) ⟨s.n,fp s.sl (some d) (.c (.bool c)),s.mem,s.gs⟩
  |none=>match gN s.sl x with
   |.maybe _ _ _=>none
   |v=>k kn ⟨s.n,fp s.sl (some d) v,s.mem,s.gs⟩
 |_,_=>match eW P C.Γ b ops (zJ o) s.sl s.mem with
  |some e=>match k kn (e.go s) with
   |some t=>some (needL e.need t)
   |none=>none
  |none=>match AM P C b (zJ o) s with
   |some t=>t.bindV λv s'=>k kn ⟨s'.n,fp s'.sl o.dst v,s'.mem,s'.gs⟩
   |none=>none
def lU (P:Program) (C:Cx) (b:Nat) (ops:List Oper):List (Tmp×Bool)->List Oper->St->Option Tr
 |_,[],s=>some (.leaf .normal (iH s))
 |kn,o::r,s=>match o.guard with
  |none=>w8 P C b ops kn o s λkn s=>lU P C b ops kn r s
  |some (j,want)=>match (ops[j]?).bind (·.dst) with
   |none=>none
   |some g=>match wq kn g with
    |some v=>if v=want then w8 P C b ops kn o s λkn s=>lU P C b ops kn r s
     else lU P C b ops kn r ⟨s.n,fp s.sl o.dst .dead,s.mem,s.gs⟩
    |none=>match s.sl g with
     |.c (.bool p)=>match w8 P C b ops ((g,want)::kn) o s λkn s=>lU P C b ops kn r s,lU P C b ops ((g,!want)::kn) r ⟨s.n,fp s.sl o.dst .dead,s.mem,s.gs⟩ with
      |some x,some y=>some (.br p (if want then x else y) (if want then y else x))
      |_,_=>none
     |_=>none
def Dz (m:aY) (id:Nat):aY:=match nY m (.own id) with
 |some (_,u)=>aK m u
 |none=>m
def qnc (s:St):St:=⟨s.n,s.sl,((List.range s.n).flatMap λt=>match s.sl t with
 |.c (.ptr id 0)=>match s.mem id with
  |some (.box _ cs)=>cs.flatMap nc
  |_=>[]
 |_=>[]).foldl Dz s.mem,s.gs⟩
def cU (P:Program) (C:Cx) (bs:Nat) (Λ:Nat->St->Option Tr):Code->Nat->St->Option Tr
 |.skip,_,s=>some (.leaf .normal s)
 |.ret,_,s=>some (.leaf .ret s)
 |.exit id,_,s=>some (.leaf (.exit id) s)
 |.region _ ops draw,_,s=>match E8 P C.Γ bs ops.toList draw s with
  |some t=>some t
  |none=>match (if draw=false/\rb s.n 0 [] ops.toList=true then w9 P C bs ops.toList ops.toList s else none) with
   |some t=>some t
   |none=>match (if draw=false/\rb s.n 0 [] ops.toList=true then lU P C bs ops.toList [] ops.toList s else none) with
    |some t=>some t
    |none=>match E8 P C.Γ bs ops.toList draw (qnc s) with
     |some t=>some t
     |none=>some (.need False (.leaf .ret s))
 |.seq a b,k,s=>match cU P C bs Λ a k s with
  |some t=>t.bind (cU P C bs Λ b (k+cG a))
  |none=>none
 |.cond c a b,k,s=>match gN s.sl c with
  |.c (.bool p)=>match cU P C bs Λ a k s,cU P C bs Λ b (k+cG a) s with
   |some x,some y=>some (.br p x y)
   |_,_=>none
  |_=>none
 |.block id c,k,s=>match cU P C bs Λ c k s with
  |some t=>some (t.block id)
  |none=>none
 |.loop _,k,s=>match Λ k s with
  |some t=>some t
  |none=>some (.need False (.leaf .ret s))
 |.scope c,k,s=>match cU P C bs Λ c k s with
  |some t=>some t.scope
  |none=>none
 |.label _,_,s=>some (.leaf .normal s)
 |.goto l,_,s=>some (.leaf (.jump l) s)
 |_,_,s=>some (.need False (.leaf .ret s))
def tV (n:Nat) (args:List AV):St:=⟨n,λi=>args.getD i .dead,λ_=>none,λ_=>.dead⟩
def St.at (s:St) (t:Nat):AV:=if t<10000 then s.sl t else s.gs (t-10000)
def KU (P:Program) (s:St):ResultVar->Option (AV×List Prop)
 |.tmp t=>some (s.sl t,[])
 |.cell a t=>match s.sl a with
  |.c (.ptr id off)=>match DL P t (.c (.ptr id off)) s.mem with
   |some e=>some (e.v,e.need)
   |none=>none
  |_=>none
def gV (P:Program) (s:St):List ResultVar->Option (List AV×List Prop)
 |[]=>some ([],[])
 |r::rs=>match KU P s r,gV P s rs with
  |some (v,n),some (vs,k)=>some (v::vs,n++k)
  |_,_=>none
def tB:List AV->AV
 |[v]=>v
 |vs=>.tup vs
def St.back (n:Nat) (s:St):St:=⟨n,λt=>if t<10000 then s.gs t else .dead,s.mem,λt=>s.gs (t+10000)⟩
def gM (P:Program) (rv:List ResultVar) (n:Nat):Tr->Option Tr
 |.leaf .ret s=>match gV P s rv with
  |some (vs,ns)=>some (needL ns (.leaf (.val (tB vs)) (s.back n)))
  |none=>none
 |.leaf .normal s=>match gV P s rv with
  |some (vs,ns)=>some (needL ns (.leaf (.val (tB vs)) (s.back n)))
  |none=>none
 |.leaf (.panic p) s=>some (.leaf (.panic p) (s.back n))
 |.leaf _ _=>none
 |.br b x y=>match gM P rv n x,gM P rv n y with
  |some x',some y'=>some (.br b x' y')
  |_,_=>none
 |.need p x=>match gM P rv n x with
  |some x'=>some (.need p x')
  |none=>none
 |.two p x y=>match gM P rv n x,gM P rv n y with
  |some x',some y'=>some (.two p x' y')
  |_,_=>none
def ne (P:Program) (C:Cx) (Xi:FuncId->Option (Func×(Nat->St->Option Tr))) (d:Nat) (f:FuncId) (args:List AV) (s:St):Option Tr:=
 match Xi f with
 |some (fn,Λ)=>match fn.body with
  |some c=>if args.length<=fn.ntmps/\(fn.name == "runtime.NumGoroutine")=false then
    match cU P C ((d+1)*10000) Λ c 0 ⟨fn.ntmps,λi=>args.getD i .dead,s.mem,s.at⟩ with
    |some t=>gM P fn.results.toList s.n t
    |none=>none
   else none
  |none=>none
 |none=>none
end Go.Ab

namespace Go.Ab
open Go Go.RowKit
section
variable (P:Program) (w:World) (F:Nat->Prop) (R:Nat->Value->Prop)
def bC:List AV->List Value->Prop
 |[],[]=>True
 |a::r,v::s=>aM P w F R a v/\bC r s
 |_,_=>False
end
def TX {P:Program} {w:World} {F:Nat->Prop} {R:Nat->Value->Prop}:{us:List Value} -> {vs:List AV}->bC P w F R vs us->mJ P w F R vs (λj u=>us[j]? = some u)
 |[],[],_=>trivial
 |u::us,v::vs,h=>⟨⟨u,rfl,h.1⟩,by simpa using TX h.2⟩
 |[],_::_,h=>h.elim
 |_::_,[],h=>h.elim
def BE (P:Program) (B:Nat) (o:Oper) (a:Act) (w:World) (F:Nat->Prop) (γ:Nat->Value) (M:aY) (v:AV) (wr:List (Nat×Ob)):Prop:=
 ∀ (K:Act->World->Prop) (Q:Exit->Act->World->Prop),
  (∀ u w' F' γ',Step B w F γ M w' F' γ' (aK M wr)->MemOK P B w' F' γ' (aK M wr)->aM P w' F' (aA (aK M wr) γ') v u->K (a.put o.dst u) w')->o.wp P a w K Q
section
variable {P:Program} {B:Nat} {o:Oper} {a:Act} {w w':World} {F F':Nat->Prop} {γ γ':Nat->Value} {M m:aY} {R:Nat->Value->Prop}
def nx {v:AV} {wr:List (Nat×Ob)} {u:Value} (hr:(execOp a.eval o).run P w = .ok (.value u) w') (hs:Step B w F γ M w' F' γ' (aK M wr)) (hm:MemOK P B w' F' γ' (aK M wr))
  (ha:aM P w' F' (aA (aK M wr) γ') v u):BE P B o a w F γ M v wr:=by
 intro K Q hK;unfold Oper.wp;rw[hr];exact hK u w' F' γ' hs hm ha
def eE {v:AV} {u:Value} (hm:MemOK P B w F γ M) (hb:∀ b,F b->b<w.heap.size) (hr:(execOp a.eval o).run P w = .ok (.value u) w) (ha:aM P w F (aA M γ) v u):BE P B o a w F γ M v []:=
 nx hr (Step.refl hb) hm ha
def aR.drop_ {cs:List AC} {g:Nat->Value->Prop} (h:aR P w F R cs g) (n:Nat):aR P w F R (cs.drop n) (λj u=>g (n+j) u):=
 pK _ λj c hc=>h.at_ (by rw[<- hc,ubz])
def aR.take_ {cs:List AC} {g:Nat->Value->Prop} (h:aR P w F R cs g) (n:Nat):aR P w F R (cs.take n) g:=
 pK _ λj c hc=>h.at_ (by rw[ub0] at hc; split at hc<;>simp_all)
def aR.turn {cs:List AC} {g g':Nat->Value->Prop} (h:aR P w F R cs g) (hg:∀ j u,j<cs.length->g j u->g' j u):aR P w F R cs g':=
 pK _ λj c hc=>by
  obtain⟨u,h1,h2⟩:=h.at_ hc;exact⟨u,hg j u (uak.1 hc).1 h1,h2⟩
def aR.vals:(cs:List AC) -> {g:Nat->Value->Prop}->aR P w F R cs g->∃ us:List Value,us.length=cs.length/\(∀ j u,us[j]? = some u->g j u)/\aR P w F R cs (λj u=>us[j]? = some u)/\∀ u∈us,u.oneCell'=true
 |[],_,_=>⟨[],rfl,λj u h=>by simp at h,uT,λu h=>by simp at h⟩
 |c::r,g,h=>by
  obtain⟨⟨u,h1,h2,h3⟩,h4⟩:=h;obtain⟨us,e1,e2,e3,e4⟩:=aR.vals r h4;refine⟨u::us,by simp[e1],λj v hv=>?_,⟨⟨u,rfl,h2,h3⟩,by simpa using e3⟩,λv hv=>?_⟩
  ·cases j with
   |zero=>simp at hv; subst hv; exact h1
   |succ j=>exact e2 j v (by simpa using hv)
  ·rcases ueg.1 hv with rfl|hv
   ·exact h2
   ·exact e4 v hv
def wg {cs l:List AC} {off n:Nat} {g:Nat->Value->Prop} (h:iQ cs off n=some l) (hr:aR P w F R cs g):l.length=n/\aR P w F R l (λj u=>g (off+j) u):=by
 unfold iQ at h;split at h
 ·cases h;exact⟨by simp; omega,(hr.drop_ off).take_ n⟩
 ·cases h
def oD {id off:Nat} {e:TypeId} {cs:List AC} {v:Value} (hm:MemOK P B w F γ M) (hM:M id=some (.box e cs)) (h:bh P w F (aA M γ) (.ptr id off) v) :
  ∃ b arr,γ id = .pointer (some ⟨b,0,none⟩)/\v = .pointer (some ⟨b,off,none⟩)/\w.heap[b]? = some (.cells arr e (0,0))/\¬ F b/\B<=b/\arr.size=cs.length/\aR P w F (aA M γ) cs (λj u=>arr[j]? = some u):=by
 obtain⟨b,arr,h1,h2⟩:=hm.ob id _ hM;obtain⟨b',h3,h4⟩:=h;unfold aA at h3;rw[hM] at h3;simp only[h1,ubr,ucj,Addr.mk.injEq,uft] at h3;subst h3;exact⟨b',arr,h1,h4,h2⟩
def Ir {id off:Nat} {cs:List AC} {v:Value} (hm:MemOK P B w F γ M) (hM:M id=some (.fbox cs)) (h:bh P w F (aA M γ) (.ptr id off) v) :
  ∃ b,v = .pointer (some ⟨b,off,none⟩)/\F b/\aR P w F (aA M γ) cs (λj u=>w.cell? ⟨b,j,none⟩=some u):=by
 obtain⟨b,h1,h2⟩:=hm.ob id _ hM;obtain⟨b',h3,h4⟩:=h;unfold aA at h3;rw[hM] at h3;simp only[h1,ubr,ucj,Addr.mk.injEq,uft] at h3;subst h3;exact⟨b',h4,h2⟩
def kd {id:Nat} {v:Value} {o:Ob} (hM:M id=some o) (ho:o ≠ .gone) (h:bh P w F (aA M γ) (.own id) v):v=γ id:=by
 simp only[bh] at h;unfold aA at h;cases o<;>simp_all
def o9 (a:Addr) (i j:Nat):(a.add i).add j=a.add (i+j):=by
 unfold Addr.add;by_cases hi:i=0<;>by_cases hj:j=0<;>simp[hi,uef]
def jK (b off j:Nat):(⟨b,off,none⟩:Addr).add j=⟨b,off+j,none⟩:=by unfold Addr.add; split<;>simp_all
def yL {b:Nat} {arr:Array Value} {e:TypeId} {fr:Nat×Nat} (h:w.heap[b]? = some (.cells arr e fr)) (j:Nat):w.cell? ⟨b,j,none⟩=arr[j]? := by simp[World.cell?,h]
def qzs {t:Ty} {l:List t.den} {xs:List Value} {i:Nat} (h:cJ w F t l xs) (hi:i<l.length):aR P w F R (enc t (l.getD i t.dflt)) (λj u=>xs[i*t.size+j]? = some u):=by
 have:=h i (l.getD i t.dflt) (by simp[uap hi]);exact aD.enc t _ this
def UU {t:Ty} {l:List t.den} {v:Value} {i:Nat} (h:aD w F (.sl t) l (λ_ u=>u=v)) (hi:i<l.length) :
  ∃ ad c,v = .slice (some ad) l.length c/\F ad.block/\aR P w F R (enc t (l.getD i t.dflt)) (λj u=>w.cell? ((ad.add (i*t.size)).add j)=some u):=by
 obtain⟨A,c,h1,h2,h3,h4⟩:=h;have hx:l[i]? = some (l.getD i t.dflt):=by simp[uap hi]
 obtain⟨ad,rfl,hf,h5⟩:=h4 i _ hx;exact⟨ad,c,h1.symm,hf,(aD.enc t _ h5).turn λj u _ h=>by rw[o9]; exact h⟩
def G2 {id:Nat} {ety:TypeId} {t:Ty} {l:List t.den} {i:Nat} (hm:MemOK P B w F γ M) (hM:M id=some (.arr ety t l)) (hi:i<l.length) :
  ∃ b c arr,γ id = .slice (some ⟨b,0,none⟩) l.length c/\w.heap[b]? = some (.cells arr ety (0,0))/\¬ F b/\B<=b/\(i+1)*t.size<=arr.size /\
   aR P w F (aA M γ) (enc t (l.getD i t.dflt)) (λj u=>arr[i*t.size+j]? = some u):=by
 obtain⟨xs,h1,h2,h3,h4⟩:=hm.ob id _ hM;obtain⟨hl,hn|⟨b,cap,cur,hv,hb,hh,hnc,_,hcs,ht⟩⟩:=h1
 ·omega
 ·refine⟨b,cap,cur,hv,hh,h2 b (by rw[hv]; rfl),hb,?_,(qzs h3 hi).turn λj u hj hu=>?_⟩
  ·rw[hcs];exact ubc _ (by omega)
  ·rw[<- ht,ub0] at hu;split at hu
   ·simpa using hu
   ·cases hu
def DE {k:IntKind}:{cs:List AC} -> {ns:List Int}->qB k cs=some ns->cs=ns.map (.int k)
 |[],ns,h=>by simp[qB] at h; subst h; rfl
 |c::r,ns,h=>by
  unfold qB at h;split at h
  ·simp_all
  ·rename_i k' n r' he;cases he;split at h
   ·rename_i hk;subst hk;cases hr:qB k r with
    |none=>rw[hr] at h; simp at h
    |some ms=>
     rw[hr] at h;simp at h;subst h;rw[DE hr];rfl
   ·cases h
  ·cases h
def Q6 {i:Int} {p:Int×Nat}:{cs:List AC} -> {k:Int}->(jX k cs).find? (λx=>x.1==i)=some p->k<=i/\cs[(i-k).toNat]? = some (.fn p.2 [])
 |[],_,h=>by simp[jX] at h
 |c::r,k,h=>by
  have hrest:(jX (k+1) r).find? (λx=>x.1==i)=some p->k<=i/\(c::r)[(i-k).toNat]? = some (.fn p.2 []):=λh'=>by
   obtain⟨h1,h2⟩:=Q6 h';refine⟨by omega,?_⟩;rw[show(i-k).toNat=(i-(k+1)).toNat+1 by omega];simpa using h2
  by_cases hc:∃ f,c = .fn f []
  ·obtain⟨f,rfl⟩:=hc;have h':((k,f)::jX (k+1) r).find? (λx=>x.1==i)=some p:=h;rw[List.find?_cons] at h';split at h'
   ·rename_i hk;have hk':k=i:=by simpa using hk
    cases h';rw[hk'];exact⟨ufb _,by simp⟩
   ·exact hrest h'
  ·have he:jX k (c::r)=jX (k+1) r:=by
    cases c with
    |fn f caps=>cases caps with
     |nil=>exact absurd ⟨f,rfl⟩ hc
     |cons _ _=>rfl
    |_=>rfl
   rw[he] at h;exact hrest h
def KH {cs cs':List AC} {n:Nat} {i:Int} {nn:List Prop} {ad:Addr} (h:yN.pickI cs n i=some (cs',nn)) (hn:aE nn) (hr:aR P w F R cs (λj u=>w.cell? (ad.add j)=some u)) (h0:0<=i) (h1:i<n) :
  aR P w F R cs' (λj u=>w.cell? ((ad.add i.toNat).add j)=some u):=by
 unfold yN.pickI at h;split at h
 ·rename_i k bf hk hseg;split at h
  ·rename_i ns hns;obtain⟨rfl,_⟩:=h;obtain⟨hl,hc⟩:=wg hseg hr;have he:=DE hns;subst he;have hi:i.toNat<ns.length:=by simp at hl; omega
   obtain⟨u,e1,e2,e3⟩:=hc.at_ (j:=i.toNat) (c:=.int k (ns.getD i.toNat 0)) (by simp[uap hi]);exact⟨⟨u,by show w.cell? ((ad.add i.toNat).add 0)=some u; rw[o9]; simpa using e1,e2,e3⟩,uT⟩
  ·cases h
 ·rename_i bf hk hseg;split at h<;>try trivial
  cases h;obtain⟨p,hp⟩:=uaq.1 hn;obtain⟨hl,hc⟩:=wg hseg hr;obtain⟨h2,h3⟩:=Q6 hp;rw[ueq] at h3;obtain⟨u,e1,e2,vs,e3,e4,_⟩:=hc.at_ h3;have e5:=Array.size_eq_zero_iff.mp e4;subst e5;refine⟨⟨u,by show w.cell? ((ad.add i.toNat).add 0)=some u; rw[o9]; simpa using e1,e2,?_⟩,uT⟩;show u=iP ((jX 0 bf).find? (λx=>x.1==i));rw[hp,e3];rfl
 ·cases h
def OA {x:AV} {v:Value} {cs:List AC} {n:List Prop} (hm:MemOK P B w F γ M) (hsub:∀ i y,m i=some y->M i=some y) (h:yN m x=some (cs,n)) (hn:aE n) (hr:aM P w F (aA M γ) x v) :
  ∃ ad,v = .pointer (some ad)/\aR P w F (aA M γ) cs (λj u=>w.cell? (ad.add j)=some u):=by
 unfold yN at h;split at h
 ·rename_i id off;split at h
  ·rename_i e cs' hmid;cases h;obtain⟨b,arr,_,hv,hh,_,_,_,hc⟩:=oD hm (hsub _ _ hmid) hr.2;exact⟨_,hv,(hc.drop_ off).turn λj u _ hu=>by rw[jK,yL hh]; exact hu⟩
  ·rename_i cs' hmid;cases h;obtain⟨b,hv,_,hc⟩:=Ir hm (hsub _ _ hmid) hr.2;exact⟨_,hv,(hc.drop_ off).turn λj u _ hu=>by rw[jK]; exact hu⟩
  ·cases h
 ·rename_i cs';cases h;obtain⟨_,ad,hv,_,hc⟩:=hr;exact⟨ad,hv,hc⟩
 ·rename_i id sz i off;obtain⟨A,n0,c0,h3,h4⟩:=hr;split at h
  ·rename_i e t l hmid;split at h
   ·rename_i hsz;cases h;obtain⟨b,c,arr,e1,e2,_,_,_,e6⟩:=G2 hm (hsub _ _ hmid) hn;unfold aA at h3;rw[hsub _ _ hmid] at h3;simp only[e1,ucj] at h3;obtain⟨rfl,_,_⟩:=h3;refine⟨_,h4,(e6.drop_ off).turn λj u _ hu=>?_⟩;rw[o9,jK,yL e2,<- hu,<- hsz];congr 1;omega
   ·cases h
  ·rename_i t l hmid;split at h
   ·rename_i hsz;cases h;have hob:=hm.ob id _ (hsub _ _ hmid);obtain⟨ad,c,e1,e2,e3⟩:=UU hob hn;unfold aA at h3;rw[hsub _ _ hmid] at h3;simp only[e1,ucj] at h3;obtain⟨rfl,_,_⟩:=h3;refine⟨_,h4,(e3.drop_ off).turn λj u _ hu=>?_⟩;rw[o9] at hu |-;rw[<- hu,<- hsz];congr 2;omega
   ·cases h
  ·cases h
 ·rename_i base k i;obtain⟨ad,h1,h2,h3,rfl⟩:=hr;refine⟨_,rfl,?_⟩;split at h
  ·rename_i id off;split at h
   ·rename_i e cs' hmid;obtain⟨b,arr,_,hv,hh,_,_,_,hc⟩:=oD hm (hsub _ _ hmid) h1;simp at hv;subst hv;exact KH h hn ((hc.drop_ off).turn λj u _ hu=>by rw[jK,yL hh]; exact hu) h2 h3
   ·rename_i cs' hmid;obtain⟨b,hv,_,hc⟩:=Ir hm (hsub _ _ hmid) h1;simp at hv;subst hv;exact KH h hn ((hc.drop_ off).turn λj u _ hu=>by rw[jK]; exact hu) h2 h3
   ·cases h
  ·rename_i cs';obtain⟨ad',hv,_,hc⟩:=h1;simp at hv;subst hv;exact KH h hn hc h2 h3
  ·cases h
 ·cases h
def Ly {t:TypeId} {d:TypeDesc} (h:P.underlying t=some d):(isAgg t).run P w = .ok (d9 P t) w:=by
 unfold isAgg d9;rw[uer,ud3 h];cases d<;>simp[h]
def iy {t:TypeId} {i:TypeInfo} (h:P.info? t=some i):(sizeOf t).run P w = .ok (P.cellsOf t) w:=by
 simp[sizeOf,typeInfo,h,Program.cellsOf]
def S6 {t:TypeId} {x:AV} {v:Value} {e:Eff} (hm:MemOK P B w F γ M) (hsub:∀ i y,m i=some y->M i=some y) (h:DL P t x m=some e) (hn:aE e.need) (hr:aM P w F (aA M γ) x v) :
  e.wr=[]/\∃ u,(Instr.loadAt t v).run P w = .ok u w/\aM P w F (aA M γ) e.v u:=by
 unfold DL at h;split at h
 ·rename_i cs n hcs;split at h
  ·rename_i hi;obtain⟨i,hi1⟩:=uaq.1 hi.1;obtain⟨d,hd⟩:=uaq.1 hi.2;split at h
   ·rename_i hw;split at h
    ·rename_i l hl;cases h;obtain⟨ad,rfl,hc⟩:=OA hm hsub hcs hn hr;obtain⟨e1,e2⟩:=wg hl hc;obtain⟨us,f1,f2,f3,_⟩:=e2.vals;refine⟨rfl,.agg us.toArray,?_,us.toArray,rfl,by simpa using f1,by simpa using f3⟩;have hlc:=run_loadCells_list (P:=P) w ad us (λj u hu=>by have:=f2 j u hu; simpa using this);simp[Instr.loadAt,Instr.sureAddr,loadVar,Ly hd,hw,iy hi1,<- e1,<- f1,hlc]
    ·cases h
   ·rename_i hw;split at h
    ·rename_i a r;cases h;obtain⟨ad,rfl,⟨u,e1,e2,e3⟩,_⟩:=OA hm hsub hcs hn hr;refine⟨rfl,u,?_,e2,e3⟩;have e1':w.cell? ad=some u:=by simpa[Addr.add] using e1
     have hw':d9 P t=false:=by simpa using hw
     simp[Instr.loadAt,Instr.sureAddr,loadVar,Ly hd,hw',Sem.run,e1']
    ·cases h
  ·cases h
 ·cases h
end
end Go.Ab

namespace Go.Ab
open Go Go.RowKit
def gZ (k:IntKind) (n:Int):inR k (k.wrap n):=by
 unfold inR IntKind.wrap IntKind.min IntKind.max;cases k<;>simp[IntKind.signed,IntKind.bits]<;>first|omega|(split<;>omega)
def W8 (k:IntKind):k.min<=0/\0<=k.max:=by cases k<;>simp[IntKind.min,IntKind.max,IntKind.signed,IntKind.bits]
def zdv (k:IntKind) {a b:Int} (ha:inR k a):inR k (a.tmod b):=by
 have hz:=W8 k;have hn:(a.tmod b).natAbs<=a.natAbs:=by rw[Int.natAbs_tmod]; exact Nat.mod_le _ _
 unfold inR at *;rcases Int.le_total 0 a with h|h
 ·have h1:=Int.tmod_nonneg b h;omega
 ·have h1:0<=(-a).tmod b:=Int.tmod_nonneg b (by omega);rw[Int.neg_tmod] at h1;omega
def qhl (k:IntKind) {a:Int} (n:Nat) (ha:inR k a):inR k (a.fdiv (2 ^ n)):=by
 have hz:=W8 k;have hp:(0:Int)<2 ^ n:=Int.pow_pos (by omega);rw[uag _ (by omega)];unfold inR at *;rcases Int.le_total 0 a with h|h
 ·have h1:=udi h (ues hp);have h2:=Int.ediv_le_self (2 ^ n) h;omega
 ·have h1:=Int.ediv_nonpos_of_nonpos_of_neg h (by omega);have h2:a<=a/2 ^ n:=by
   refine Int.le_ediv_of_mul_le hp ?_;have:=Int.mul_le_mul_of_nonpos_left (b:=2 ^ n) (c:=1) h (by omega);omega
  omega
section
variable {P:Program} {B:Nat} {o:Oper} {a:Act} {w w':World} {F F':Nat->Prop} {γ γ':Nat->Value} {M m:aY} {R:Nat->Value->Prop}
def wZ {t:TypeId} {cs:Array Value} {off:Nat} {i:TypeInfo} {d:TypeDesc} (hd:P.underlying t=some d) (hi:P.info? t=some i) (hl:off+(if d9 P t then P.cellsOf t else 1)<=cs.size) :
  (part t cs off).run P w = .ok (if d9 P t then .agg (cs.extract off (off+P.cellsOf t)) else cs.getD off undef) w:=by
 unfold part;rw[uer,Ly hd];cases hw:d9 P t
 ·simp only[hw] at hl;have:off<cs.size:=by simp at hl; omega
  simp[this]
 ·simp[iy hi]
def Ap {t:TypeId} {cs:Array Value} {xs l:List AC} {off n:Nat} (hn:n=if d9 P t then P.cellsOf t else 1) (hs:cs.size=xs.length) (hr:aR P w F R xs (λj u=>cs[j]? = some u)) (h:iQ xs off n=some l) :
  off+n<=cs.size/\∃ us:List Value,us.length=l.length/\aR P w F R l (λj u=>us[j]? = some u)/\(if d9 P t then .agg (cs.extract off (off+P.cellsOf t)) else cs.getD off undef)=(if d9 P t then .agg us.toArray else us.headD undef)/\l.length=n:=by
 have h1:off+n<=xs.length:=by
  unfold iQ at h;split at h
  ·assumption
  ·cases h
 obtain⟨e1,e2⟩:=wg h hr;refine⟨by omega,(cs.toList.drop off).take n,by rw[uc3,uc4,e1,ubs]; omega,e2.turn λj u hj hu=>?_,?_,e1⟩
 ·have:j<n:=by omega
  rw[ub0,if_pos this,ubz];simpa using hu
 ·subst hn;split
  ·congr 1;rw[<- uc5];simp[List.extract]
  ·rename_i hw;have h2:off+1<=xs.length:=by simpa[hw] using h1
   have:off<cs.size:=by omega
   simp[Array.getD,this];rw[ual (by simpa using this)];simp
def vO (d:Nat) (e:TypeId) (n:Nat) (xs ys:Array Value):List Nat->Sem Bool
 |[]=>pure true
 |i::r=>do
  let a <- part e xs (i*n)
  let b <- part e ys (i*n)
  let q <- Op.equalIn d e a b
  if (!q)=true then pure false else vO d e n xs ys r
def qzz (d:Nat) (t e:TypeId) (len:Nat) {ti:TypeInfo} (xs ys:Array Value) (ht:P.underlying t=some (.array len e)) (hi:P.info? e=some ti) :
  (Op.equalIn (d+1) t (.agg xs) (.agg ys)).run P w=(vO d e (P.cellsOf e) xs ys (List.range len)).run P w:=by
 simp only[Op.equalIn,uer,ud3 ht,uck,iy hi];rw[Std.Legacy.Range.forIn_eq_forIn_range'];have:List.range' 0 len 1=List.range len:=ubj.symm;simp;rw[this];generalize List.range len=l
 induction l generalizing w with
 |nil=>simp[vO]
 |cons i l ih=>
  simp only[List.forIn_cons,vO,uer];generalize (part e xs (i*P.cellsOf e)).run P w=r1;cases r1 with
  |ok a w1=>
   simp only[uck];generalize (part e ys (i*P.cellsOf e)).run P w1=r2;cases r2 with
   |ok b w2=>
    simp only[uck];generalize (Op.equalIn d e a b).run P w2=r3;cases r3 with
    |ok r w3=>
     cases r
     ·simp
     ·simp only[uck,Bool.not_true,ufu,uet];exact ih
    |halt x w3=>simp
   |halt x w2=>simp
  |halt x w1=>simp
def Lw:(n:Nat) -> {t:TypeId} -> {xs ys:List AC} -> {r:Bool}->vP P n t xs ys=some r->(d:Nat)->n<=d->(us vs:List Value)->us.length=xs.length->vs.length=ys.length ->
  aR P w F R xs (λj u=>us[j]? = some u)->aR P w F R ys (λj u=>vs[j]? = some u) ->
  (Op.equalIn d t (if d9 P t then .agg us.toArray else us.headD undef) (if d9 P t then .agg vs.toArray else vs.headD undef)).run P w = .ok r w
 |0,t,xs,ys,r,h,d,hd,us,vs,hu,hv,hx,hy=>by simp[vP] at h
 |n+1,t,xs,ys,r,h,d,hd,us,vs,hu,hv,hx,hy=>by
  obtain⟨d,rfl⟩:∃ d',d=d'+1:=⟨d-1,by omega⟩;unfold vP at h;split at h
  ·rename_i ht;split at h
   ·rename_i a b;cases h;obtain⟨⟨u,e1,_,rfl⟩,_⟩:=hx;obtain⟨⟨v,f1,_,rfl⟩,_⟩:=hy;have hw:d9 P t=false:=by simp[d9,ht]
    have e2:us.headD undef = .bool a:=by cases us<;>simp_all
    have f2:vs.headD undef = .bool b:=by cases vs<;>simp_all
    simp only[hw,e2,f2];exact ucl w d t a b ht
   ·cases h
  ·rename_i k0 ht;split at h
   ·rename_i k a k' b;split at h
    ·rename_i hk;cases h;obtain⟨⟨u,e1,_,rfl,_⟩,_⟩:=hx;obtain⟨⟨v,f1,_,rfl,_⟩,_⟩:=hy;have hw:d9 P t=false:=by simp[d9,ht]
     have e2:us.headD undef = .int k a:=by cases us<;>simp_all
     have f2:vs.headD undef = .int k b:=by cases vs<;>simp_all
     simp only[hw,e2,f2];exact run_equalIn_int w d t k k0 a b ht
    ·cases h
   ·cases h
  ·rename_i fs ht;split at h
   ·cases h
   ·rename_i hst;have hw:d9 P t=true:=by simp[d9,ht]
    simp only[hw,if_true];have hfo:P.fieldsOf t=fs:=by simp[Program.fieldsOf,ht]
    rw[run_equalIn_struct w d t us.toArray vs.toArray (by rw[hfo]; exact ht) (by simpa using hst),hfo];generalize fs.toList=l at h
    induction l generalizing r with
    |nil=>
     simp at h;subst h;simp[Op.eqFields]
    |cons f l ih=>
     simp at h;split at h
     ·rename_i hf;simp only[Op.eqFields,hf];simpa using ih _ h
     ·rename_i hf;split at h
      ·rename_i hi;obtain⟨di,hi1⟩:=uaq.1 hi.1;obtain⟨ti,hi2⟩:=uaq.1 hi.2;split at h
       ·rename_i x y hgx hgy;split at h
        ·rename_i p q hp hq;cases h;obtain⟨b1,us',b2,b3,b4,b5⟩:=Ap (cs:=us.toArray) rfl (by simpa using hu) (by simpa using hx) hgx;obtain⟨c1,vs',c2,c3,c4,c5⟩:=Ap (cs:=vs.toArray) rfl (by simpa using hv) (by simpa using hy) hgy;have hrec:=Lw n hp d (by omega) us' vs' b2 c2 b3 c3;simp only[Op.eqFields,if_pos hf,uer,wZ hi1 hi2 b1,wZ hi1 hi2 c1,uck,b4,c4,hrec];cases p
         ·simp
         ·simpa using ih _ hq
        ·cases h
       ·cases h
      ·cases h
  ·rename_i len e ht;split at h
   ·rename_i hi;obtain⟨di,hi1⟩:=uaq.1 hi.1;obtain⟨ti,hi2⟩:=uaq.1 hi.2;have hw:d9 P t=true:=by simp[d9,ht]
    simp only[hw,if_true];rw[qzz d t e len us.toArray vs.toArray ht hi2];generalize List.range len=l at h
    induction l generalizing r with
    |nil=>
     simp at h;subst h;simp[vO]
    |cons i l ih=>
     simp at h;split at h
     ·rename_i x y hgx hgy;split at h
      ·rename_i p q hp hq;cases h;obtain⟨b1,us',b2,b3,b4,b5⟩:=Ap (cs:=us.toArray) rfl (by simpa using hu) (by simpa using hx) hgx;obtain⟨c1,vs',c2,c3,c4,c5⟩:=Ap (cs:=vs.toArray) rfl (by simpa using hv) (by simpa using hy) hgy;have hrec:=Lw n hp d (by omega) us' vs' b2 c2 b3 c3;simp only[vO,uer,wZ hi1 hi2 b1,wZ hi1 hi2 c1,uck,b4,c4,hrec];cases p
       ·simp
       ·simpa using ih _ hq
      ·cases h
     ·cases h
   ·cases h
  ·cases h
def qc4 {op:BinOp} {k:IntKind} {x y:Int} {r:Bool} (h:H0 op x y=some r) (t:TypeId) (X Y:Operand) :
  (do eqGuard op t X Y (.int k x) (.int k y); binOp op t (.int k x) (.int k y):Sem Value).run P w = .ok (.bool r) w:=by
 unfold H0 at h;split at h<;>simp at h<;>subst h<;>simp[ud4,binOp,Op.intCmp]
def qbu {op:BinOp} {t:TypeId} {x y:AV} {vx vy:Value} {c:AC} {n:List Prop} (h:G5 P op t x y=some (c,n)) (hn:aE n) (hx:aM P w F R x vx) (hy:aM P w F R y vy) (X Y:Operand) :
  ∃ u,(do eqGuard op t X Y vx vy; binOp op t vx vy:Sem Value).run P w = .ok u w/\u.oneCell'=true/\bh P w F R c u:=by
 unfold G5 at h;split at h
 ·rename_i k a k' b;obtain⟨_,rfl,ha⟩:=hx;obtain⟨_,rfl,hb⟩:=hy;split at h
  ·rename_i hk;have key:∀ op',op'=op->(op' ≠ .shl/\op' ≠ .shr)->k=k':=by
    rintro op' rfl ⟨h1,h2⟩;rcases hk with hk|hk
    ·exact hk
    ·cases op'<;>simp_all[Si]
   unfold NW at h;split at h
   ·obtain rfl:=key _ rfl (by simp);cases h;exact⟨_,by simp[ud4,binOp,Op.intArith],rfl,rfl,gZ _ _⟩
   ·obtain rfl:=key _ rfl (by simp);cases h;exact⟨_,by simp[ud4,binOp,Op.intArith],rfl,rfl,gZ _ _⟩
   ·obtain rfl:=key _ rfl (by simp);cases h;exact⟨_,by simp[ud4,binOp,Op.intArith],rfl,rfl,gZ _ _⟩
   ·obtain rfl:=key _ rfl (by simp);cases h;exact⟨_,by have hn:=hn; simp only[aE] at hn; simp[ud4,binOp,Op.intDiv,hn],rfl,rfl,gZ _ _⟩
   ·obtain rfl:=key _ rfl (by simp);cases h;exact⟨_,by have hn:=hn; simp only[aE] at hn; simp[ud4,binOp,Op.intDiv,hn],rfl,rfl,zdv _ ha⟩
   ·obtain rfl:=key _ rfl (by simp);cases h;exact⟨_,by simp[ud4,binOp,Op.intBits],rfl,rfl,gZ _ _⟩
   ·obtain rfl:=key _ rfl (by simp);cases h;exact⟨_,by simp[ud4,binOp,Op.intBits],rfl,rfl,gZ _ _⟩
   ·obtain rfl:=key _ rfl (by simp);cases h;exact⟨_,by simp[ud4,binOp,Op.intBits],rfl,rfl,gZ _ _⟩
   ·obtain rfl:=key _ rfl (by simp);cases h;exact⟨_,by simp[ud4,binOp,Op.intBits],rfl,rfl,gZ _ _⟩
   ·cases h;exact⟨_,by have hn:=hn; simp only[aE] at hn; simp[ud4,binOp,Op.shift,hn],rfl,rfl,gZ _ _⟩
   ·cases h;exact⟨_,by have hn:=hn; simp only[aE] at hn; simp[ud4,binOp,Op.shift,hn],rfl,rfl,qhl _ _ ha⟩
   ·obtain rfl:=key _ rfl ⟨by assumption,by assumption⟩;split at h
    ·rename_i r hr;cases h;exact⟨_,qc4 hr t X Y,rfl,rfl⟩
    ·cases h
  ·cases h
 ·rename_i a b;obtain⟨_,rfl⟩:=hx;obtain⟨_,rfl⟩:=hy;split at h
  ·split at h
   ·rename_i ht;simp only at h; obtain⟨rfl,rfl⟩:=h;have ht':P.underlying t=some .bool:=by revert ht; cases P.underlying t with
     |none=>simp
     |some d=>cases d<;>simp
    exact⟨_,by simp[eqGuard_at_bool,binOp,Op.equal,Op.maxDepth,ucl w 9999 t a b ht'],rfl,rfl⟩
   ·cases h
  ·split at h
   ·rename_i ht;simp only at h; obtain⟨rfl,rfl⟩:=h;have ht':P.underlying t=some .bool:=by revert ht; cases P.underlying t with
     |none=>simp
     |some d=>cases d<;>simp
    exact⟨_,by simp[eqGuard_at_bool,binOp,Op.equal,Op.maxDepth,ucl w 9999 t a b ht'],rfl,rfl⟩
   ·cases h
  ·cases h
 ·rename_i xs ys;obtain⟨us,rfl,e1,e2⟩:=hx;obtain⟨vs,rfl,f1,f2⟩:=hy;split at h
  ·rename_i hg;split at h
   ·rename_i r hr;have hq:=Lw 20 hr 10000 (by omega) us.toList vs.toList (by simpa using e1) (by simpa using f1) (by simpa using e2) (by simpa using f2);simp only[hg.2,if_true] at hq;split at h
    ·cases h;exact⟨_,by simp[run_eqGuard_agg w _ t X Y us vs hg.1,run_eql_struct,hq],rfl,rfl⟩
    ·cases h;exact⟨_,by simp[run_eqGuard_agg w _ t X Y us vs hg.1,run_neq_struct,hq],rfl,rfl⟩
    ·cases h
   ·cases h
  ·cases h
 ·cases h
end
end Go.Ab

namespace Go.Ab
open Go Go.RowKit
section
variable {P:Program} {B:Nat} {o:Oper} {a:Act} {w w':World} {F F':Nat->Prop} {γ γ':Nat->Value} {M m:aY} {R:Nat->Value->Prop}
def N9 (v:Value):bh P w F R (yh v) v:=by
 unfold yh;split
 ·split
  ·rename_i h;exact⟨rfl,h⟩
  ·trivial
 ·rfl
 ·split
  ·rename_i h;exact⟨rfl,h⟩
  ·trivial
 ·rfl
 ·trivial
def qae (vs:List Value) (h:∀ v∈vs,v.oneCell'=true):aR P w F R (vs.map yh) (λj u=>vs[j]? = some u):=
 pK _ λj c hc=>by
  rw[ucm] at hc;cases hv:vs[j]? with
  |none=>rw[hv] at hc; simp at hc
  |some v=>
   rw[hv] at hc;simp at hc;subst hc;exact⟨v,rfl,h v (ube hv),N9 v⟩
def BS (v:Value):aM P w F R (pV v) v:=by
 unfold pV;split
 ·rename_i cs;split
  ·rename_i h;refine⟨cs,rfl,by simp,?_⟩;have:=qae (P:=P) (w:=w) (F:=F) (R:=R) cs.toList (λv hv=>uc6.1 h v hv);simpa using this
  ·trivial
 ·trivial
 ·rename_i h1 h2;refine⟨?_,N9 v⟩;cases v<;>first|rfl|(exact absurd rfl (h1 _))|(exact absurd rfl (h2 _))
def vA {x:AV} {v:Value} {cs:List AC} (h:qg x=some cs) (hr:aM P w F R x v):v.cells.size=cs.length/\aR P w F R cs (λj u=>v.cells[j]? = some u)/\(∀ u∈v.cells,u.oneCell'=true):=by
 unfold qg at h;split at h
 ·cases h;have hv:v.cells = #[v]:=by
   have:=hr.1;cases v<;>first|rfl|simp[Value.oneCell'] at this
  rw[hv];exact⟨rfl,⟨⟨v,rfl,hr.1,hr.2⟩,uT⟩,by simpa using hr.1⟩
 ·cases h;obtain⟨arr,rfl,h1,h2⟩:=hr;refine⟨h1,h2,λu hu=>?_⟩;obtain⟨us,e1,e2,e3,e4⟩:=h2.vals;have:us=arr.toList:=by
   apply List.ext_getElem?;intro j;rcases ueo j us.length with hj|hj
   ·have:=e2 j us[j] (uap hj);rw[uap hj,<- this];simp
   ·rw[ua2 hj,ua2 (by simp; omega)]
  subst this;exact e4 u (ubf.2 hu)
 ·cases h
def Q7 (vs:List Value) (off:Nat):∀ (k:Nat) (cs:Array Value),
  ((vs.zipIdx k).foldl (λcs (x:Value×Nat)=>cs.setIfInBounds (off+x.2) x.1) cs).size=cs.size /\
  ∀ j,((vs.zipIdx k).foldl (λcs (x:Value×Nat)=>cs.setIfInBounds (off+x.2) x.1) cs)[j]? = if off+k<=j/\j<off+k+vs.length/\j<cs.size then vs[j-(off+k)]? else cs[j]? := by
 induction vs with
 |nil=>
  intro k cs;refine⟨rfl,λj=>?_⟩;simp only[List.zipIdx_nil,List.foldl_nil,udj];rw[if_neg (by omega)]
 |cons v vs ih=>
  intro k cs;obtain⟨e1,e2⟩:=ih (k+1) (cs.setIfInBounds (off+k) v);simp;refine⟨by rw[e1]; simp,λj=>?_⟩;rw[e2];simp;by_cases h1:off+(k+1)<=j/\j<off+(k+1)+vs.length/\j<cs.size
  ·rw[if_pos h1,if_pos (by omega)];rw[show j-(off+k)=(j-(off+(k+1)))+1 from by omega,List.getElem?_cons_succ]
  ·rw[if_neg h1];by_cases h2:j=off+k
   ·subst h2;by_cases h3:off+k<cs.size
    ·rw[if_pos (by omega)];simp[h3]
    ·rw[if_neg (by omega)];simp[h3]
   ·rw[uaa (by omega),if_neg (by omega)]
def E5 {cs cs' new:List AC} {off:Nat} {g g':Nat->Value->Prop} (h:pp cs off new=some cs') (hc:aR P w F R cs g) (hn:aR P w F R new (λj u=>g' (off+j) u))
  (ho:∀ j u,(j<off\/off+new.length<=j)->g j u->g' j u):cs'.length=cs.length/\aR P w F R cs' g':=by
 unfold pp at h;split at h
 ·rename_i hl;cases h;refine⟨by simp; omega,pK _ λj c hj=>?_⟩;rcases ueo j off with h1|h1
  ·rw[uaj (by simp; omega),uaj (by simp; omega),ub0,if_pos h1] at hj;obtain⟨u,e1,e2⟩:=hc.at_ hj;exact⟨u,ho j u (.inl h1) e1,e2⟩
  ·rcases ueo j (off+new.length) with h2|h2
   ·rw[uaj (by simp; omega),uae (by simp; omega)] at hj;simp at hj;rw[show j-min off cs.length=j-off from by omega] at hj;obtain⟨u,e1,e2⟩:=hn.at_ hj;rw[show off+(j-off)=j from by omega] at e1;exact⟨u,e1,e2⟩
   ·rw[uae (by simp; omega),ubz] at hj;rw[show off+new.length+(j-(cs.take off++new).length)=j from by simp; omega] at hj;obtain⟨u,e1,e2⟩:=hc.at_ hj;exact⟨u,ho j u (.inr h2) e1,e2⟩
 ·cases h
def Qz {pl:Nat->Option (Nat×Nat)}:{parts:List (Nat×AV)} -> {ps:List (Nat×Value)} -> {cs cs':List AC} -> {arr:Array Value}->zq pl cs parts=some cs'->ps.length=parts.length ->
  (∀ (k i:Nat) (x:AV) (v:Nat×Value),parts[k]? = some (i,x)->ps[k]? = some v->v.1=i/\aM P w F R x v.2)->arr.size=cs.length->aR P w F R cs (λj u=>arr[j]? = some u) ->
  ∃ arr',Instr.fill pl arr ps=some arr'/\arr'.size=cs'.length/\aR P w F R cs' (λj u=>arr'[j]? = some u)
 |[],[],cs,cs',arr,h,_,_,hs,hc=>by
  simp only[zq,ucj] at h;subst h;exact⟨arr,rfl,hs,hc⟩
 |(i,x)::r,(i',v)::ps,cs,cs',arr,h,hl,hp,hs,hc=>by
  obtain⟨rfl,hv⟩:=hp 0 i x (i',v) rfl rfl;simp only at hv;simp only[zq] at h;split at h
  ·rename_i off n new hpl hnew;split at h
   ·rename_i hn;split at h
    ·rename_i cs1 hput;obtain⟨e1,e2,_⟩:=vA hnew hv;have hb:off+new.length<=cs.length:=by
      unfold pp at hput;split at hput
      ·assumption
      ·cases hput
     obtain⟨f1,f2⟩:=Q7 v.cells.toList off 0 arr;have hz:v.cells.zipIdx.foldl (λcs (x:Value×Nat)=>cs.setIfInBounds (off+x.2) x.1) arr=(v.cells.toList.zipIdx 0).foldl (λcs (x:Value×Nat)=>cs.setIfInBounds (off+x.2) x.1) arr:=by
      rw[<- Array.foldl_toList,Array.toList_zipIdx]
     obtain⟨g1,g2⟩:=E5 (g':=λj u=>((v.cells.toList.zipIdx 0).foldl (λcs (x:Value×Nat)=>cs.setIfInBounds (off+x.2) x.1) arr)[j]? = some u) hput hc
      (e2.turn λj u hj hu=>by
       simp only[f2];rw[if_pos (by simp; omega)];simpa using hu)
      (λj u hj hu=>by
       simp only[f2];rw[if_neg (by simp; omega)];exact hu)
     obtain⟨arr',k1,k2,k3⟩:=Qz h (by simpa using hl) (λk i x v h1 h2=>hp (k+1) i x v (by simpa using h1) (by simpa using h2)) (by rw[f1,hs,g1]) g2;refine⟨arr',?_,k2,k3⟩;simp only[Instr.fill,hpl];rw[if_neg (by simp; omega)];rw[<- k1];congr 1
    ·cases h
   ·cases h
  ·cases h
 |[],_::_,_,_,_,_,hl,_,_,_=>by simp at hl
 |_::_,[],_,_,_,_,hl,_,_,_=>by simp at hl
def qz1 (fs:List Field) (h:∀ f∈fs,(P.info? f.type).isSome=true) :
  (fs.mapM (m:=Sem) λf=>(do pure (f.offset,<- sizeOf f.type):Sem (Nat×Nat))).run P w = .ok (fs.map λf=>(f.offset,P.cellsOf f.type)) w:=by
 induction fs with
 |nil=>simp
 |cons f fs ih=>
  obtain⟨i,hi⟩:=uaq.1 (h f (by simp));rw[List.mapM_cons];have ih':=ih (λg hg=>h g (by simp[hg]));rw[uer,uer,iy hi];simp only[uck,uet];rw[uer,ih'];simp
def qb1 {t:TypeId} {parts:List (Nat×AV)} {ps:Array (Nat×Value)} {x:AV} (h:GE P t parts=some x) (hl:ps.size=parts.length)
  (hp:∀ (k i:Nat) (x:AV) (v:Nat×Value),parts[k]? = some (i,x)->ps[k]? = some v->v.1=i/\aM P w F R x v.2) :
  ∃ u,(Instr.build t ps).run P w = .ok u w/\aM P w F R x u:=by
 unfold GE at h;split at h
 ·rename_i z pl hz hpl;split at h
  ·rename_i cs hcs;split at h
   ·rename_i cs' hfill;cases h;cases hi:P.info? t with
    |none=>simp[hi] at hz
    |some ti=>
     simp only[hi,Option.bind_some] at hz;have hzr:=BS (P:=P) (w:=w) (F:=F) (R:=R) z;obtain⟨e1,e2,_⟩:=vA hcs hzr;have hzv:(zeroValue t).run P w = .ok z w:=by simp[zeroValue,typeInfo,hi,hz]
     obtain⟨arr',k1,k2,k3⟩:=Qz (ps:=ps.toList) hfill (by simpa using hl) (λk i x v h1 h2=>hp k i x v h1 (by simpa using h2)) e1 e2;refine⟨.agg arr',?_,arr',rfl,k2,k3⟩;unfold TB at hpl;split at hpl
     ·rename_i fs hfs;split at hpl
      ·rename_i hall;cases hpl;have hm:=qz1 (w:=w) fs.toList (λf hf=>uc6.1 hall f hf);have hm':(fs.mapM λ(f:Field)=>(do pure (f.offset,<- sizeOf f.type):Sem (Nat×Nat))).run P w = .ok (fs.map λ(f:Field)=>(f.offset,P.cellsOf f.type)) w:=by
        rw[Array.mapM_eq_mapM_toList];rw[Sem.run_map,hm];simp only[uck];congr 1;rw[<- uc5];simp
       have:(λ(i:Nat)=>(fs.map λ(f:Field)=>(f.offset,P.cellsOf f.type))[i]?)=(λi=>(fs[i]?).map λf=>(f.offset,P.cellsOf f.type)):=by
        simp
       simp only[Instr.build,uer,hzv,uck,ud3 hfs];rw[hm'];simp only[uck,this,k1];rfl
      ·cases hpl
     ·rename_i len e hfs;split at hpl
      ·rename_i hie;obtain⟨ei,hei⟩:=uaq.1 hie;cases hpl;simp[Instr.build,hzv,ud3 hfs,iy hei,k1]
      ·cases hpl
     ·cases hpl
   ·cases h
  ·cases h
 ·cases h
end
end Go.Ab

namespace Go.Ab
open Go Go.RowKit
section
variable {P:Program} {B:Nat} {o:Oper} {a:Act} {w w':World} {F F':Nat->Prop} {γ γ':Nat->Value} {M m:aY} {R:Nat->Value->Prop}
def Qx {s:TypeId} {f:Nat} {fd:Field} (h:vX P s f=some fd):∃ fs,P.underlying s=some (.struct fs)/\fs[f]? = some fd:=by
 unfold vX at h;split at h
 ·exact⟨_,by assumption,h⟩
 ·cases h
def qz0 {fd:Field} {ad:Addr} {i:TypeInfo} (hi:P.info? fd.type=some i) (hs:P.cellsOf fd.type≠0):(fieldPlace ad fd).run P w = .ok (ad.add fd.offset) w:=by
 simp[fieldPlace,iy hi,hs]
def Lx {s:TypeId} {f:Nat} {fd:Field} {ad:Addr} (h:vX P s f=some fd) (hi:(P.info? fd.type).isSome=true) (hs:P.cellsOf fd.type≠0) :
  (Instr.fieldAt s (.pointer (some ad)) f).run P w = .ok (.pointer (some (ad.add fd.offset))) w:=by
 obtain⟨fs,h1,h2⟩:=Qx h;obtain⟨i,hi'⟩:=uaq.1 hi;simp[Instr.fieldAt,ud3 h1,h2,Instr.sureAddr,qz0 hi' hs]
def rY (ad:Addr) (n:Nat):(ad.add n).block=ad.block:=by unfold Addr.add; split<;>rfl
def qlt {s:TypeId} {f:Nat} {x y:AV} {v:Value} (h:I4 P s x f=some y) (hr:aM P w F R x v) :
  ∃ u,(Instr.fieldAt s v f).run P w = .ok u w/\aM P w F R y u:=by
 unfold I4 at h;split at h
 ·rename_i fd hf;split at h
  ·rename_i hc;split at h<;>try trivial
   ·rename_i id off;cases h;obtain⟨_,b,h1,rfl⟩:=hr;exact⟨_,Lx hf hc.1 hc.2,rfl,b,h1,by rw[jK]⟩
   ·rename_i cs;cases h;obtain⟨_,ad,rfl,h2,h3⟩:=hr;exact⟨_,Lx hf hc.1 hc.2,rfl,_,rfl,by rw[rY]; exact h2,(h3.drop_ _).turn λj u _ hu=>by rw[o9]; exact hu⟩
   ·rename_i id sz i off;cases h;obtain⟨A,n,c,h1,rfl⟩:=hr;exact⟨_,Lx hf hc.1 hc.2,A,n,c,h1,by rw[o9,uef]⟩
  ·cases h
 ·cases h
def qum {wide:Bool} {cs:List AC} {x:AV} {us:List Value} (h:DX wide cs=some x) (hl:us.length=cs.length) (hr:aR P w F R cs (λj u=>us[j]? = some u)) :
  aM P w F R x (if wide then .agg us.toArray else us.headD undef):=by
 unfold DX at h;cases wide
 ·simp only[ub1,ufu] at h |-;split at h
  ·rename_i c;cases h;obtain⟨⟨u,e1,e2,e3⟩,_⟩:=hr;have:us.headD undef=u:=by cases us<;>simp_all
   rw[this];exact⟨e2,e3⟩
  ·cases h
 ·simp at h |-;subst h;exact⟨us.toArray,rfl,by simpa using hl,by simpa using hr⟩
def qlu {s:TypeId} {f:Nat} {fd:Field} {cs l:List AC} {x:AV} {v:Value} (hf:vX P s f=some fd) (hi:(P.info? fd.type).isSome=true/\(P.underlying fd.type).isSome=true)
  (hg:iQ cs fd.offset (if d9 P fd.type then P.cellsOf fd.type else 1)=some l) (hx:DX (d9 P fd.type) l=some x) (hr:aM P w F R (.agg cs) v) :
  ∃ u,(Instr.field s v f).run P w = .ok u w/\aM P w F R x u:=by
 obtain⟨fs,h1,h2⟩:=Qx hf;obtain⟨i,hi1⟩:=uaq.1 hi.1;obtain⟨d,hi2⟩:=uaq.1 hi.2;obtain⟨arr,rfl,e1,e2⟩:=hr;obtain⟨b1,us,b2,b3,b4,_⟩:=Ap rfl e1 e2 hg;refine⟨_,?_,qum hx b2 b3⟩;simp only[Instr.field,uer,ud3 h1,uck,h2,asAgg,uet,wZ hi2 hi1 b1,b4]
def RU {t e:TypeId} {ti:TypeInfo} {ad:Addr} {n c:Nat} {k:IntKind} {i:Int} (ht:P.underlying t=some (.slice e)) (he:P.info? e=some ti) (h:0<=i/\i<n) :
  (Instr.indexAt t (.slice (some ad) n c) (.int k i)).run P w = .ok (.pointer (some (ad.add (i.toNat*P.cellsOf e)))) w:=by
 simp[Instr.indexAt,ud3 ht,asIntOf,h,iy he]
def D9 {t e:TypeId} {ti:TypeInfo} {ad:Addr} {n:Nat} {k:IntKind} {i:Int} (ht:P.underlying t=some (.array n e)) (he:P.info? e=some ti) (h:0<=i/\i<n) :
  (Instr.indexAt t (.pointer (some ad)) (.int k i)).run P w = .ok (.pointer (some (ad.add (i.toNat*P.cellsOf e)))) w:=by
 simp[Instr.indexAt,ud3 ht,asIntOf,Instr.sureAddr,h,iy he]
def LC {tt:Ty} {l:List tt.den} {v:Value} {t e:TypeId} {ti:TypeInfo} {k:IntKind} {i:Int} (hr:aD w F (.sl tt) l (λ_ u=>u=v)) (ht:P.underlying t=some (.slice e)) (he:P.info? e=some ti)
  (hs:tt.size=P.cellsOf e) (hi:0<=i/\i<l.length):∃ u,(Instr.indexAt t v (.int k i)).run P w = .ok u w/\aM P w F R (.c (.sptr (enc tt (l.getD i.toNat tt.dflt)))) u:=by
 obtain⟨ad,c,rfl,h2,h3⟩:=UU (i:=i.toNat) hr (by omega);exact⟨_,RU ht he hi,rfl,_,rfl,by rw[rY]; exact h2,h3.turn λj u _ hu=>by rw[<- hs]; exact hu⟩
def qoj {t:TypeId} {x:AV} {k:IntKind} {i:Int} {e:Eff} {v:Value} (hm:MemOK P B w F γ M) (hsub:∀ i y,m i=some y->M i=some y) (h:JT P t x i m=some e) (hn:aE e.need) (hr:aM P w F (aA M γ) x v) :
  e.wr=[]/\∃ u,(Instr.indexAt t v (.int k i)).run P w = .ok u w/\aM P w F (aA M γ) e.v u:=by
 unfold JT at h;split at h
 ·rename_i el ht;split at h
  ·rename_i hel;obtain⟨ti,he⟩:=uaq.1 hel;split at h<;>try trivial
   ·rename_i id;split at h<;>try trivial
    ·rename_i ety tt l hmid;split at h<;>try trivial
     rename_i hs;cases h;obtain⟨b,c,arr,e1,e2,e3,e4,e5,e6⟩:=G2 (i:=i.toNat) hm (hsub _ _ hmid) (by have:=hn.1; have:=hn.2; omega);have hv:=kd (hsub _ _ hmid) (by simp) hr.2;subst hv;refine⟨rfl,_,by rw[e1]; exact RU ht he hn,⟨b,0,none⟩,l.length,c,?_,by rw[<- hs]; rfl⟩;unfold aA;rw[hsub _ _ hmid];exact e1.symm
    ·rename_i tt l hmid;split at h<;>try trivial
     rename_i hs;cases h;have hv:=kd (hsub _ _ hmid) (by simp) hr.2;subst hv;exact⟨rfl,LC (hm.ob id _ (hsub _ _ hmid)) ht he hs hn⟩
   ·rename_i tt l;split at h<;>try trivial
    rename_i hs;cases h;exact⟨rfl,LC (by simpa only[bh] using hr.2) ht he hs hn⟩
   ·rename_i tt l;split at h<;>try trivial
    rename_i hs;cases h;obtain⟨_,A,_,h2⟩:=hr;exact⟨rfl,LC h2 ht he hs hn⟩
  ·cases h
 ·rename_i n el ht;split at h
  ·rename_i hel;obtain⟨ti,he⟩:=uaq.1 hel;split at h
   ·rename_i h1;split at h<;>try trivial
    ·rename_i id off;cases h;obtain⟨_,b,f1,rfl⟩:=hr;exact⟨rfl,_,D9 ht he hn,⟨b,off,none⟩,⟨b,f1,rfl⟩,hn.1,hn.2,by rw[h1,Nat.mul_one]⟩
    ·rename_i cs;cases h;obtain⟨_,ad,rfl,f2,f3⟩:=hr;exact⟨rfl,_,D9 ht he hn,ad,⟨ad,rfl,f2,f3⟩,hn.1,hn.2,by rw[h1,Nat.mul_one]⟩
   ·split at h<;>try trivial
    rename_i k';split at h<;>try trivial
    rename_i hk;have hb:(0:Int)<=Int.ofNat k'/\Int.ofNat k'<(n:Int):=⟨ub2 _,Int.ofNat_lt.2 hk⟩;split at h<;>try trivial
    ·rename_i id off;cases h;obtain⟨_,b,f1,rfl⟩:=hr;exact⟨rfl,_,D9 ht he hb,rfl,b,f1,by rw[jK]; rfl⟩
    ·rename_i cs;cases h;obtain⟨_,ad,rfl,f2,f3⟩:=hr;exact⟨rfl,_,D9 ht he hb,rfl,_,rfl,by rw[rY]; exact f2,(f3.drop_ _).turn λj u _ hu=>by rw[o9]; exact hu⟩
  ·cases h
 ·cases h
def L8 {tt:Ty} {l:List tt.den} {v:Value} (hr:aD w F (.sl tt) l (λ_ u=>u=v)):∃ A c,v = .slice A l.length c/\l.length<=maxLen:=by
 obtain⟨A,c,h1,h2,h3,_⟩:=hr;exact⟨A,c,h1.symm,by omega⟩
def qw8 {id:Nat} {ety:TypeId} {t:Ty} {l:List t.den} (hm:MemOK P B w F γ M) (hM:M id=some (.arr ety t l)):∃ A c,γ id = .slice A l.length c/\l.length<=maxLen:=by
 obtain⟨xs,⟨h1,h2⟩,_⟩:=hm.ob id _ hM;rcases h2 with ⟨h3,h4⟩|⟨g,cap,cur,h3,_,_,h4,h5,_⟩
 ·exact⟨none,0,by rw[h3,h4],by omega⟩
 ·exact⟨_,_,h3,by omega⟩
def qrh {c:AC} {tt:Ty} {l:List tt.den} {v:Value} (hm:MemOK P B w F γ M) (hsub:∀ i y,m i=some y->M i=some y) (h:sP m c=some ⟨tt,l⟩) (hr:bh P w F (aA M γ) c v) :
  ∃ A cap,v = .slice A l.length cap/\l.length<=maxLen:=by
 unfold sP at h;split at h<;>try trivial
 ·cases h;exact L8 hr
 ·cases h;obtain⟨A,_,h2⟩:=hr;exact L8 h2
 ·rename_i id;split at h<;>try trivial
  ·rename_i ety t' l' hmid;cases h;have hv:=kd (hsub _ _ hmid) (by simp) hr;subst hv;exact qw8 hm (hsub _ _ hmid)
  ·rename_i t' l' hmid;cases h;have hv:=kd (hsub _ _ hmid) (by simp) hr;subst hv;exact L8 (hm.ob id _ (hsub _ _ hmid))
def qrg {t:TypeId} {x:AV} {e:Eff} {v:Value} (hm:MemOK P B w F γ M) (hsub:∀ i y,m i=some y->M i=some y) (h:Ke P t x m=some e) (hr:aM P w F (aA M γ) x v) (ty:TypeId) :
  e.wr=[]/\∃ u,(Builtin.len_ #[t] ty #[v]).run P w = .ok u w/\aM P w F (aA M γ) e.v u:=by
 have hbig:∀ n:Nat,n<=maxLen->inR .i64 (n:Int):=λn hn=>by
  simp only[maxLen] at hn;unfold inR;simp[IntKind.min,IntKind.max,IntKind.bits];omega
 unfold Ke at h;split at h
 ·rename_i el ht;split at h<;>try trivial
  ·cases h;obtain⟨_,rfl⟩:=hr;exact⟨rfl,_,by simp[Builtin.len_,ud3 ht,goInt],rfl,rfl,hbig 0 (by simp)⟩
  ·rename_i c _;split at h<;>try trivial
   rename_i tt l hl;cases h;obtain⟨A,cap,rfl,h2⟩:=qrh hm hsub hl hr.2;exact⟨rfl,_,by simp[Builtin.len_,ud3 ht,goInt],rfl,rfl,hbig _ h2⟩
 ·rename_i ht;split at h<;>try trivial
  cases h;obtain⟨_,rfl,h2⟩:=hr;exact⟨rfl,_,by simp[Builtin.len_,ud3 ht,goInt],rfl,rfl,hbig _ h2⟩
 ·cases h
def qoi {t:TypeId} {x:AV} {k:IntKind} {i:Int} {e:Eff} {v:Value} (h:JU P t x i=some e) (hn:aE e.need) (hr:aM P w F R x v) :
  e.wr=[]/\∃ u,(Instr.index t v (.int k i)).run P w = .ok u w/\aM P w F R e.v u:=by
 unfold JU at h;split at h
 ·rename_i ht;split at h<;>try trivial
  rename_i b;cases h;obtain⟨h1,h2⟩:=hn;obtain⟨_,hx⟩:=hr;refine⟨rfl,?_⟩;have hi:i.toNat<b.size:=by omega
  have hb:b[i.toNat]? = some (b[i.toNat]):=by simp
  have hd:b.data.getD i.toNat 0=b[i.toNat]:=by
   exact dif_pos hi
  refine⟨.int .u8 b[i.toNat].toNat,?_,?_⟩
  ·rw[hx.1];simp[Instr.index,ud3 ht,asIntOf,h1,hb]
  ·refine⟨rfl,?_⟩;simp only[bh,hd];have hlt:=b[i.toNat].toNat_lt;have e1:IntKind.u8.min=0:=by decide
   have e2:IntKind.u8.max=255:=by decide
   simp;constructor<;>omega
 ·rename_i n el ht;split at h<;>try trivial
  rename_i hc;obtain⟨c1,c2,c3,c4⟩:=hc;obtain⟨ti,hti⟩:=uaq.1 c1;obtain⟨d,hd⟩:=uaq.1 c2;split at h<;>try trivial
  split at h<;>try trivial
  rename_i k' _;split at h<;>try trivial
  rename_i ns hns;split at h<;>try trivial
  cases h;obtain⟨h1,h2⟩:=hn;obtain⟨arr,rfl,e1,e2⟩:=hr;have he:=DE hns;subst he;have hi:i.toNat<ns.length:=by omega
  obtain⟨u,q1,q2,q3⟩:=e2.at_ (j:=i.toNat) (c:=.int k' (ns.getD i.toNat 0)) (by simp[uap hi]);refine⟨rfl,u,?_,q2,q3⟩;have hsz:arr.size=ns.length:=by simpa using e1
  have hp:=wZ (w:=w) (cs:=arr) (off:=i.toNat) hd hti (by rw[c4]; simp; omega);simp only[Instr.index,uer,ud3 ht,uck,asIntOf,uet,h1,true_and,h2,if_true,iy hti,c3,Nat.mul_one,hp,c4,ufu]
  simp_all
 ·cases h
end
end Go.Ab

namespace Go.Ab
open Go Go.RowKit
section
variable {P:Program} {B:Nat} {o:Oper} {a:Act} {w w':World} {F F':Nat->Prop} {γ γ':Nat->Value} {M m:aY} {R:Nat->Value->Prop}
def vI:(t:Ty) -> {cs:List AC} -> {x:t.den} -> {r:List AC}->dec t cs=some (x,r)->cs.length=t.size+r.length
 |.int k,cs,x,r,h=>by
  simp only[dec] at h;unfold zf at h;split at h
  ·split at h
   ·simp at h;obtain⟨_,rfl⟩:=h;simp[Ty.size,uep]
   ·cases h
  ·cases h
 |.bool,cs,x,r,h=>by
  simp only[dec] at h;unfold zd at h;split at h
  ·simp at h;obtain⟨_,rfl⟩:=h;simp[Ty.size,uep]
  ·cases h
 |.str,cs,x,r,h=>by
  simp only[dec] at h;unfold zh at h;split at h
  ·simp at h;obtain⟨_,rfl⟩:=h;simp[Ty.size,uep]
  ·cases h
 |.sl e,cs,x,r,h=>by
  simp only[dec] at h;unfold zg at h;split at h
  ·split at h
   ·simp at h;obtain⟨_,rfl⟩:=h;simp[Ty.size,uep]
   ·cases h
  ·split at h
   ·simp at h;obtain⟨_,rfl⟩:=h;simp[Ty.size,uep]
   ·cases h
  ·simp at h;obtain⟨_,rfl⟩:=h;simp[Ty.size,uep]
  ·cases h
 |.unit,cs,x,r,h=>by
  obtain⟨_,rfl⟩:=h;simp[Ty.size]
 |.pair a b,cs,x,r,h=>by
  simp only[dec] at h;split at h
  ·rename_i x1 r1 h1;split at h
   ·rename_i x2 r2 h2;obtain⟨_,rfl⟩:=h;have e1:=vI a h1;have e2:=vI b h2;simp only[Ty.size];omega
   ·cases h
  ·cases h
 |.fm es,cs,x,r,h=>by
  simp only[dec] at h;unfold CM at h;split at h<;>try trivial
  split at h<;>try trivial
  obtain⟨_,rfl⟩:=h;simp[Ty.size,uep]
 |.ic es t,cs,x,r,h=>by
  simp only[dec] at h;unfold CL at h;split at h<;>try trivial
  split at h<;>try trivial
  split at h<;>try trivial
  obtain⟨_,rfl⟩:=h;simp[Ty.size,uep]
 |.fc f,cs,x,r,h=>by
  simp only[dec] at h;unfold CK at h;split at h<;>try trivial
  all_goals
   split at h<;>try trivial
   obtain⟨_,rfl⟩:=h;simp[Ty.size,uep]
def aD.cell:(t:Ty) -> {x:t.den} -> {g:Nat->Value->Prop}->aD w F t x g->∀ j,j<t.size->∃ u,g j u/\u.oneCell'=true
 |.int _,_,_,h,j,hj=>by
  have:j=0:=by simp[Ty.size] at hj; omega
  subst this;exact⟨_,h.1,rfl⟩
 |.bool,_,_,h,j,hj=>by
  have:j=0:=by simp[Ty.size] at hj; omega
  subst this;exact⟨_,h,rfl⟩
 |.str,_,_,h,j,hj=>by
  have:j=0:=by simp[Ty.size] at hj; omega
  subst this;exact⟨_,h.1,rfl⟩
 |.sl e,_,_,h,j,hj=>by
  have:j=0:=by simp[Ty.size] at hj; omega
  subst this;obtain⟨A,c,h1,_⟩:=h;exact⟨_,h1,rfl⟩
 |.unit,_,_,_,j,hj=>by simp[Ty.size] at hj
 |.pair a b,x,g,h,j,hj=>by
  rcases ueo j a.size with h1|h1
  ·exact aD.cell a h.1 j h1
  ·obtain⟨u,e1,e2⟩:=aD.cell b h.2 (j-a.size) (by simp only[Ty.size] at hj; omega);rw[show a.size+(j-a.size)=j from by omega] at e1;exact⟨u,e1,e2⟩
 |.fm es,_,_,h,j,hj=>by
  have:j=0:=by simp[Ty.size] at hj; omega
  subst this;obtain⟨r,arr,ck,h1,_⟩:=h;exact⟨_,h1,rfl⟩
 |.ic es t,_,_,h,j,hj=>by
  have:j=0:=by simp[Ty.size] at hj; omega
  subst this;rcases h with ⟨ty,u,_,h2,_⟩|⟨_,h2⟩
  ·exact⟨_,h2,rfl⟩
  ·exact⟨_,h2,rfl⟩
 |.fc f,_,_,h,j,hj=>by
  have:j=0:=by simp[Ty.size] at hj; omega
  subst this;obtain⟨u,h1,h2,_⟩:=h;exact⟨u,h1,h2⟩
def AH {t:Ty} {l:List t.den} {xs:List Value} (h:cJ w F t l xs) (hl:xs.length=l.length*t.size):∀ u∈xs,u.oneCell'=true:=by
 intro u hu;obtain⟨k,hk,rfl⟩:=List.getElem_of_mem hu;have hpos:0<t.size:=by
  rcases ub3 t.size with h0|h0
  ·rw[h0] at hl; omega
  ·exact h0
 have hi:k/t.size<l.length:=(Nat.div_lt_iff_lt_mul hpos).2 (by omega);have:=h (k/t.size) l[k/t.size] (uap hi);obtain⟨v,e1,e2⟩:=aD.cell t this (k%t.size) (Nat.mod_lt _ hpos);rw[ueu,Nat.div_add_mod,uap hk] at e1;cases e1;exact e2
def jV {t:Ty} {x:t.den} {v:Value} (h:bq w F t x v):aM P w F R (gL t x) v:=by
 obtain⟨h1,h2,h3⟩:=h;have he:=aD.enc (P:=P) (R:=R) t x h3;unfold gL;cases hw:t.wide
 ·simp;have hv:v.cells = #[v]:=by
   cases v<;>first|rfl|(exact absurd (h2.2 ⟨_,rfl⟩) (by simp[hw]))
  have:∃ c,enc t x=[c]:=by cases t<;>first|(simp_all[Ty.wide,enc]; done)|(rename_i f; cases f<;>simp_all[Ty.wide,enc])
  obtain⟨c,hc⟩:=this;rw[hc] at he |-;obtain⟨⟨u,e1,e2,e3⟩,_⟩:=he;rw[hv] at e1;simp at e1;subst e1;exact⟨e2,e3⟩
 ·simp;obtain⟨arr,rfl⟩:=h2.1 hw;exact⟨arr,rfl,by rw[oP]; exact h1,he⟩
def PR:{ts:List Ty} -> {x:ae ts} -> {vs:List Value}->eK w F ts x vs->bC P w F R (CS ts x) vs
 |[],_,_,h=>by cases h; trivial
 |_::_,_,_,⟨v,vs',h1,h2,h3⟩=>by subst h1; exact⟨jV h2,PR h3⟩
def bC.length:{xs:List AV} -> {vs:List Value}->bC P w F R xs vs->vs.length=xs.length
 |[],[],_=>rfl
 |_::_,_::_,h=>by simp[bC.length h.2]
 |[],_::_,h=>h.elim
 |_::_,[],h=>h.elim
def PQ {ts:List Ty} {x:ae ts} {v:Value} (h:∃ vs:Array Value,v = .tuple vs/\eK w F ts x vs.toList):aM P w F R (.tup (CS ts x)) v:=by
 obtain⟨vs,rfl,h2⟩:=h;have h3:=PR (P:=P) (R:=R) h2;exact⟨vs,rfl,by have:=h3.length; simpa using this,by simpa using TX h3⟩
def CR:{ts:List Ty} -> {x:ae ts} -> {v:Value}->ja w F ts x v->aM P w F R (mU ts x) v
 |[],_,_,h=>PQ h
 |[_],_,_,h=>jV h
 |t::t'::r,_,_,h=>PQ h
def Bu (hF:∀ b,F b->F' b) (hw:∀ b,F b->w'.heap[b]? = w.heap[b]?) {R':Nat->Value->Prop} (hR:∀ id v,R id v->R' id v):{xs:List AV} -> {vs:List Value}->bC P w F R xs vs->bC P w' F' R' xs vs
 |[],[],_=>trivial
 |_::_,_::_,h=>⟨aM.mono hF hw hR _ h.1,Bu hF hw hR h.2⟩
 |[],_::_,h=>h.elim
 |_::_,[],h=>h.elim
def CN {t:Ty} {x:AV} {d:t.den} {v:Value} (h:vH t x=some d) (hr:aM P w F R x v):bq w F t d v:=by
 unfold vH at h;split at h
 ·rename_i c;split at h
  ·cases h
  ·rename_i hw;split at h<;>try trivial
   rename_i y hd;cases h;have hv:v.cells = #[v]:=by
    have:=hr.1;cases v<;>first|rfl|simp[Value.oneCell'] at this
   obtain⟨e1,_⟩:=aD.dec (g:=λj u=>v.cells[j]? = some u) t hd ⟨⟨v,by simp[hv],hr.1,hr.2⟩,uT⟩;refine⟨?_,⟨λh'=>absurd h' hw,λ⟨cs,hc⟩=>?_⟩,e1⟩
   ·rw[hv];cases t<;>simp_all[Ty.size,Ty.wide]
   ·have:=hr.1;rw[hc] at this;simp[Value.oneCell'] at this
 ·rename_i cs;split at h
  ·rename_i hw;split at h<;>try trivial
   rename_i y hd;cases h;obtain⟨arr,rfl,h1,h2⟩:=hr;have hl:cs.length=t.size:=by simpa using vI t hd
   obtain⟨e1,_⟩:=aD.dec t hd h2;exact⟨by show arr.size=_; omega,⟨λ_=>⟨arr,rfl⟩,λ_=>hw⟩,e1⟩
  ·cases h
 ·cases h
def oO:{ts:List Ty} -> {xs:List AV} -> {x:ae ts} -> {vs:List Value}->iK ts xs=some x->bC P w F R xs vs->eK w F ts x vs
 |[],[],_,[],_,_=>rfl
 |t::r,a::s,x,v::vs,h,hr=>by
  simp only[iK] at h;split at h
  ·rename_i y z h1 h2;cases h;exact⟨v,vs,rfl,CN h1 hr.1,oO h2 hr.2⟩
  ·cases h
 |[],[],_,_::_,_,hr=>hr.elim
 |_::_,_::_,_,[],_,hr=>hr.elim
 |[],_::_,_,_,h,_=>by simp[iK] at h
 |_::_,[],_,_,h,_=>by simp[iK] at h
def gY (M:aY) (u v:List (Nat×Ob)):aK M (u++v)=aK (aK M u) v:=by
 induction u generalizing M with
 |nil=>rfl
 |cons x u ih=>exact ih _
def o8 (m M:aY):Prop:=∀ i y,m i=some y->M i=some y \/ ∃ e t l,y = .arr e t l/\M i=some (.frz t l)
def g6 (h:∀ i y,m i=some y->M i=some y):o8 m M:=λi y hy=>.inl (h i y hy)
def zeq {id:Nat} {o:Ob} (h:M id=some o):upd M id o=M:=by
 funext i;unfold upd;split
 ·rename_i hi; subst hi; exact h.symm
 ·rfl
def qm7 {id:Nat} {e:TypeId} {t:Ty} {l:List t.den} (hm:MemOK P B w F γ M) (hb:∀ b,F b->b<w.heap.size) (hM:M id=some (.arr e t l)) :
  ∃ F',Step B w F γ M w F' γ (upd M id (.frz t l))/\MemOK P B w F' γ (upd M id (.frz t l)):=by
 have hob:=hm.ob id _ hM;obtain⟨xs,hown,hnF,hrows,_⟩:=hob;refine⟨λb=>F b\/(γ id).ownBlock=some b,?_,?_⟩
 ·refine⟨λb h=>.inl h,λ_ _=>rfl,qN hM (by simp),λ_ _=>rfl,rfl,rfl,rfl,ufa _,λb h=>?_,λb h=>?_⟩
  ·rcases h with h|h
   ·exact hb b h
   ·exact(hown.lt b h).2
  ·rcases h with h|h
   ·exact .inl h
   ·exact .inr (hown.lt b h).1
 ·refine hm.change hM (by simp) (λb h=>.inl h) (λ_ _=>rfl) (λb h=>by simp[cQ] at h) (λb _ hne=>⟨rfl,λh=>?_⟩) ?_
  ·rcases h with h|h
   ·exact h
   ·exact absurd (by simpa[cQ] using h) hne
  ·simp only[lq];obtain⟨hl,hn|⟨g,cap,cur,hv,hbg,hg,hnc,hcm,hcs,ht⟩⟩:=hown
   ·obtain⟨h1,h2⟩:=hn;refine⟨none,0,?_,by omega,by simp,λi x hi=>?_⟩
    ·rw[h1,h2]
    ·rw[uab h2] at hi;simp at hi
   ·refine⟨some ⟨g,0,none⟩,cap,hv.symm,hnc,hcm,λi x hi=>⟨_,rfl,.inr (by rw[hv]; rfl),?_⟩⟩;refine(hrows i x hi).mono (λb h=>.inl h) (λ_ _=>rfl) λj u hj hu=>?_;rw[jK,yL hg,<- hu,<- ht,ub0];have:i<l.length:=(uak.1 hi).1;have h3:i*t.size+t.size<=l.length*t.size:=by
     rw[<- uev];exact ubc _ this
    rw[if_pos (by omega)];simp
def EG {c x:AC} {u:List (Nat×Ob)} {v:Value} (hm:MemOK P B w F γ M) (hb:∀ b,F b->b<w.heap.size) (hs:o8 m M) (h:nY m c=some (x,u)) (hr:bh P w F (aA M γ) c v) :
  ∃ F',Step B w F γ M w F' γ (aK M u)/\MemOK P B w F' γ (aK M u)/\o8 m (aK M u)/\bh P w F' (aA (aK M u) γ) x v:=by
 unfold nY at h;split at h
 ·rename_i id;split at h<;>try trivial
  ·rename_i e t l hid;cases h;rcases hs id _ hid with hM|⟨e',t',l',he,hM⟩
   ·obtain⟨F',s1,s2⟩:=qm7 hm hb hM;have hv:=kd hM (by simp) hr;subst hv;refine⟨F',s1,s2,λi y hy=>?_,?_⟩
    ·by_cases hi:i=id
     ·subst hi;rw[hid] at hy;cases hy;exact .inr ⟨e,t,l,rfl,i5 _ _ _⟩
     ·simp only[aK];rw[fu _ _ hi];exact hs i y hy
    ·simp only[bh];exact s2.ob id _ (i5 _ _ _)
   ·cases he;have hv:=kd hM (by simp) hr;subst hv;have hself:aK M [(id,Ob.frz t l)]=M:=zeq hM;refine⟨F,by rw[hself]; exact Step.refl hb,by rw[hself]; exact hm,by rw[hself]; exact hs,?_⟩;exact hm.ob id _ hM
  ·rename_i t l hid;cases h;rcases hs id _ hid with hM|⟨e',t',l',he,hM⟩
   ·have hv:=kd hM (by simp) hr;subst hv;refine⟨F,Step.refl hb,hm,hs,?_⟩;exact hm.ob id _ hM
   ·cases he
 ·cases h;exact⟨F,Step.refl hb,hm,hs,hr⟩
def AI:{cs xs:List AC} -> {u:List (Nat×Ob)} -> {M:aY} -> {F:Nat->Prop} -> {g:Nat->Value->Prop}->MemOK P B w F γ M->(∀ b,F b->b<w.heap.size)->o8 m M->ix m cs=some (xs,u)->aR P w F (aA M γ) cs g ->
  ∃ F',Step B w F γ M w F' γ (aK M u)/\MemOK P B w F' γ (aK M u)/\o8 m (aK M u)/\xs.length=cs.length/\aR P w F' (aA (aK M u) γ) xs g
 |[],xs,u,M,F,g,hm,hb,hs,h,hr=>by
  obtain⟨rfl,rfl⟩:=h;exact⟨F,Step.refl hb,hm,hs,rfl,uT⟩
 |c::r,xs,u,M,F,g,hm,hb,hs,h,hr=>by
  simp only[ix] at h;split at h
  ·rename_i x u1 y u2 h1 h2;cases h;obtain⟨⟨v,e1,e2,e3⟩,e4⟩:=hr;obtain⟨F1,s1,m1,t1,r1⟩:=EG hm hb hs h1 e3;obtain⟨F2,s2,m2,t2,l2,r2⟩:=AI m1 s1.bd t1 h2 (s1.repCL e4);rw[gY];exact⟨F2,s1.trans s2,m2,t2,by simp[l2],⟨⟨v,e1,e2,bh.mono s2.hF s2.hw s2.hR _ r1⟩,r2⟩⟩
  ·cases h
def Uz {x y:AV} {u:List (Nat×Ob)} {v:Value} (hm:MemOK P B w F γ M) (hb:∀ b,F b->b<w.heap.size) (hs:o8 m M) (h:qQ m x=some (y,u)) (hr:aM P w F (aA M γ) x v) :
  ∃ F',Step B w F γ M w F' γ (aK M u)/\MemOK P B w F' γ (aK M u)/\o8 m (aK M u)/\aM P w F' (aA (aK M u) γ) y v:=by
 unfold qQ at h;split at h
 ·split at h<;>try trivial
  rename_i h1;cases h;obtain⟨F1,s1,m1,t1,r1⟩:=EG hm hb hs h1 hr.2;exact⟨F1,s1,m1,t1,hr.1,r1⟩
 ·split at h<;>try trivial
  rename_i h1;cases h;obtain⟨arr,e1,e2,e3⟩:=hr;obtain⟨F1,s1,m1,t1,l1,r1⟩:=AI hm hb hs h1 e3;exact⟨F1,s1,m1,t1,arr,e1,by rw[e2,l1],r1⟩
 ·cases h
def ko:{cs xs:List AV} -> {u:List (Nat×Ob)} -> {M:aY} -> {F:Nat->Prop} -> {vs:List Value}->MemOK P B w F γ M->(∀ b,F b->b<w.heap.size)->o8 m M->eF m cs=some (xs,u)->bC P w F (aA M γ) cs vs ->
  ∃ F',Step B w F γ M w F' γ (aK M u)/\MemOK P B w F' γ (aK M u)/\o8 m (aK M u)/\bC P w F' (aA (aK M u) γ) xs vs
 |[],xs,u,M,F,vs,hm,hb,hs,h,hr=>by
  obtain⟨rfl,rfl⟩:=h;exact⟨F,Step.refl hb,hm,hs,hr⟩
 |c::r,xs,u,M,F,[],hm,hb,hs,h,hr=>hr.elim
 |c::r,xs,u,M,F,v::vs,hm,hb,hs,h,hr=>by
  simp only[eF] at h;split at h
  ·rename_i x u1 y u2 h1 h2;cases h;obtain⟨F1,s1,m1,t1,r1⟩:=Uz hm hb hs h1 hr.1;have hr2:=Bu s1.hF s1.hw s1.hR hr.2;obtain⟨F2,s2,m2,t2,r2⟩:=ko m1 s1.bd t1 h2 hr2;rw[gY];exact⟨F2,s1.trans s2,m2,t2,s2.repA r1,r2⟩
  ·cases h
end
end Go.Ab

namespace Go.Ab
open Go Go.RowKit
section
variable {P:Program} {B:Nat} {o:Oper} {a:Act} {w w':World} {F F':Nat->Prop} {γ γ':Nat->Value} {M m:aY} {R:Nat->Value->Prop}
def zcq {d:Nat} {ob:Ob} {v:Value} {x:Obj} (hb:∀ b,F b->b<w.heap.size) (hB:B<=w.heap.size) (hd:M d=none):Step B w F γ M (w.alloc x) F (eG γ d v) (upd M d ob):=
 ⟨λ_ h=>h,λb h=>uc8 _ _ _ (hb b h),A5 hd,λb h=>uc8 _ _ _ (by omega),rfl,rfl,rfl,by simp,λb h=>by have:=hb b h; simp; omega,λb h=>.inl h⟩
def SJ {d:Nat} {ty:TypeId} {arr:Array Value} {cs:List AC} (hm:MemOK P B w F γ M) (hb:∀ b,F b->b<w.heap.size) (hB:B<=w.heap.size) (hd:M d=none) (hl:arr.size=cs.length)
  (hr:aR P w F (aA M γ) cs (λj u=>arr[j]? = some u)) :
  Step B w F γ M (w.alloc (.cells arr ty)) F (eG γ d (.pointer (some ⟨w.heap.size,0,none⟩))) (upd M d (.box ty cs)) /\
  MemOK P B (w.alloc (.cells arr ty)) F (eG γ d (.pointer (some ⟨w.heap.size,0,none⟩))) (upd M d (.box ty cs)):=by
 have hs:Step B w F γ M (w.alloc (.cells arr ty)) F (eG γ d (.pointer (some ⟨w.heap.size,0,none⟩))) (upd M d (.box ty cs)):=zcq hb hB hd;refine⟨hs,hm.new hd hs.hF hs.hw (λb h=>?_) (λb h=>⟨uc8 _ _ _ h,λh=>h⟩) ?_⟩
 ·simp only[cQ,ucj] at h;omega
 ·exact⟨w.heap.size,arr,rfl,ud5 w _,λh=>by have:=hb _ h; omega,hB,hl,hs.repCL hr⟩
def TH {d:Nat} {ty:TypeId} {cs:List AC} {b:Nat}:aM P w F (aA (upd M d (.box ty cs)) (eG γ d (.pointer (some ⟨b,0,none⟩)))) (.c (.ptr d 0)) (.pointer (some ⟨b,0,none⟩)):=by
 refine⟨rfl,b,?_,rfl⟩;unfold aA;rw[i5];exact(ul _ _ _).symm
def wz {d:Nat} {ety:TypeId} {t:Ty} {l:List t.den} {xs:List Value} {v:Value} (hm:MemOK P B w F γ M) (hb:∀ b,F b->b<w.heap.size) (hB:B<=w.heap.size) (hd:M d=none)
  (hg:w.grownBy w' none) (hown:w'.ownsRow B ety t.size v l.length xs) (hnew:∀ g,v.ownBlock=some g->w.heap.size<=g) (hrows:cJ w' F t l xs) :
  Step B w F γ M w' F (eG γ d v) (upd M d (.arr ety t l))/\MemOK P B w' F (eG γ d v) (upd M d (.arr ety t l)):=by
 have hblk:=λb h=>hg.block b h (by simp);have hs:Step B w F γ M w' F (eG γ d v) (upd M d (.arr ety t l)):=
  ⟨λ_ h=>h,λb h=>hblk b (hb b h),A5 hd,λb h=>hblk b (by omega),hg.os,hg.tape,hg.output,hg.size,λb h=>by have:=hb b h; have:=hg.size; omega,λb h=>.inl h⟩
 refine⟨hs,hm.new hd hs.hF hs.hw (λb h=>hnew b (by simpa[cQ] using h)) (λb h=>⟨hblk b h,λh=>h⟩) ?_⟩;refine⟨xs,hown,λg hg' hF=>?_,hrows,AH hrows hown.1⟩;have:=hb g hF;have:=hnew g hg';omega
def ny {d:Nat} {ety:TypeId} {t:Ty} {l:List t.den} {v:Value} (h1:v.oneCell'=true):aM P w F (aA (upd M d (.arr ety t l)) (eG γ d v)) (.c (.own d)) v:=by
 refine⟨h1,?_⟩;simp only[bh];unfold aA;rw[i5];exact(ul _ _ _).symm
def MemOK.moved (h:MemOK P B w F γ M) {id d:Nat} {o0 o:Ob} {v:Value} (h0:M id=some o0) (hd:M d=none)
  (hw:∀ b,F b->w'.heap[b]? = w.heap[b]?)
  (hex:∀ b,cQ o v=some b->cQ o0 (γ id)=some b\/w.heap.size<=b)
  (hoth:∀ b,b<w.heap.size->cQ o0 (γ id)≠some b->w'.heap[b]? = w.heap[b]?)
  (hok:lq P B w' F (aA (upd (upd M id .gone) d o) (eG γ d v)) v o):MemOK P B w' F (eG γ d v) (upd (upd M id .gone) d o):=by
 have hne:d≠id:=by rintro rfl; rw[hd] at h0; cases h0
 have hR:∀ i u,aA M γ i u->aA (upd (upd M id .gone) d o) (eG γ d v) i u:=λi u hu=>
  A5 (by rw[fu _ _ hne]; exact hd) i u (qN h0 (λ_=>rfl) i u hu)
 refine⟨λi oi hi=>?_,λi j oi oj b hij hi hj hbi hbj=>?_⟩
 ·by_cases he:i=d
  ·subst he;rw[i5,ucj] at hi;subst hi;rw[ul];exact hok
  ·rw[fu _ _ he] at hi;rw[uk _ _ he];by_cases hf:i=id
   ·subst hf;rw[i5,ucj] at hi;subst hi;trivial
   ·rw[fu _ _ hf] at hi;refine(h.ob i oi hi).keep (λ_ h=>h) hw hR λb hb=>?_;obtain⟨e1,e2,_⟩:=lI (h.ob i oi hi) hb;exact⟨hoth b e1 (λhc=>h.apart i id oi o0 b hf hi h0 hb hc),e2⟩
 ·have key:∀ i oi b,i≠d->(upd (upd M id .gone) d o) i=some oi->cQ oi ((eG γ d v) i)=some b->i≠id/\M i=some oi/\cQ oi (γ i)=some b:=by
   intro i oi b h1 h2 h3;rw[fu _ _ h1] at h2;rw[uk _ _ h1] at h3;by_cases hf:i=id
   ·subst hf;rw[i5,ucj] at h2;subst h2;simp[cQ] at h3
   ·rw[fu _ _ hf] at h2;exact⟨hf,h2,h3⟩
  have keyd:∀ oi b,(upd (upd M id .gone) d o) d=some oi->cQ oi ((eG γ d v) d)=some b->cQ o0 (γ id)=some b\/w.heap.size<=b:=by
   intro oi b h1 h2;rw[i5,ucj] at h1;subst h1;rw[ul] at h2;exact hex b h2
  by_cases he:i=d
  ·subst he;obtain⟨k1,k2,k3⟩:=key j oj b (Ne.symm hij) hj hbj;rcases keyd oi b hi hbi with k4|k4
   ·exact h.apart j id oj o0 b k1 k2 h0 k3 k4
   ·have:=(lI (h.ob j oj k2) k3).1; omega
  ·obtain⟨k1,k2,k3⟩:=key i oi b he hi hbi;by_cases hf:j=d
   ·subst hf;rcases keyd oj b hj hbj with k4|k4
    ·exact h.apart i id oi o0 b k1 k2 h0 k3 k4
    ·have:=(lI (h.ob i oi k2) k3).1; omega
   ·obtain⟨l1,l2,l3⟩:=key j oj b hf hj hbj;exact h.apart i j oi oj b hij k2 l2 k3 l3
def DU {id d:Nat} {ety ety0:TypeId} {t t0:Ty} {l:List t.den} {l0:List t0.den} {xs:List Value} {v:Value} (hm:MemOK P B w F γ M) (hb:∀ b,F b->b<w.heap.size) (hB:B<=w.heap.size)
  (h0:M id=some (.arr ety0 t0 l0)) (hd:M d=none)
  (hg:w.grownBy w' (γ id).ownBlock) (hown:w'.ownsRow B ety t.size v l.length xs) (hnew:v.ownBlock=(γ id).ownBlock\/v.ownBlock=some w.heap.size\/v.ownBlock=none) (hrows:cJ w' F t l xs) :
  Step B w F γ M w' F (eG γ d v) (upd (upd M id .gone) d (.arr ety t l))/\MemOK P B w' F (eG γ d v) (upd (upd M id .gone) d (.arr ety t l)):=by
 have hne:d≠id:=by rintro rfl; rw[hd] at h0; cases h0
 obtain⟨xs0,q1,q2,_⟩:=hm.ob id _ h0;have hnF:∀ b,F b->some b≠(γ id).ownBlock:=λb hb' he=>q2 b he.symm hb';have hs:Step B w F γ M w' F (eG γ d v) (upd (upd M id .gone) d (.arr ety t l)):=
  ⟨λ_ h=>h,λb h=>hg.block b (hb b h) (hnF b h),
   λi u hu=>A5 (by rw[fu _ _ hne]; exact hd) i u (qN h0 (λ_=>rfl) i u hu),
   λb h=>hg.block b (by omega) (λhe=>by have:=(q1.lt b he.symm).1; omega),hg.os,hg.tape,hg.output,hg.size,λb h=>by have:=hb b h; have:=hg.size; omega,λb h=>.inl h⟩
 refine⟨hs,hm.moved h0 hd hs.hw (λb h=>?_) (λb h1 h2=>hg.block b h1 (λhe=>h2 (by simpa[cQ] using he.symm))) ?_⟩
 ·simp only[cQ] at h |-;rcases hnew with h'|h'|h'
  ·rw[h'] at h; exact .inl h
  ·rw[h'] at h; simp at h; exact .inr (by omega)
  ·rw[h'] at h; cases h
 ·refine⟨xs,hown,λg hg' hF=>?_,hrows,AH hrows hown.1⟩;rcases hnew with h'|h'|h'
  ·rw[h'] at hg'; exact q2 g hg' hF
  ·rw[h'] at hg'; simp at hg'; have:=hb g hF; omega
  ·rw[h'] at hg'; cases hg'
end
end Go.Ab
