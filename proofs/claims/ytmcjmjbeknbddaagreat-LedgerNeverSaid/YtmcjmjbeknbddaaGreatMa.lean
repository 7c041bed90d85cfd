/-
  Parts of the proof, one behind the other.
-/
import Derived.Calls
import Derived.Below
import Derived.Laws.AppendOwn
import Derived.OwnWalk
import Derived.Maps.AppendAt
import Derived.Deep.Draws
import Derived.Deep.MidRow
import Derived.Laws.StructEq
import Derived.Laws.MakeOwn
set_option linter.all false
set_option maxRecDepth 100000
set_option maxHeartbeats 4000000
abbrev uaa:=@Array.getElem?_setIfInBounds_ne
abbrev uab:=@List.eq_nil_of_length_eq_zero
abbrev uac:=@Array.getD_eq_getD_getElem?
abbrev uad:=@Array.getElem?_append_right
abbrev uae:=@List.getElem?_append_right
abbrev uaf:=@Array.getElem?_eq_some_iff
abbrev uag:=@Int.fdiv_eq_ediv_of_nonneg
abbrev uah:=@List.getD_eq_getElem?_getD
abbrev uai:=@Array.getElem?_append_left
abbrev uaj:=@List.getElem?_append_left
abbrev uak:=@List.getElem?_eq_some_iff
abbrev ual:=@List.drop_eq_getElem_cons
abbrev uam:=@Array.getElem?_eq_getElem
abbrev uan:=@List.getLast?_eq_getElem?
abbrev uao:=@List.mem_or_eq_of_mem_set
abbrev uap:=@List.getElem?_eq_getElem
abbrev uaq:=@Option.isSome_iff_exists
abbrev uar:=@Array.getElem?_replicate
abbrev uas:=@List.take_append_getElem
abbrev uat:=@List.getElem?_cons_zero
abbrev uau:=@decide_eq_false_iff_not
abbrev uav:=@List.pairwise_lt_range'
abbrev uaw:=@Nat.add_sub_cancel_left
abbrev uax:=@List.pairwise_singleton
abbrev uay:=@List.length_eq_zero_iff
abbrev uaz:=@List.getElem?_set_self
abbrev ua0:=@Array.getElem?_eq_none
abbrev ua1:=@List.drop_eq_nil_of_le
abbrev ua2:=@List.take_of_length_le
abbrev ua3:=@List.getElem?_eq_none
abbrev ua4:=@Array.getElem?_toList
abbrev ua5:=@List.mem_append_right
abbrev ua6:=@List.length_singleton
abbrev ua7:=@List.mem_of_mem_erase
abbrev ua8:=@List.mem_iff_getElem?
abbrev ua9:=@List.take_append_drop
abbrev uba:=@Bool.cond_false_right
abbrev ubb:=@Go.World.cell?_of_block
abbrev ubc:=@Nat.mul_le_mul_right
abbrev ubd:=@Array.toArray_toList
abbrev ube:=@List.mem_of_getElem?
abbrev ubf:=@Array.mem_toList_iff
abbrev ubg:=@List.getElem?_set_ne
abbrev ubh:=@List.mem_cons_of_mem
abbrev ubi:=@List.mem_append_left
abbrev ubj:=@List.erase_cons_head
abbrev ubk:=@List.range_eq_range'
abbrev ubl:=@Array.replicate_succ
abbrev ubm:=@Array.replicate_zero
abbrev ubn:=@List.pairwise_append
abbrev ubo:=@List.mem_of_mem_take
abbrev ubp:=@List.mem_of_mem_drop
abbrev ubq:=@List.getElem?_of_mem
abbrev ubr:=@Go.Value.pointer.injEq
abbrev ubs:=@Array.length_toList
abbrev ubt:=@Go.World.grownBy_alloc
abbrev ubu:=@beq_eq_false_iff_ne
abbrev ubv:=@List.append_toArray
abbrev ubw:=@Bool.cond_true_left
abbrev ubx:=@List.length_pos_iff
abbrev uby:=@Nat.add_sub_cancel
abbrev ubz:=@List.getElem?_drop
abbrev ub0:=@List.getElem?_take
abbrev ub1:=@Bool.false_eq_true
abbrev ub2:=@Int.natCast_nonneg
abbrev ub3:=@Nat.eq_zero_or_pos
abbrev ub4:=@List.length_append
abbrev ub5:=@Go.grownCap_le_maxLen
abbrev ub6:=@Go.World.grownBy.refl
abbrev ub7:=@List.mem_filterMap
abbrev ub8:=@List.pairwise_cons
abbrev ub9:=@Nat.lt_of_lt_of_le
abbrev uca:=@List.mem_cons_self
abbrev ucb:=@Nat.lt_of_le_of_lt
abbrev ucc:=@Go.calls_of_wp_defers
abbrev ucd:=@List.mem_singleton
abbrev uce:=@Go.World.size_setCell
abbrev ucf:=@of_decide_eq_false
abbrev ucg:=@Array.ext_getElem?
abbrev uch:=@List.filter_append
abbrev uci:=@Go.heap_setCell_other
abbrev ucj:=@Option.some.injEq
abbrev uck:=@Go.Result.andThen_ok
abbrev ucl:=@Go.run_equalIn_bool'
abbrev ucm:=@List.getElem?_map
abbrev ucn:=@Array.size_append
abbrev uco:=@List.size_toArray
abbrev ucp:=@List.append_assoc
abbrev ucq:=@Go.World.ownsRow_nil
abbrev ucr:=@Nat.lt_trichotomy
abbrev ucs:=@decide_eq_true_eq
abbrev uct:=@Bool.not_eq_true'
abbrev ucu:=@List.mem_range'_1
abbrev ucv:=@of_decide_eq_true
abbrev ucw:=@List.push_toArray
abbrev ucx:=@Bool.eq_false_iff
abbrev ucy:=@Int.toNat_natCast
abbrev ucz:=@Go.heap_setCell_same
abbrev uc0:=@Go.setCell_eq_setRow
abbrev uc1:=@List.cons_append
abbrev uc2:=@List.length_take
abbrev uc3:=@List.length_drop
abbrev uc4:=@Array.toList_inj
abbrev uc5:=@List.all_eq_true
abbrev uc6:=@List.length_cons
abbrev uc7:=@Option.bind_some
abbrev uc8:=@Go.RowKit.Below.heap_alloc
abbrev uc9:=@Bool.and_eq_true
abbrev uda:=@Option.getD_some
abbrev udb:=@List.range'_succ
abbrev udc:=@Go.IntKind.wrap_i64
abbrev udd:=@Go.World.size_alloc
abbrev ude:=@decide_eq_decide
abbrev udf:=@List.getElem_mem
abbrev udg:=@Int.ediv_nonneg
abbrev udh:=@List.length_nil
abbrev udi:=@List.nil_append
abbrev udj:=@List.all_append
abbrev udk:=@List.length_set
abbrev udl:=@Nat.min_eq_left
abbrev udm:=@List.cons.injEq
abbrev udn:=@List.append_nil
abbrev udo:=@List.mem_append
abbrev udp:=@Bool.or_eq_true
abbrev udq:=@Nat.zero_lt_one
abbrev udr:=@decide_eq_false
abbrev uds:=@List.map_append
abbrev udt:=@Bool.eq_iff_iff
abbrev udu:=@List.length_zip
abbrev udv:=@List.take_left'
abbrev udw:=@List.drop_left'
abbrev udx:=@List.range_succ
abbrev udy:=@List.length_map
abbrev udz:=@Option.some.inj
abbrev ud0:=@ne_of_beq_false
abbrev ud1:=@Go.run_underlying
abbrev ud2:=@Go.eqGuard_at_int
abbrev ud3:=@Go.heap_alloc_new
abbrev ud4:=@List.take_take
abbrev ud5:=@List.mem_range
abbrev ud6:=@decide_eq_true
abbrev ud7:=@Int.mul_nonneg
abbrev ud8:=@Bool.and_assoc
abbrev ud9:=@Bool.and_false
abbrev uea:=@Nat.mul_le_mul
abbrev ueb:=@List.drop_zero
abbrev uec:=@Prod.mk.injEq
abbrev ued:=@Nat.add_assoc
abbrev uee:=@List.mem_cons
abbrev uef:=@List.all_cons
abbrev ueg:=@List.map_cons
abbrev ueh:=@Bool.true_and
abbrev uei:=@Bool.and_true
abbrev uej:=@Nat.mul_assoc
abbrev uek:=@Nat.le_trans
abbrev uel:=@Nat.lt_or_ge
abbrev uem:=@Nat.add_comm
abbrev uen:=@Int.sub_zero
abbrev ueo:=@Go.Sem.run_bind
abbrev uep:=@Int.le_of_lt
abbrev ueq:=@Go.Sem.run_pure
abbrev uer:=@Nat.mul_comm
abbrev ues:=@Nat.succ_mul
abbrev uet:=@Nat.zero_add
abbrev ueu:=@Nat.add_zero
abbrev uev:=@Go.setRow_other
abbrev uew:=@Int.mul_comm
abbrev uex:=@Go.bodyPost_ret
abbrev uey:=@Go.results_none
abbrev uez:=@Int.le_trans
abbrev ue0:=@Nat.le_of_lt
abbrev ue1:=@List.mem_map
abbrev ue2:=@Go.Addr.add_lit
abbrev ue3:=@Go.bodyPost_end
abbrev ue4:=@Nat.le_refl
abbrev ue5:=@Int.le_refl
abbrev ue6:=@Nat.add_mul
abbrev ue7:=@Go.setRow_heap
abbrev ue8:=@Go.calls_of_wp
abbrev ue9:=@Go.leaves_cons
abbrev ufa:=@Nat.zero_le
abbrev ufb:=@Nat.mod_lt
abbrev ufc:=@beq_iff_eq
abbrev ufd:=@Go.RowKit.Below.refl
abbrev ufe:=@Int.not_lt
abbrev uff:=@bne_iff_ne
abbrev ufg:=@Go.info_parts
abbrev ufh:=@Array.ext
abbrev ufi:=@Go.mem_ready
abbrev ufj:=@Go.wp_region
abbrev ufk:=@and_self
abbrev ufl:=@if_false
abbrev ufm:=@congrArg
abbrev ufn:=@Prod.ext
abbrev I6:=Go.IntKind.i64
theorem uT:True:=⟨⟩
open Go Go.RowKit
variable {T α σ ρ β:Type} {P:Program} {ad:Addr} {arr cs cur:Array Value} {f:FuncId} {x a y day:Int} {k:IntKind} {l:List Int} {xs vs news:List Value} {off i n b c d j B m len:Nat} {F F' K:Nat->Prop} {R g R':Nat->Value->Prop} {o:Oper} {p:Prop} {e ety t ty el:TypeId} {v u vx:Value} {w w' W' W:World}
namespace Go.Ab
open Go Go.RowKit
inductive Ty where
 |int (k:IntKind)
 |bool
 |str
 |sl (e:Ty)
 |unit
 |pair (a b:Ty)
 |fm (es:List (Int×Nat))
 |ic (es:List (Int×Nat)) (t:Ty)
 |fc (f:Option Nat)
 deriving DecidableEq
@[reducible] def Ty.den:Ty->Type
 |.int _=>Int
 |.bool=>Bool
 |.str=>ByteArray
 |.sl e=>List e.den
 |.unit=>Unit
 |.pair a b=>a.den×b.den
 |.fm _=>Unit
 |.ic _ t=>Int×t.den
 |.fc _=>Unit
def Ty.size:Ty->Nat
 |.unit=>0
 |.pair a b=>a.size+b.size
 |_=>1
def Ty.wide:Ty->Bool
 |.unit | .pair _ _=>true
 |_=>false
def Ty.flat:Ty->Bool
 |.sl _=>false
 |.fm _=>false
 |.ic _ t=>t.flat
 |.fc _=>false
 |.pair a b=>a.flat&&b.flat
 |_=>true
def Ty.dflt:(t:Ty)->t.den
 |.int _=>(0:Int)
 |.bool=>false
 |.str=>ByteArray.empty
 |.sl _=>[]
 |.unit=>()
 |.pair a b=>(a.dflt,b.dflt)
 |.fm _=>()
 |.ic _ t=>(0,t.dflt)
 |.fc _=>()
def cD (es:List (Int×Nat)) (k:Int):Option Nat:=(es.find? (λx=>x.1==k)).map (·.2)
def inR (k:IntKind) (n:Int):Prop:=k.min<=n/\n<=k.max
def aA (w:World) (F:Nat->Prop):(t:Ty)->t.den->(Nat->Value->Prop)->Prop
 |.int k,n,g=>g 0 (.int k n)/\inR k n
 |.bool,b,g=>g 0 (.bool b)
 |.str,s,g=>g 0 (.string s)/\s.size<=maxLen
 |.sl e,l,g=>∃ A c,g 0 (.slice A l.length c)/\l.length<=c/\c<=maxLen /\
   ∀ i x,l[i]? = some x->∃ ad,A=some ad/\F ad.block/\aA w F e x (λj u=>w.cell? (ad.add (i*e.size+j))=some u)
 |.unit,_,_=>True
 |.pair a b,x,g=>aA w F a x.1 g/\aA w F b x.2 (λj u=>g (a.size+j) u)
 |.fm es,_,g=>∃ r arr ck,g 0 (.map (some r))/\F r/\w.heap[r]? = some (.map arr ck)/\arr.toList.map (λe=>(e.key,e.val))=es.map (λx=>(Value.int .i64 x.1,Value.func (.func x.2) #[] #[]))
 |.ic es t,x,g=>(∃ ty u,cD es x.1=some ty/\g 0 (.iface ty u)/\u.cells.size=t.size/\(t.wide=true↔∃ cs,u = .agg cs)/\aA w F t x.2 (λj v=>u.cells[j]? = some v))\/(cD es x.1=none/\g 0 .nilIface)
 |.fc f,_,g=>∃ u,g 0 u/\u.oneCell'=true/\∀ k,f=some k->u = .func (.func k) #[] #[]
def Wf:(t:Ty)->t.den->Prop
 |.int k,n=>inR k n
 |.bool,_=>True
 |.str,s=>s.size<=maxLen
 |.sl e,l=>l.length<=maxLen/\∀ (i:Nat) (x:e.den),l[i]? = some x->Wf e x
 |.unit,_=>True
 |.pair a b,x=>Wf a x.1/\Wf b x.2
 |.fm _,_=>True
 |.ic _ _,_=>True
 |.fc _,_=>True
def aA.wf:{t:Ty} -> {x:t.den} -> {g:Nat->Value->Prop}->aA w F t x g->Wf t x
 |.int _,_,_,h=>h.2
 |.bool,_,_,_=>trivial
 |.str,_,_,h=>h.2
 |.sl _,_,_,h=>by
  obtain⟨A,c,_,h1,h2,h3⟩:=h;exact⟨uek h1 h2,λi x hi=>by
   obtain⟨ad,_,_,h4⟩:=h3 i x hi;exact aA.wf h4⟩
 |.unit,_,_,_=>trivial
 |.pair _ _,_,_,h=>⟨aA.wf h.1,aA.wf h.2⟩
 |.fm _,_,_,_=>trivial
 |.ic _ _,_,_,_=>trivial
 |.fc _,_,_,_=>trivial
def aA.mono (hF:∀ b,F b->F' b) (hw:∀ b,F b->w'.heap[b]? = w.heap[b]?) :
  {t:Ty} -> {x:t.den} -> {g g':Nat->Value->Prop}->(∀ j u,j<t.size->g j u->g' j u)->aA w F t x g->aA w' F' t x g'
 |.int _,_,_,_,hg,h=>⟨hg _ _ (by simp[Ty.size]) h.1,h.2⟩
 |.bool,_,_,_,hg,h=>hg _ _ (by simp[Ty.size]) h
 |.str,_,_,_,hg,h=>⟨hg _ _ (by simp[Ty.size]) h.1,h.2⟩
 |.sl e,_,_,_,hg,h=>by
  obtain⟨A,c,h0,h1,h2,h3⟩:=h;refine⟨A,c,hg _ _ (by simp[Ty.size]) h0,h1,h2,λi x hi=>?_⟩;obtain⟨ad,ha,hf,h4⟩:=h3 i x hi;refine⟨ad,ha,hF _ hf,aA.mono hF hw (λj u _ hc=>?_) h4⟩;rw[<- hc];refine ubb ?_;have:(ad.add (i*e.size+j)).block=ad.block:=by unfold Addr.add; split<;>rfl
  rw[this];exact hw _ hf
 |.unit,_,_,_,_,_=>trivial
 |.pair a b,_,_,_,hg,h=>
  ⟨aA.mono hF hw (λj u hj hu=>hg j u (by simp only[Ty.size]; omega) hu) h.1,
   aA.mono hF hw (λj u hj hu=>hg _ u (by simp only[Ty.size]; omega) hu) h.2⟩
 |.fm _,_,_,_,hg,h=>by
  obtain⟨r,arr,ck,h1,h2,h3,h4⟩:=h;exact⟨r,arr,ck,hg _ _ (by simp[Ty.size]) h1,hF r h2,(hw r h2).trans h3,h4⟩
 |.ic es t,_,_,_,hg,h=>by
  rcases h with ⟨ty,u,h1,h2,h3,h4,h5⟩|⟨h1,h2⟩
  ·exact .inl ⟨ty,u,h1,hg _ _ (by simp[Ty.size]) h2,h3,h4,aA.mono hF hw (λ_ _ _ h=>h) h5⟩
  ·exact .inr ⟨h1,hg _ _ (by simp[Ty.size]) h2⟩
 |.fc f,_,_,_,hg,h=>by
  obtain⟨u,h1,h2,h3⟩:=h;exact⟨u,hg _ _ (by simp[Ty.size]) h1,h2,h3⟩
def bu (w:World) (F:Nat->Prop) (t:Ty) (x:t.den) (v:Value):Prop:=
 v.cells.size=t.size/\(t.wide=true↔∃ cs,v = .agg cs)/\aA w F t x (λj u=>v.cells[j]? = some u)
def bu.mono (hF:∀ b,F b->F' b) (hw:∀ b,F b->w'.heap[b]? = w.heap[b]?) {t:Ty} {x:t.den}
  (h:bu w F t x v):bu w' F' t x v:=⟨h.1,h.2.1,h.2.2.mono hF hw (λ_ _ _ h=>h)⟩
@[reducible] def aa:List Ty->Type
 |[]=>Unit
 |t::r=>t.den×aa r
def dM (w:World) (F:Nat->Prop):(ts:List Ty)->aa ts->List Value->Prop
 |[],_,vs=>vs=[]
 |t::r,x,vs=>∃ v vs',vs=v::vs'/\bu w F t x.1 v/\dM w F r x.2 vs'
def dM.mono (hF:∀ b,F b->F' b) (hw:∀ b,F b->w'.heap[b]? = w.heap[b]?):{ts:List Ty} -> {x:aa ts} -> {vs:List Value}->dM w F ts x vs->dM w' F' ts x vs
 |[],_,_,h=>h
 |_::_,_,_,⟨v,vs',h1,h2,h3⟩=>⟨v,vs',h1,h2.mono hF hw,dM.mono hF hw h3⟩
def fi:(ts:List Ty)->aa ts->Prop
 |[],_=>True
 |t::r,x=>Wf t x.1/\fi r x.2
def dM.wf:{ts:List Ty} -> {x:aa ts} -> {vs:List Value}->dM w F ts x vs->fi ts x
 |[],_,_,_=>trivial
 |_::_,_,_,⟨_,_,_,h2,h3⟩=>⟨h2.2.2.wf,dM.wf h3⟩
def gT (w:World) (F:Nat->Prop):(ts:List Ty)->aa ts->Value->Prop
 |[t],x,v=>bu w F t x.1 v
 |ts,x,v=>∃ vs:Array Value,v = .tuple vs/\dM w F ts x vs.toList
def fJ (w:World) (F:Nat->Prop) (rs:List Ty) (y:aa rs) (e:Ending) (w':World):Prop:=
 ∃ v F',e = .returned v/\Below w.heap.size w w'/\(∀ b,F b->F' b)/\(∀ b,F' b->(F b\/w.heap.size<=b)/\b<w'.heap.size)/\gT w' F' rs y v
def jy (P:Program) (w:World) (F:Nat->Prop) (ps rs:List Ty) (g:aa ps->aa rs) (v:Value):Prop:=
 ∃ f caps,v = .func (.func f) #[] caps/\(∀ args w2,(callFunc f args).run P w2 = .ok (.enter f args) w2)/\∀ (w1:World) (F1:Nat->Prop),(∀ b,F b->F1 b/\w1.heap[b]? = w.heap[b]?)->(∀ b,F1 b->b<w1.heap.size) ->
  ∀ xs vs,dM w1 F1 ps xs vs->Calls P f (vs.toArray++caps) w1 (fJ w1 F1 rs (g xs))
def jy.mono (hF:∀ b,F b->F' b) (hw:∀ b,F b->w'.heap[b]? = w.heap[b]?) {ps rs:List Ty} {g:aa ps->aa rs}
  (h:jy P w F ps rs g v):jy P w' F' ps rs g v:=by
 obtain⟨f,caps,h1,h3,h2⟩:=h;exact⟨f,caps,h1,h3,λw1 F1 hf hb xs vs hr=>h2 w1 F1 (λb hb'=>⟨(hf b (hF b hb')).1,(hf b (hF b hb')).2.trans (hw b hb')⟩) hb xs vs hr⟩
def lq (P:Program) (w:World) (F:Nat->Prop) (ps rs:List Ty) (g:aa ps->aa rs) (D:aa ps->Prop) (v:Value):Prop:=
 ∃ f caps,v = .func (.func f) #[] caps/\(∀ args w2,(callFunc f args).run P w2 = .ok (.enter f args) w2)/\∀ (w1:World) (F1:Nat->Prop),(∀ b,F b->F1 b/\w1.heap[b]? = w.heap[b]?)->(∀ b,F1 b->b<w1.heap.size) ->
  ∀ xs vs,D xs->dM w1 F1 ps xs vs->Calls P f (vs.toArray++caps) w1 (fJ w1 F1 rs (g xs))
def lq.mono (hF:∀ b,F b->F' b) (hw:∀ b,F b->w'.heap[b]? = w.heap[b]?) {ps rs:List Ty} {g:aa ps->aa rs} {D:aa ps->Prop}
  (h:lq P w F ps rs g D v):lq P w' F' ps rs g D v:=by
 obtain⟨f,caps,h1,h3,h2⟩:=h;exact⟨f,caps,h1,h3,λw1 F1 hf hb xs vs hd hr=>h2 w1 F1 (λb hb'=>⟨(hf b (hF b hb')).1,(hf b (hF b hb')).2.trans (hw b hb')⟩) hb xs vs hd hr⟩
inductive AC where
 |dead
 |int (k:IntKind) (n:Int)
 |bool (b:Bool)
 |str (s:ByteArray)
 |nil
 |sl (t:Ty) (l:List t.den)
 |slx (t:Ty) (l:List t.den)
 |own (id:Nat)
 |ptr (id off:Nat)
 |sptr (cs:List AC)
 |fn (f:FuncId) (caps:List AC)
 |fv (ps rs:List Ty) (g:aa ps->aa rs)
 |pv (ps rs:List Ty) (g:aa ps->aa rs) (D:aa ps->Prop)
 |mp (es:List (Int×Nat))
 |fs (es:List (Int×Nat)) (n:Int)
 |ic (es:List (Int×Nat)) (t:Ty) (x:Int×t.den)
 |ifp (ty:TypeId) (id:Nat)
 |fb (f:FuncId) (id:Nat)
inductive AV where
 |dead
 |c (a:AC)
 |agg (cs:List AC)
 |tup (vs:List AV)
 |optr (id sz i off:Nat)
 |aptr (base:AC) (n:Nat) (i:Int)
 |maybe (g:Tmp) (want:Bool) (v:AV)
inductive Ob where
 |gone
 |box (ty:TypeId) (cs:List AC)
 |fbox (cs:List AC)
 |arr (ety:TypeId) (t:Ty) (l:List t.den)
 |frz (t:Ty) (l:List t.den)
 |hole (ety:TypeId) (t:Ty) (l:List t.den) (i:Nat)
def enc:(t:Ty)->t.den->List AC
 |.int k,n=>[.int k n]
 |.bool,b=>[.bool b]
 |.str,s=>[.str s]
 |.sl e,l=>[.sl e l]
 |.unit,_=>[]
 |.pair a b,x=>enc a x.1++enc b x.2
 |.fm es,_=>[.mp es]
 |.ic es t,x=>[.ic es t x]
 |.fc (some f),_=>[.fn f []]
 |.fc none,_=>[.dead]
def fl:{t:Ty}->(x:t.den)->(enc t x).length=t.size
 |.int _,_ | .bool,_ | .str,_ | .sl _,_ | .unit,_ | .fm _,_ | .ic _ _,_ | .fc (some _),_ | .fc none,_=>rfl
 |.pair a b,x=>by simp[enc,Ty.size,fl x.1,fl x.2]
def cA {t u:Ty} (h:t=u) (l:List t.den):List u.den:=h ▸ l
def oB (k:IntKind):List AC->Option (Int×List AC)
 |.int k' n::r=>if k=k' then some (n,r) else none
 |_=>none
def oA:List AC->Option (Bool×List AC)
 |.bool b::r=>some (b,r)
 |_=>none
def oD:List AC->Option (ByteArray×List AC)
 |.str s::r=>some (s,r)
 |_=>none
def oC (e:Ty):List AC->Option (List e.den×List AC)
 |.sl t l::r=>if h:t=e then some (cA h l,r) else none
 |.slx t l::r=>if h:t=e then some (cA h l,r) else none
 |.nil::r=>some ([],r)
 |_=>none
def qO (es:List (Int×Nat)):List AC->Option (Unit×List AC)
 |.mp es'::r=>if es'=es then some ((),r) else none
 |_=>none
def qc6 {t u:Ty} (h:t=u) (x:Int×t.den):Int×u.den:=h ▸ x
def qN (es:List (Int×Nat)) (t:Ty):List AC->Option ((Int×t.den)×List AC)
 |.ic es' t' x::r=>if h:t'=t then if es'=es then some (qc6 h x,r) else none else none
 |_=>none
def qM (f:Option Nat):List AC->Option (Unit×List AC)
 |.fn f' []::r=>if f=some f' then some ((),r) else none
 |.dead::r=>if f=none then some ((),r) else none
 |_=>none
def dec:(t:Ty)->List AC->Option (t.den×List AC)
 |.int k,cs=>oB k cs
 |.bool,cs=>oA cs
 |.str,cs=>oD cs
 |.sl e,cs=>oC e cs
 |.unit,cs=>some ((),cs)
 |.pair a b,cs=>match dec a cs with
  |some (x,r')=>match dec b r' with
   |some (y,r'')=>some ((x,y),r'')
   |none=>none
  |none=>none
 |.fm es,cs=>qO es cs
 |.ic es t,cs=>qN es t cs
 |.fc f,cs=>qM f cs
inductive PT where
 |d (t:Ty)
 |ptr (t:Ty)
 |fn (ps rs:List Ty)
 |pf (ps rs:List Ty)
 |pfn (ps rs:List Ty)
 |pk (f:Nat)
 deriving DecidableEq
@[reducible] def PT.den:PT->Type
 |.d t=>t.den
 |.ptr t=>t.den
 |.fn ps rs=>aa ps->aa rs
 |.pf ps rs=>(aa ps->aa rs)×(aa ps->Prop)
 |.pfn ps rs=>aa ps->aa rs
 |.pk _=>Unit
@[reducible] def ag:List PT->Type
 |[]=>Unit
 |t::r=>t.den×ag r
def Fg (P:Program) (w:World) (F:Nat->Prop):(p:PT)->p.den->Value->Prop
 |.d t,x,v=>bu w F t x v
 |.ptr t,x,v=>∃ ad,v = .pointer (some ad)/\F ad.block/\aA w F t x (λj u=>w.cell? (ad.add j)=some u)
 |.fn ps rs,g,v=>jy P w F ps rs g v
 |.pf ps rs,g,v=>lq P w F ps rs g.1 g.2 v
 |.pfn ps rs,g,v=>∃ ad u,v = .pointer (some ad)/\F ad.block/\w.cell? (ad.add 0)=some u/\jy P w F ps rs g u
 |.pk f,_,v=>∃ ad,v = .pointer (some ad)/\F ad.block/\w.cell? (ad.add 0)=some (.func (.func f) #[] #[])
def cJ (P:Program) (w:World) (F:Nat->Prop):(ts:List PT)->ag ts->List Value->Prop
 |[],_,vs=>vs=[]
 |t::r,x,vs=>∃ v vs',vs=v::vs'/\Fg P w F t x.1 v/\cJ P w F r x.2 vs'
def av:List Prop->Prop
 |[]=>True
 |[p]=>p
 |p::r=>p/\av r
def je {r:List Prop}:av (p::r)↔p/\av r:=by
 cases r with
 |nil=>exact⟨λh=>⟨h,uT⟩,λh=>h.1⟩
 |cons q r=>exact Iff.rfl
def jd {a b:List Prop}:av (a++b)↔av a/\av b:=by
 induction a with
 |nil=>exact⟨λh=>⟨uT,h⟩,λh=>h.2⟩
 |cons p a ih=>rw[uc1,je,je,ih,and_assoc]
structure Ct where
 ps:List PT
 rs:List Ty
 f:ag ps->aa rs
 ok:ag ps->List Prop
def af (P:Program) (fid:FuncId) (ct:Ct):Prop:=
 (∀ args w,(callFunc fid args).run P w = .ok (.enter fid args) w) /\
 ∀ (w:World) (F:Nat->Prop) xs vs,(∀ b,F b->b<w.heap.size)->cJ P w F ct.ps xs vs->av (ct.ok xs)->Calls P fid vs.toArray w (fJ w F ct.rs (ct.f xs))
structure PV where
 ty:TypeId
 k:IntKind
 n:Int
def PV.val (p:PV):Value:=if p.ty<1000000 then .iface p.ty (.int p.k p.n) else .iface (p.ty-1000000) (.agg #[.int p.k p.n])
def WG {p:PV} (h:p.ty<1000000):p.val = .iface p.ty (.int p.k p.n):=if_pos h
def WF {p:PV} {T:TypeId} (h:p.ty=T+1000000):p.val = .iface T (.agg #[.int p.k p.n]):=by
 unfold PV.val;have hn:¬ p.ty<1000000:=by rw[h]; exact Nat.not_lt.2 (Nat.le_add_left _ _)
 have he:p.ty-1000000=T:=by rw[h]; exact uby T 1000000
 rw[if_neg hn,he]
structure Pc where
 ps:List PT
 rs:List Ty
 f:ag ps->aa rs
 bad:ag ps->Bool
 pv:ag ps->PV
 ok:ag ps->List Prop
def jz (P:Program) (fid:FuncId) (ct:Pc):Prop:=
 (∀ args w,(callFunc fid args).run P w = .ok (.enter fid args) w) /\
 ∀ (w:World) (F:Nat->Prop) xs vs,(∀ b,F b->b<w.heap.size)->cJ P w F ct.ps xs vs->av (ct.ok xs)->Calls P fid vs.toArray w λe w'=>
  (ct.bad xs=false/\fJ w F ct.rs (ct.f xs) e w')\/(ct.bad xs=true/\e = .panicked [{ v:=(ct.pv xs).val,recovered:=false }]/\Below w.heap.size w w')
structure St where
 n:Nat
 sl:Nat->AV
 mem:Nat->Option Ob
 gs:Nat->AV
def ap (mem:Nat->Option Ob) (γ:Nat->Value) (id:Nat) (v:Value):Prop:=
 match mem id with
 |none=>False
 |some .gone=>True
 |some _=>v=γ id
def ie:Option (Int×Nat)->Value
 |some x=>.func (.func x.2) #[] #[]
 |none=>.nilFunc
section
variable (P:Program) (w:World) (F:Nat->Prop) (R:Nat->Value->Prop)
mutual
def bc:AC->Value->Prop
 |.dead,_=>True
 |.int k n,v=>v = .int k n/\inR k n
 |.bool b,v=>v = .bool b
 |.str s,v=>v = .string s/\s.size<=maxLen
 |.nil,v=>v = .slice none 0 0
 |.sl t l,v=>aA w F (.sl t) l (λ_ u=>u=v)
 |.slx t l,v=>∃ A,v = .slice A l.length l.length/\aA w F (.sl t) l (λ_ u=>u=v)
 |.own id,v=>R id v
 |.ptr id off,v=>∃ b,R id (.pointer (some ⟨b,0,none⟩))/\v = .pointer (some ⟨b,off,none⟩)
 |.sptr cs,v=>∃ ad,v = .pointer (some ad)/\F ad.block/\aN cs (λj u=>w.cell? (ad.add j)=some u)
 |.fn f caps,v=>∃ vs:Array Value,v = .func (.func f) #[] vs/\vs.size=caps.length/\aN caps (λj u=>vs[j]? = some u)
 |.fv ps rs g,v=>jy P w F ps rs g v
 |.pv ps rs g D,v=>lq P w F ps rs g D v
 |.mp es,v=>∃ r arr ck,v = .map (some r)/\F r/\w.heap[r]? = some (.map arr ck)/\arr.toList.map (λe=>(e.key,e.val))=es.map (λx=>(Value.int .i64 x.1,Value.func (.func x.2) #[] #[]))
 |.fs es n,v=>v=ie (es.find? (λx=>x.1==n))
 |.ic es t x,v=>aA w F (.ic es t) x (λ_ u=>u=v)
 |.ifp ty id,v=>∃ b,R id (.pointer (some ⟨b,0,none⟩))/\v = .iface ty (.pointer (some ⟨b,0,none⟩))
 |.fb f id,v=>∃ b,R id (.pointer (some ⟨b,0,none⟩))/\v = .func (.func f) #[.pointer (some ⟨b,0,none⟩)] #[]
def aN:List AC->(Nat->Value->Prop)->Prop
 |[],_=>True
 |c::r,g=>(∃ u,g 0 u/\u.oneCell'=true/\bc c u)/\aN r (λj u=>g (j+1) u)
end
mutual
def aE:AV->Value->Prop
 |.dead,_=>True
 |.c a,v=>v.oneCell'=true/\bc P w F R a v
 |.agg cs,v=>∃ arr:Array Value,v = .agg arr/\arr.size=cs.length/\aN P w F R cs (λj u=>arr[j]? = some u)
 |.tup vs,v=>∃ arr:Array Value,v = .tuple arr/\arr.size=vs.length/\ln vs (λj u=>arr[j]? = some u)
 |.optr id sz i off,v=>∃ A n c,R id (.slice (some A) n c)/\v = .pointer (some (A.add (i*sz+off)))
 |.aptr base n i,v=>∃ ad,bc P w F R base (.pointer (some ad))/\0<=i/\i<n/\v = .pointer (some (ad.add i.toNat))
 |.maybe _ _ _,_=>False
def ln:List AV->(Nat->Value->Prop)->Prop
 |[],_=>True
 |c::r,g=>(∃ u,g 0 u/\aE c u)/\ln r (λj u=>g (j+1) u)
end
end
section
variable {P:Program} {w w':World} {F F':Nat->Prop} {R R':Nat->Value->Prop}
mutual
def bc.mono (hF:∀ b,F b->F' b) (hw:∀ b,F b->w'.heap[b]? = w.heap[b]?) (hR:∀ id v,R id v->R' id v):(c:AC) -> {v:Value}->bc P w F R c v->bc P w' F' R' c v
 |.dead,_,_=>trivial
 |.int _ _,_,h=>h
 |.bool _,_,h=>h
 |.str _,_,h=>h
 |.nil,_,h=>h
 |.sl _ _,_,h=>by
  simp only[bc] at h |-;exact aA.mono (t:=.sl _) hF hw (λ_ _ _ h=>h) h
 |.slx _ _,_,⟨A,h1,h2⟩=>⟨A,h1,aA.mono (t:=.sl _) hF hw (λ_ _ _ h=>h) h2⟩
 |.own id,_,h=>hR id _ h
 |.ptr id off,_,⟨u,h1,h2⟩=>⟨u,hR _ _ h1,h2⟩
 |.sptr cs,_,⟨ad,h1,h2,h3⟩=>⟨ad,h1,hF _ h2,aN.mono hF hw hR cs (λj u hu=>by
   rw[<- hu];refine ubb ?_;have:(ad.add j).block=ad.block:=by unfold Addr.add; split<;>rfl
   rw[this];exact hw _ h2) h3⟩
 |.fn f caps,_,⟨vs,h1,h2,h3⟩=>⟨vs,h1,h2,aN.mono hF hw hR caps (λ_ _ h=>h) h3⟩
 |.fv _ _ _,_,h=>by
  simp only[bc] at h |-;exact jy.mono hF hw h
 |.pv _ _ _ _,_,h=>by
  simp only[bc] at h |-;exact lq.mono hF hw h
 |.mp _,_,h=>by
  obtain⟨r,arr,ck,h1,h2,h3,h4⟩:=h;exact⟨r,arr,ck,h1,hF r h2,(hw r h2).trans h3,h4⟩
 |.fs _ _,_,h=>h
 |.ic _ _ _,_,h=>by
  simp only[bc] at h |-;exact aA.mono (t:=.ic _ _) hF hw (λ_ _ _ h=>h) h
 |.ifp _ _,_,⟨b,h1,h2⟩=>⟨b,hR _ _ h1,h2⟩
 |.fb _ _,_,⟨b,h1,h2⟩=>⟨b,hR _ _ h1,h2⟩
def aN.mono (hF:∀ b,F b->F' b) (hw:∀ b,F b->w'.heap[b]? = w.heap[b]?) (hR:∀ id v,R id v->R' id v) :
  (cs:List AC) -> {g g':Nat->Value->Prop}->(∀ j u,g j u->g' j u)->aN P w F R cs g->aN P w' F' R' cs g'
 |[],_,_,_,_=>trivial
 |c::r,_,_,hg,⟨⟨u,h1,h2,h3⟩,h4⟩=>⟨⟨u,hg _ _ h1,h2,bc.mono hF hw hR c h3⟩,aN.mono hF hw hR r (λ_ _ h=>hg _ _ h) h4⟩
end
mutual
def aE.mono (hF:∀ b,F b->F' b) (hw:∀ b,F b->w'.heap[b]? = w.heap[b]?) (hR:∀ id v,R id v->R' id v):(c:AV) -> {v:Value}->aE P w F R c v->aE P w' F' R' c v
 |.dead,_,_=>trivial
 |.c a,_,h=>⟨h.1,bc.mono hF hw hR a h.2⟩
 |.agg cs,_,⟨arr,h1,h2,h3⟩=>⟨arr,h1,h2,aN.mono hF hw hR cs (λ_ _ h=>h) h3⟩
 |.tup vs,_,⟨arr,h1,h2,h3⟩=>⟨arr,h1,h2,ln.mono hF hw hR vs (λ_ _ h=>h) h3⟩
 |.optr _ _ _ _,_,⟨A,n,c,h1,h2⟩=>⟨A,n,c,hR _ _ h1,h2⟩
 |.aptr base _ _,_,⟨ad,h1,h2⟩=>⟨ad,bc.mono hF hw hR base h1,h2⟩
 |.maybe _ _ _,_,h=>h
def ln.mono (hF:∀ b,F b->F' b) (hw:∀ b,F b->w'.heap[b]? = w.heap[b]?) (hR:∀ id v,R id v->R' id v) :
  (cs:List AV) -> {g g':Nat->Value->Prop}->(∀ j u,g j u->g' j u)->ln P w F R cs g->ln P w' F' R' cs g'
 |[],_,_,_,_=>trivial
 |c::r,_,_,hg,⟨⟨u,h1,h3⟩,h4⟩=>⟨⟨u,hg _ _ h1,aE.mono hF hw hR c h3⟩,ln.mono hF hw hR r (λ_ _ h=>hg _ _ h) h4⟩
end
end
def aN.at_:{cs:List AC} -> {g:Nat->Value->Prop}->aN P w F R cs g ->
  ∀ {j:Nat} {c:AC},cs[j]? = some c->∃ u,g j u/\u.oneCell'=true/\bc P w F R c u
 |[],_,_,_,_,h=>by simp at h
 |_::_,_,h,0,_,hc=>by simp at hc; subst hc; exact h.1
 |_::_,_,h,j+1,_,hc=>aN.at_ h.2 (by simpa using hc)
def ki:(cs:List AC) -> {g:Nat->Value->Prop} ->
  (∀ (j:Nat) (c:AC),cs[j]? = some c->∃ u,g j u/\u.oneCell'=true/\bc P w F R c u)->aN P w F R cs g
 |[],_,_=>trivial
 |c::r,_,h=>⟨h 0 c rfl,ki r (λj c' hc=>h (j+1) c' (by simpa using hc))⟩
def aN.append (a b:List AC) (ha:aN P w F R a g) (hb:aN P w F R b (λj u=>g (a.length+j) u)):aN P w F R (a++b) g:=by
 refine ki _ λj c hc=>?_;rcases uel j a.length with h|h
 ·rw[uaj h] at hc;exact ha.at_ hc
 ·rw[uae h] at hc;obtain⟨u,h1,h2⟩:=hb.at_ hc;rw[show a.length+(j-a.length)=j from by omega] at h1;exact⟨u,h1,h2⟩
def aA.enc:(t:Ty)->(x:t.den) -> {g:Nat->Value->Prop}->aA w F t x g->aN P w F R (Ab.enc t x) g
 |.int k,n,g,h=>⟨⟨_,h.1,rfl,rfl,h.2⟩,uT⟩
 |.bool,b,g,h=>⟨⟨_,h,rfl,rfl⟩,uT⟩
 |.str,b,g,h=>⟨⟨_,h.1,rfl,rfl,h.2⟩,uT⟩
 |.sl e,l,g,h=>by
  obtain⟨A,c,h0,h1,h2,h3⟩:=h;exact⟨⟨_,h0,rfl,⟨A,c,rfl,h1,h2,h3⟩⟩,uT⟩
 |.unit,_,_,_=>trivial
 |.pair a b,x,g,h=>aN.append _ _ (aA.enc a x.1 h.1) (by rw[fl]; exact aA.enc b x.2 h.2)
 |.fm es,_,g,h=>by
  obtain⟨r,arr,ck,h1,h2,h3,h4⟩:=h;exact⟨⟨_,h1,rfl,⟨r,arr,ck,rfl,h2,h3,h4⟩⟩,uT⟩
 |.ic es t,x,g,h=>by
  rcases h with ⟨ty,u,h1,h2,h3,h4,h5⟩|⟨h1,h2⟩
  ·exact⟨⟨_,h2,rfl,.inl ⟨ty,u,h1,rfl,h3,h4,h5⟩⟩,uT⟩
  ·exact⟨⟨_,h2,rfl,.inr ⟨h1,rfl⟩⟩,uT⟩
 |.fc (some k),_,g,h=>by
  obtain⟨u,h1,h2,h3⟩:=h;exact⟨⟨u,h1,h2,#[],h3 k rfl,rfl,uT⟩,uT⟩
 |.fc none,_,g,h=>by
  obtain⟨u,h1,h2,_⟩:=h;exact⟨⟨u,h1,h2,uT⟩,uT⟩
def aN.split (a b:List AC) (h:aN P w F R (a++b) g):aN P w F R a g/\aN P w F R b (λj u=>g (a.length+j) u):=
 ⟨ki _ λj c hc=>h.at_ (by rw[uaj (uak.1 hc).1]; exact hc),
  ki _ λj c hc=>h.at_ (j:=a.length+j) (by rw[uae (Nat.le_add_right _ _),uaw]; exact hc)⟩
def LH:(t:Ty)->(x:t.den) -> {g:Nat->Value->Prop}->aN P w F R (Ab.enc t x) g->aA w F t x g
 |.int k,n,g,⟨⟨u,h1,_,h3,h4⟩,_⟩=>⟨h3 ▸ h1,h4⟩
 |.bool,b,g,⟨⟨u,h1,_,h3⟩,_⟩=>by
  obtain rfl:u = .bool b:=h3;exact h1
 |.str,b,g,⟨⟨u,h1,_,h3,h4⟩,_⟩=>⟨h3 ▸ h1,h4⟩
 |.sl e,l,g,⟨⟨u,h1,_,A,c,h3,h4⟩,_⟩=>⟨A,c,h3 ▸ h1,h4⟩
 |.unit,_,_,_=>trivial
 |.pair a b,x,g,h=>by
  obtain⟨h1,h2⟩:=aN.split _ _ h;rw[fl] at h2;exact⟨LH a x.1 h1,LH b x.2 h2⟩
 |.fm es,_,g,⟨⟨u,h1,_,r,arr,ck,h3,h4⟩,_⟩=>⟨r,arr,ck,h3 ▸ h1,h4⟩
 |.ic es t,x,g,⟨⟨u,h1,_,h3⟩,_⟩=>by
  rcases h3 with ⟨ty,v,a1,a2,a3⟩|⟨a1,a2⟩
  ·exact .inl ⟨ty,v,a1,a2 ▸ h1,a3⟩
  ·exact .inr ⟨a1,a2 ▸ h1⟩
 |.fc (some k),_,g,⟨⟨u,h1,h2,vs,h3,h4,_⟩,_⟩=>by
  have h6:=Array.size_eq_zero_iff.mp h4;subst h6;exact⟨u,h1,h2,λf hf=>by cases hf; exact h3⟩
 |.fc none,_,g,⟨⟨u,h1,h2,_⟩,_⟩=>⟨u,h1,h2,λf hf=>nomatch hf⟩
section
variable {P:Program} {w:World} {F:Nat->Prop} {R:Nat->Value->Prop}
def qxd {cs:List AC} {r:List AC} (h:oB k cs=some (x,r)) (hr:aN P w F R cs g) :
  (g 0 (.int k x)/\inR k x)/\aN P w F R r (λj u=>g (1+j) u):=by
 unfold oB at h;split at h
 ·split at h
  ·rename_i hk;subst hk;cases h;obtain⟨⟨u,h1,_,rfl,h3⟩,h4⟩:=hr;exact⟨⟨h1,h3⟩,by simpa[uem] using h4⟩
  ·cases h
 ·cases h
def qxc {cs:List AC} {x:Bool} {r:List AC} (h:oA cs=some (x,r)) (hr:aN P w F R cs g) :
  g 0 (.bool x)/\aN P w F R r (λj u=>g (1+j) u):=by
 unfold oA at h;split at h
 ·cases h;obtain⟨⟨u,h1,_,rfl⟩,h4⟩:=hr;exact⟨h1,by simpa[uem] using h4⟩
 ·cases h
def qxf {cs:List AC} {x:ByteArray} {r:List AC} (h:oD cs=some (x,r)) (hr:aN P w F R cs g) :
  (g 0 (.string x)/\x.size<=maxLen)/\aN P w F R r (λj u=>g (1+j) u):=by
 unfold oD at h;split at h
 ·cases h;obtain⟨⟨u,h1,_,rfl,h3⟩,h4⟩:=hr;exact⟨⟨h1,h3⟩,by simpa[uem] using h4⟩
 ·cases h
def qxe {e:Ty} {cs:List AC} {x:List e.den} {r:List AC} (h:oC e cs=some (x,r)) (hr:aN P w F R cs g) :
  aA w F (.sl e) x g/\aN P w F R r (λj u=>g (1+j) u):=by
 unfold oC at h;split at h
 ·split at h
  ·rename_i t l r' ht;subst ht;cases h;obtain⟨⟨u,h1,_,h3⟩,h4⟩:=hr;refine⟨?_,by simpa[uem] using h4⟩;obtain⟨A,c,e1,e2⟩:=h3;subst e1;exact⟨A,c,h1,e2⟩
  ·cases h
 ·split at h
  ·rename_i t l r' ht;subst ht;cases h;obtain⟨⟨u,h1,_,h3⟩,h4⟩:=hr;refine⟨?_,by simpa[uem] using h4⟩;obtain⟨_,_,A,c,e1,e2⟩:=h3;subst e1;exact⟨A,c,h1,e2⟩
  ·cases h
 ·cases h;obtain⟨⟨u,h1,_,h3⟩,h4⟩:=hr;subst h3;exact⟨⟨none,0,h1,ue4 _,by simp,λi x hi=>by simp at hi⟩,by simpa[uem] using h4⟩
 ·cases h
def aA.dec:(t:Ty) -> {cs:List AC} -> {x:t.den} -> {r:List AC} -> {g:Nat->Value->Prop}->Ab.dec t cs=some (x,r)->aN P w F R cs g ->
  aA w F t x g/\aN P w F R r (λj u=>g (t.size+j) u)
 |.int _,_,_,_,_,h,hr=>qxd h hr
 |.bool,_,_,_,_,h,hr=>qxc h hr
 |.str,_,_,_,_,h,hr=>qxf h hr
 |.sl _,_,_,_,_,h,hr=>qxe h hr
 |.unit,_,_,_,_,h,hr=>by
  obtain⟨_,rfl⟩:=h;exact⟨uT,by simpa[Ty.size] using hr⟩
 |.pair a b,cs,x,r,g,h,hr=>by
  simp only[Ab.dec] at h;split at h
  ·rename_i x1 r1 h1;split at h
   ·rename_i x2 r2 h2;cases h;obtain⟨e1,e2⟩:=aA.dec a h1 hr;obtain⟨e3,e4⟩:=aA.dec b h2 e2;exact⟨⟨e1,e3⟩,by simpa[Ty.size,ued] using e4⟩
   ·cases h
  ·cases h
 |.fm es,cs,x,r,g,h,hr=>by
  simp only[Ab.dec] at h;unfold qO at h;split at h<;>try trivial
  split at h<;>try trivial
  rename_i he;subst he;obtain⟨_,rfl⟩:=h;obtain⟨⟨u,h1,_,h3⟩,h4⟩:=hr;obtain⟨r',arr,ck,rfl,e2,e3,e4⟩:=h3;exact⟨⟨r',arr,ck,h1,e2,e3,e4⟩,by simpa[Ty.size,uem] using h4⟩
 |.ic es t,cs,x,r,g,h,hr=>by
  simp only[Ab.dec] at h;unfold qN at h;split at h<;>try trivial
  split at h<;>try trivial
  rename_i ht;subst ht;split at h<;>try trivial
  rename_i he;subst he;cases h;obtain⟨⟨u,h1,_,h3⟩,h4⟩:=hr;refine⟨?_,by simpa[Ty.size,uem] using h4⟩;rcases h3 with ⟨ty,v,e1,e2,e3,e4,e5⟩|⟨e1,e2⟩
  ·exact .inl ⟨ty,v,e1,by rw[e2]; exact h1,e3,e4,e5⟩
  ·exact .inr ⟨e1,by rw[e2]; exact h1⟩
 |.fc f,cs,x,r,g,h,hr=>by
  simp only[Ab.dec] at h;unfold qM at h;split at h<;>try trivial
  ·split at h<;>try trivial
   rename_i hf;subst hf;obtain⟨_,rfl⟩:=h;obtain⟨⟨u,h1,h2,h3⟩,h4⟩:=hr;obtain⟨vs,rfl,h5,_⟩:=h3;have h6:=Array.size_eq_zero_iff.mp h5;subst h6;exact⟨⟨_,h1,h2,λk hk=>by cases hk; rfl⟩,by simpa[Ty.size,uem] using h4⟩
  ·split at h<;>try trivial
   rename_i hf;subst hf;obtain⟨_,rfl⟩:=h;obtain⟨⟨u,h1,h2,_⟩,h4⟩:=hr;exact⟨⟨u,h1,h2,λk hk=>nomatch hk⟩,by simpa[Ty.size,uem] using h4⟩
end
def cj:Nat:=1099511627776
def dL:Nat:=1208925819614629174706176
def ed (outer off inner:Nat):Nat:=outer+cj*(1+off+1024*inner)
def rY (e:Nat):Nat:=e%cj
def cB (e:Nat):Nat:=(e/cj-1)%1024
def jV (e:Nat):Nat:=(e/cj-1)/1024
def IU (w:World) (sz off:Nat) (v:Value) (i:Nat) (u:Value):Prop:=∃ A n c,v = .slice (some A) n c/\w.cell? (A.add (i*sz+off))=some u
def innB (w:World) (e sz n:Nat) (K:Nat->Prop) (v:Value) (b:Nat):Prop:=∃ i u,i<n/\¬ K i/\IU w sz (cB e) v i u/\u.ownBlock=some b
def bK (w:World):Ob->Value->Nat->Prop
 |.box _ _,v,b=>∃ a,v = .pointer (some a)/\a.block=b
 |.arr e t l,v,b=>v.ownBlock=some b\/(cj<=e/\innB w e t.size l.length (λ_=>False) v b)\/v = .map (some b)
 |.hole e t l i,v,b=>v.ownBlock=some b\/innB w e t.size l.length (· = i) v b
 |_,_,_=>False
section
variable (P:Program) (B:Nat) (w:World) (F:Nat->Prop) (R:Nat->Value->Prop)
def bU (t:Ty) (l:List t.den) (xs:List Value):Prop:=
 ∀ i x,l[i]? = some x->aA w F t x (λj u=>xs[i*t.size+j]? = some u)
structure RwOK (v:Value) (e:Nat) (t:Ty) (l:List t.den) (K:Nat->Prop) (xs:List Value):Prop where
 own:w.ownsRow B (rY e) t.size v l.length xs
 nf:∀ g,v.ownBlock=some g->¬ F g
 one:∀ u∈xs,u.oneCell'=true
 cells:∀ (i:Nat) x k c,l[i]? = some x->(enc t x)[k]? = some c->k≠cB e->∃ u,xs[i*t.size+k]? = some u/\bc P w F (λ_ _=>False) c u
 inn:∀ (i:Nat) x,l[i]? = some x->¬ K i->∃ t' li u ys,(enc t x)[cB e]? = some (.sl t' li)/\xs[i*t.size+cB e]? = some u/\w.ownsRow B (jV e) t'.size u li.length ys/\bU w F t' li ys/\(∀ y∈ys,y.oneCell'=true) /\
  ∀ b,u.ownBlock=some b->v.ownBlock≠some b/\¬ F b
 disj:∀ i j ui uj b,i<l.length->j<l.length->¬ K i->¬ K j->i≠j->xs[i*t.size+cB e]? = some ui->xs[j*t.size+cB e]? = some uj->ui.ownBlock=some b->uj.ownBlock≠some b
def wE (t:Ty) (l:List t.den) (v:Value):Prop:=
 ∃ b es ck,v = .map (some b)/\w.heap[b]? = some (.map es ck)/\¬ F b/\B<=b/\t.flat=true/\es.size=l.length/\l.length<=maxLen /\
  ∀ (i:Nat) x,l[i]? = some x->∃ e,es[i]? = some e/\e.key.oneCell'=true/\e.val.oneCell'=true/\aA w (λ_=>False) t x (λj u=>[e.key,e.val][j]? = some u)
def gg (v:Value) (ety:Nat) (t:Ty) (l:List t.den):Prop:=
 ∃ xs,w.ownsRow B ety t.size v l.length xs/\(∀ g,v.ownBlock=some g->¬ F g)/\bU w F t l xs/\(∀ u∈xs,u.oneCell'=true)
def fI (v:Value):Ob->Prop
 |.gone=>True
 |.box ty cs=>∃ b arr,v = .pointer (some ⟨b,0,none⟩)/\w.heap[b]? = some (.cells arr ty (0,0))/\¬ F b/\B<=b/\arr.size=cs.length/\aN P w F R cs (λj u=>arr[j]? = some u)
 |.fbox cs=>∃ b,v = .pointer (some ⟨b,0,none⟩)/\F b/\aN P w F R cs (λj u=>w.cell? ⟨b,j,none⟩=some u)
 |.arr ety t l=>(ety<cj/\gg B w F v ety t l)\/(cj<=ety/\ety<dL/\∃ xs,RwOK P B w F v ety t l (λ_=>False) xs)\/(dL<=ety/\wE B w F t l v)
 |.frz t l=>aA w F (.sl t) l (λ_ u=>u=v)
 |.hole ety t l i=>cj<=ety/\ety<dL/\∃ xs,RwOK P B w F v ety t l (· = i) xs
end
structure MemOK (P:Program) (B:Nat) (w:World) (F:Nat->Prop) (γ:Nat->Value) (m:Nat->Option Ob):Prop where
 ob:∀ id o,m id=some o->fI P B w F (ap m γ) (γ id) o
 apart:∀ i j oi oj b,i≠j->m i=some oi->m j=some oj->bK w oi (γ i) b->¬ bK w oj (γ j) b
structure Step (B:Nat) (w:World) (F:Nat->Prop) (γ:Nat->Value) (m:Nat->Option Ob) (w':World) (F':Nat->Prop) (γ':Nat->Value) (m':Nat->Option Ob):Prop where
 hF:∀ b,F b->F' b
 hw:∀ b,F b->w'.heap[b]? = w.heap[b]?
 hR:∀ id v,ap m γ id v->ap m' γ' id v
 old:∀ b,b<B->w'.heap[b]? = w.heap[b]?
 os:w'.os=w.os
 tape:w'.tape=w.tape
 output:w'.output=w.output
 size:w.heap.size<=w'.heap.size
 bd:∀ b,F' b->b<w'.heap.size
 new:∀ b,F' b->F b\/B<=b
section
variable {P:Program} {B:Nat} {w w' w'':World} {F F' F'':Nat->Prop} {γ γ' γ'':Nat->Value} {m m' m'':Nat->Option Ob}
def Step.refl (hb:∀ b,F b->b<w.heap.size):Step B w F γ m w F γ m:=
 ⟨λ_ h=>h,λ_ _=>rfl,λ_ _ h=>h,λ_ _=>rfl,rfl,rfl,rfl,ue4 _,hb,λ_ h=>.inl h⟩
def Step.trans (h:Step B w F γ m w' F' γ' m') (k:Step B w' F' γ' m' w'' F'' γ'' m''):Step B w F γ m w'' F'' γ'' m'':=
 ⟨λb hb=>k.hF b (h.hF b hb),λb hb=>(k.hw b (h.hF b hb)).trans (h.hw b hb),λi v hv=>k.hR i v (h.hR i v hv),λb hb=>(k.old b hb).trans (h.old b hb),
  k.os.trans h.os,k.tape.trans h.tape,k.output.trans h.output,uek h.size k.size,k.bd,λb hb=>(k.new b hb).elim (λh'=>h.new b h') .inr⟩
def Step.repA {a:AV} (h:Step B w F γ m w' F' γ' m') (hr:aE P w F (ap m γ) a v):aE P w' F' (ap m' γ') a v:=aE.mono h.hF h.hw h.hR a hr
def Step.repCL {cs:List AC} (h:Step B w F γ m w' F' γ' m') (hr:aN P w F (ap m γ) cs g):aN P w' F' (ap m' γ') cs g:=
 aN.mono h.hF h.hw h.hR cs (λ_ _ h=>h) hr
def bU.mono {t:Ty} {l:List t.den} (hF:∀ b,F b->F' b) (hw:∀ b,F b->w'.heap[b]? = w.heap[b]?) (h:bU w F t l xs):bU w' F' t l xs:=
 λi x hi=>(h i x hi).mono hF hw (λ_ _ _ h=>h)
def rk {sz:Nat} (h:w.ownsRow B e sz v n xs) (hu:xs[i*sz+off]? = some u):IU w sz off v i u:=by
 have hc:=λ{g}=>h.cells (g:=g);rcases h.2 with ⟨_,rfl⟩|⟨g,cap,cur,rfl,_⟩
 ·have:=h.1;simp only[Nat.zero_mul,uay] at this;subst this;simp at hu
 ·exact⟨_,_,_,rfl,hc rfl _ u hu⟩
def R6 {sz:Nat} {u':Value} (h:w.ownsRow B e sz v n xs) (hi:xs[i*sz+off]? = some u') (hu:IU w sz off v i u):u=u':=by
 obtain⟨A,k,c,rfl,h1⟩:=hu;obtain⟨A',k',c',h2,h3⟩:=rk h hi;cases h2;rw[h1] at h3;exact(udz h3)
def R5 {e:Nat} {t:Ty} {l:List t.den} (h1:RwOK P B w F v e t l K xs) (he:innB w e t.size l.length K v b):b<w.heap.size/\¬ F b/\B<=b:=by
 obtain⟨i,u,hi,hk,hu,hub⟩:=he;obtain⟨t',li,u',ys,_,a3,a4,_,_,a5⟩:=h1.inn i _ (uap hi) hk;obtain rfl:=R6 h1.own a3 hu;exact⟨(a4.lt b hub).2,(a5 b hub).2,(a4.lt b hub).1⟩
def gZ {id:Nat} {o:Ob} (h:fI P B w F R (γ id) o) (he:bK w o (γ id) b):b<w.heap.size/\¬ F b/\B<=b:=by
 cases o with
 |gone=>exact he.elim
 |fbox cs=>exact he.elim
 |frz t l=>exact he.elim
 |box ty cs=>
  obtain⟨b',arr,h1,h2,h3,h4,_⟩:=h;obtain⟨a,h5,rfl⟩:=he;rw[h1] at h5;cases h5;exact⟨(uaf.1 h2).1,h3,h4⟩
 |arr ety t l=>
  rcases h with ⟨hlt,xs,h1,h2,_⟩|⟨hge,_,xs,h1⟩|⟨hge,b',es,ck,h1,h2,h3,h4,_⟩
  ·rcases he with he|⟨hge,_⟩|he
   ·exact⟨(h1.lt b he).2,h2 b he,(h1.lt b he).1⟩
   ·exact absurd hlt (Nat.not_lt.2 hge)
   ·rcases h1.2 with ⟨k,_⟩|⟨_,_,_,k,_⟩<;>(rw[he] at k; cases k)
  ·rcases he with he|⟨_,he⟩|he
   ·exact⟨(h1.own.lt b he).2,h1.nf b he,(h1.own.lt b he).1⟩
   ·exact R5 h1 he
   ·rcases h1.own.2 with ⟨k,_⟩|⟨_,_,_,k,_⟩<;>(rw[he] at k; cases k)
  ·rw[h1] at he;rcases he with he|⟨_,i,u,_,_,⟨A,n,c,he,_⟩,_⟩|he
   ·cases he
   ·cases he
   ·cases he;exact⟨(uaf.1 h2).1,h3,h4⟩
 |hole ety t l i=>
  obtain⟨_,_,xs,h1⟩:=h;rcases he with he|he
  ·exact⟨(h1.own.lt b he).2,h1.nf b he,(h1.own.lt b he).1⟩
  ·exact R5 h1 he
def gg.of {e:Nat} {t:Ty} {l:List t.den} (h:fI P B w F R v (.arr e t l)) (he:e<cj):gg B w F v e t l:=by
 rcases h with ⟨_,h⟩|⟨k,_⟩|⟨k,_⟩
 ·exact h
 ·exact absurd he (Nat.not_lt.2 k)
 ·exact absurd he (Nat.not_lt.2 (uek (by decide) k))
def lE {e:Nat} {t:Ty} {l:List t.den} (he:e<cj) (hv:∀ b,v ≠ .map (some b)):bK w (.arr e t l) v b↔v.ownBlock=some b:=
 ⟨λh=>by
  rcases h with h|⟨h,_⟩|h
  ·exact h
  ·exact absurd he (Nat.not_lt.2 h)
  ·exact absurd h (hv b),.inl⟩
def UD {e:Nat} {t:Ty} {l:List t.den} (h:fI P B w F R v (.arr e t l)) (he:e<dL):∃ e' xs,w.ownsRow B e' t.size v l.length xs/\∀ g,v.ownBlock=some g->¬ F g:=by
 rcases h with ⟨_,xs,h1,h2,_⟩|⟨_,_,xs,h1⟩|⟨k,_⟩
 ·exact⟨_,xs,h1,h2⟩
 ·exact⟨_,xs,h1.own,h1.nf⟩
 ·exact absurd he (Nat.not_lt.2 k)
def nq {sz:Nat} (h:w.ownsRow B e sz v n xs) (b:Nat):v ≠ .map (some b):=by
 rintro rfl;rcases h.2 with ⟨k,_⟩|⟨_,_,_,k,_⟩<;>cases k
def pm {sz:Nat} (h:w.ownsRow B e sz v n xs) (hb:∀ b,v.ownBlock=some b->w'.heap[b]? = w.heap[b]?):w'.ownsRow B e sz v n xs:=by
 refine⟨h.1,?_⟩;rcases h.2 with hn|⟨g,cap,cur,rfl,hb',hg,rest⟩
 ·exact .inl hn
 ·exact .inr ⟨g,cap,cur,rfl,hb',(hb g rfl).trans hg,rest⟩
def R4 {e sz:Nat} (hb:∀ b,v.ownBlock=some b->w'.heap[b]? = w.heap[b]?):innB w' e sz n K v b->innB w e sz n K v b:=by
 rintro⟨i,u,hi,hk,⟨A,k,c,rfl,hu⟩,hub⟩;refine⟨i,u,hi,hk,⟨A,k,c,rfl,?_⟩,hub⟩;rw[<- hu];refine(ubb ?_).symm;have:(A.add (i*sz+cB e)).block=A.block:=by unfold Addr.add; split<;>rfl
 rw[this];exact hb _ rfl
def tU {o:Ob} (hb:∀ b,bK w o v b->w'.heap[b]? = w.heap[b]?):bK w' o v b->bK w o v b:=by
 intro he;cases o with
 |gone=>exact he
 |fbox cs=>exact he
 |frz t l=>exact he
 |box ty cs=>exact he
 |hole ety t l i=>exact he.imp id (R4 (λb hb'=>hb b (.inl hb')))
 |arr ety t l=>exact he.imp id (.imp (λh=>⟨h.1,R4 (λb hb'=>hb b (.inl hb')) h.2⟩) id)
def RwOK.innB {e:Nat} {t:Ty} {l:List t.den} (h:RwOK P B w F v e t l K xs) (hi:i<l.length) (hk:¬ K i) (hu:xs[i*t.size+cB e]? = some u) (hb:u.ownBlock=some b):Ab.innB w e t.size l.length K v b:=
 ⟨i,u,hi,hk,rk h.own hu,hb⟩
def RwOK.keep {e:Nat} {t:Ty} {l:List t.den} (h:RwOK P B w F v e t l K xs) (hF:∀ b,F b->F' b) (hw:∀ b,F b->w'.heap[b]? = w.heap[b]?)
  (ho:∀ b,v.ownBlock=some b\/Ab.innB w e t.size l.length K v b->w'.heap[b]? = w.heap[b]? /\ ¬ F' b):RwOK P B w' F' v e t l K xs:=
 ⟨pm h.own (λb hb=>(ho b (.inl hb)).1),λg hg=>(ho g (.inl hg)).2,h.one,λi x k c hi hc hk=>by
   obtain⟨u,h1,h2⟩:=h.cells i x k c hi hc hk;exact⟨u,h1,bc.mono hF hw (λ_ _ h=>h) c h2⟩,
  λi x hi hk=>by
   obtain⟨t',li,u,ys,a1,a3,a4,a5,a6,a7⟩:=h.inn i x hi hk;have hb:=λb hb=>ho b (.inr (h.innB (uak.1 hi).1 hk a3 hb));exact⟨t',li,u,ys,a1,a3,pm a4 (λb hb'=>(hb b hb').1),a5.mono hF hw,a6,λb hb'=>⟨(a7 b hb').1,(hb b hb').2⟩⟩,
  h.disj⟩
def fI.keep {o:Ob} (h:fI P B w F R v o) (hF:∀ b,F b->F' b) (hw:∀ b,F b->w'.heap[b]? = w.heap[b]?) (hR:∀ id v,R id v->R' id v)
  (hb:∀ b,bK w o v b->w'.heap[b]? = w.heap[b]? /\ ¬ F' b):fI P B w' F' R' v o:=by
 cases o with
 |gone=>trivial
 |fbox cs=>
  obtain⟨b,h1,h2,h3⟩:=h;exact⟨b,h1,hF b h2,aN.mono hF hw hR cs (λj u hu=>by rw[<- hu]; exact ubb (hw b h2)) h3⟩
 |frz t l=>
  simp only[fI] at h |-;exact aA.mono hF hw (λ_ _ _ h=>h) h
 |box ty cs=>
  obtain⟨b,arr,h1,h2,h3,h4,h5,h6⟩:=h;obtain⟨e1,e2⟩:=hb b ⟨_,h1,rfl⟩;exact⟨b,arr,h1,e1.trans h2,e2,h4,h5,aN.mono hF hw hR cs (λ_ _ h=>h) h6⟩
 |arr ety t l=>
  rcases h with ⟨hlt,xs,h1,h2,h3,h4⟩|⟨hge,hlt,xs,h1⟩|⟨hge,b,es,ck,h1,h2,h3,h4,h5,h6,h7,h8⟩
  ·exact .inl ⟨hlt,xs,pm h1 (λb hb'=>(hb b (.inl hb')).1),λg hg=>(hb g (.inl hg)).2,h3.mono hF hw,h4⟩
  ·exact .inr (.inl ⟨hge,hlt,xs,h1.keep hF hw (λb hb'=>hb b (hb'.imp id (λh=>.inl ⟨hge,h⟩)))⟩)
  ·obtain⟨e1,e2⟩:=hb b (.inr (.inr h1));exact .inr (.inr ⟨hge,b,es,ck,h1,e1.trans h2,e2,h4,h5,h6,h7,λi x hx=>by
    obtain⟨e,k1,k2,k3,k4⟩:=h8 i x hx;exact⟨e,k1,k2,k3,k4.mono (λ_ h=>h) (λ_ h=>h.elim) (λ_ _ _ h=>h)⟩⟩)
 |hole ety t l i=>
  obtain⟨hge,hlt,xs,h1⟩:=h;exact⟨hge,hlt,xs,h1.keep hF hw hb⟩
def MemOK.keep (h:MemOK P B w F γ m) (hF:∀ b,F b->F' b) (hw:∀ b,F b->w'.heap[b]? = w.heap[b]?)
  (hb:∀ id o b,m id=some o->bK w o (γ id) b->w'.heap[b]? = w.heap[b]? /\ ¬ F' b):MemOK P B w' F' γ m:=
 ⟨λid o ho=>(h.ob id o ho).keep hF hw (λ_ _ h=>h) (λb hb'=>hb id o b ho hb'),λi j oi oj b hij hi hj hbi hbj=>
  h.apart i j oi oj b hij hi hj (tU (λb hb'=>(hb i oi b hi hb').1) hbi) (tU (λb hb'=>(hb j oj b hj hb').1) hbj)⟩
def Step.below (hm:MemOK P B w F γ m) (hB:B<=w.heap.size) (hbd:∀ b,F b->b<w.heap.size) (hb:Below w.heap.size w w') (hF:∀ b,F b->F' b) (hF':∀ b,F' b->(F b\/w.heap.size<=b)/\b<w'.heap.size) :
  Step B w F γ m w' F' γ m/\MemOK P B w' F' γ m:=by
 refine⟨⟨hF,λb h=>hb.block b (hbd b h),λ_ _ h=>h,λb h=>hb.block b (by omega),hb.os,hb.tape,hb.output,hb.size,λb h=>(hF' b h).2,λb h=>(hF' b h).1.elim .inl (λh=>.inr (by omega))⟩,?_⟩;refine hm.keep hF (λb h=>hb.block b (hbd b h)) λid o b ho he=>?_;obtain⟨h1,h2,_⟩:=gZ (hm.ob id o ho) he;exact⟨hb.block b h1,λh=>(hF' b h).1.elim h2 (by omega)⟩
def upd (m:Nat->Option Ob) (id:Nat) (o:Ob):Nat->Option Ob:=λi=>if i=id then some o else m i
def ax (m:Nat->Option Ob):List (Nat×Ob)->Nat->Option Ob
 |[]=>m
 |(id,o)::r=>ax (upd m id o) r
def cU (γ:Nat->Value) (id:Nat) (v:Value):Nat->Value:=λi=>if i=id then v else γ i
def iX (m:Nat->Option Ob) (id:Nat) (o:Ob):upd m id o id=some o:=by simp[upd]
def fa (m:Nat->Option Ob) {id:Nat} (o:Ob) (h:i≠id):upd m id o i=m i:=by simp[upd,h]
def fy (γ:Nat->Value) (id:Nat) (v:Value):cU γ id v id=v:=by simp[cU]
def eC (γ:Nat->Value) {id:Nat} (v:Value) (h:i≠id):cU γ id v i=γ i:=by simp[cU,h]
def nx {id:Nat} {o o0:Ob} (h0:m id=some o0) (hg:o0 = .gone->o = .gone):∀ i v,ap m γ i v->ap (upd m id o) γ i v:=by
 intro i v h;unfold ap at *;by_cases hi:i=id
 ·subst hi;rw[iX];cases o<;>cases o0<;>simp_all
 ·rw[fa _ _ hi];exact h
def MemOK.change (h:MemOK P B w F γ m) {id:Nat} {o o0:Ob} (h0:m id=some o0) (hg:o0 = .gone->o = .gone)
  (hF:∀ b,F b->F' b) (hw:∀ b,F b->w'.heap[b]? = w.heap[b]?)
  (hex:∀ b,bK w' o (γ id) b->bK w o0 (γ id) b)
  (hoth:∀ b,b<w.heap.size->¬ bK w o0 (γ id) b->w'.heap[b]? = w.heap[b]? /\ (F' b->F b))
  (hok:fI P B w' F' (ap (upd m id o) γ) (γ id) o):MemOK P B w' F' γ (upd m id o):=by
 have hk:∀ i oi,i≠id->m i=some oi->∀ b,bK w oi (γ i) b->w'.heap[b]? = w.heap[b]? /\ ¬ F' b:=λi oi he hi b hb=>by
  obtain⟨e1,e2,_⟩:=gZ (h.ob i oi hi) hb;obtain⟨e3,e4⟩:=hoth b e1 (λhc=>h.apart i id oi o0 b he hi h0 hb hc);exact⟨e3,λhc=>e2 (e4 hc)⟩
 have hkb:∀ i oi,i≠id->m i=some oi->∀ b,bK w' oi (γ i) b->bK w oi (γ i) b:=λi oi he hi b=>tU (λb hb=>(hk i oi he hi b hb).1);refine⟨λi oi hi=>?_,λi j oi oj b hij hi hj hbi hbj=>?_⟩
 ·by_cases he:i=id
  ·subst he;rw[iX,ucj] at hi;subst hi;exact hok
  ·rw[fa _ _ he] at hi;exact(h.ob i oi hi).keep hF hw (nx h0 hg) (hk i oi he hi)
 ·by_cases he:i=id
  ·subst he;rw[iX,ucj] at hi;subst hi;rw[fa _ _ (Ne.symm hij)] at hj;exact h.apart i j o0 oj b hij h0 hj (hex b hbi) (hkb j oj (Ne.symm hij) hj b hbj)
  ·rw[fa _ _ he] at hi;by_cases hf:j=id
   ·subst hf;rw[iX,ucj] at hj;subst hj;exact h.apart i j oi o0 b hij hi h0 (hkb i oi he hi b hbi) (hex b hbj)
   ·rw[fa _ _ hf] at hj;exact h.apart i j oi oj b hij hi hj (hkb i oi he hi b hbi) (hkb j oj hf hj b hbj)
def yM {id:Nat} {o:Ob} (h0:m id=none):∀ i u,ap m γ i u->ap (upd m id o) (cU γ id v) i u:=by
 intro i u h;unfold ap at *;by_cases hi:i=id
 ·subst hi;simp[h0] at h
 ·rw[fa _ _ hi,eC _ _ hi];exact h
def MemOK.new (h:MemOK P B w F γ m) {id:Nat} {o:Ob} (h0:m id=none)
  (hF:∀ b,F b->F' b) (hw:∀ b,F b->w'.heap[b]? = w.heap[b]?)
  (hex:∀ b,bK w' o v b->w.heap.size<=b)
  (hoth:∀ b,b<w.heap.size->(w'.heap[b]? = w.heap[b]? /\ (F' b->F b)))
  (hok:fI P B w' F' (ap (upd m id o) (cU γ id v)) v o):MemOK P B w' F' (cU γ id v) (upd m id o):=by
 have hk:∀ i oi,m i=some oi->∀ b,bK w oi (γ i) b->w'.heap[b]? = w.heap[b]? /\ ¬ F' b:=λi oi hi b hb=>by
  obtain⟨e1,e2,_⟩:=gZ (h.ob i oi hi) hb;obtain⟨e3,e4⟩:=hoth b e1;exact⟨e3,λhc=>e2 (e4 hc)⟩
 have hkb:∀ i oi,m i=some oi->∀ b,bK w' oi (γ i) b->bK w oi (γ i) b:=λi oi hi b=>tU (λb hb=>(hk i oi hi b hb).1);refine⟨λi oi hi=>?_,λi j oi oj b hij hi hj hbi hbj=>?_⟩
 ·by_cases he:i=id
  ·subst he;rw[iX,ucj] at hi;subst hi;rw[fy];exact hok
  ·rw[fa _ _ he] at hi;rw[eC _ _ he];exact(h.ob i oi hi).keep hF hw (yM h0) (hk i oi hi)
 ·by_cases he:i=id
  ·subst he;rw[iX,ucj] at hi;subst hi;rw[fa _ _ (Ne.symm hij)] at hj;rw[eC _ _ (Ne.symm hij)] at hbj;rw[fy] at hbi;have h1:=(gZ (h.ob j oj hj) (hkb j oj hj b hbj)).1;have h2:=hex b hbi;omega
  ·rw[fa _ _ he] at hi;rw[eC _ _ he] at hbi;by_cases hf:j=id
   ·subst hf;rw[iX,ucj] at hj;subst hj;rw[fy] at hbj;have h1:=(gZ (h.ob i oi hi) (hkb i oi hi b hbi)).1;have h2:=hex b hbj;omega
   ·rw[fa _ _ hf] at hj;rw[eC _ _ hf] at hbj;exact h.apart i j oi oj b hij hi hj (hkb i oi hi b hbi) (hkb j oj hj b hbj)
end
def wF:Value->AC
 |.int k n=>if k.min<=n/\n<=k.max then .int k n else .dead
 |.bool b=>.bool b
 |.string s=>if s.size<=maxLen then .str s else .dead
 |.slice none 0 0=>.nil
 |_=>.dead
def lu:Value->AV
 |.agg cs=>if cs.toList.all (·.oneCell') then .agg (cs.toList.map wF) else .dead
 |.tuple _=>.dead
 |v=>.c (wF v)
def gC (sl:Nat->AV):Operand->AV
 |.tmp t=>sl t
 |.const v=>lu v
 |.global _=>.dead
 |.func f=>.c (.fn f [])
def kg (P:Program):Nat->TypeId->Option Ty
 |0,_=>none
 |n+1,t=>
  match P.underlying t with
  |some .bool=>some .bool
  |some (.int k)=>some (.int k)
  |some .string=>some .str
  |some (.slice e)=>(kg P n e).map .sl
  |some (.struct fs)=>fs.toList.foldr (λf acc=>match kg P n f.type,acc with
   |some a,some r=>some (.pair a r)
   |_,_=>none) (some .unit)
  |some (.array k e)=>match kg P n e with
   |some a=>some (Nat.rec (motive:=λ_=>Ty) .unit (λ_ r=>.pair a r) k)
   |none=>none
  |_=>none
def cV (P:Program) (t:TypeId):Bool:=
 match P.underlying t with
 |some (.struct _)|some (.array _ _)=>true
 |_=>false
def lz:AV->Option (List AC)
 |.c a=>some [a]
 |.agg cs=>some cs
 |_=>none
def CL (wide:Bool) (cs:List AC):Option AV:=
 if wide then some (.agg cs) else match cs with
  |[a]=>some (.c a)
  |_=>none
def nw (cs:List AC) (off:Nat) (new:List AC):Option (List AC):=
 if off+new.length<=cs.length then some (cs.take off++new++cs.drop (off+new.length)) else none
def ig (cs:List AC) (off n:Nat):Option (List AC):=
 if off+n<=cs.length then some ((cs.drop off).take n) else none
structure Eff where
 v:AV
 wr:List (Nat×Ob)
 need:List Prop
abbrev aT:=Nat->Option Ob
def me (m:aT):AC->Option (AC×List (Nat×Ob))
 |.own id=>match m id with
  |some (.arr e t l)=>if e<dL then some (.sl t l,[(id,.frz t l)]) else none
  |some (.frz t l)=>some (.sl t l,[])
  |_=>none
 |a=>some (a,[])
def jr (m:aT):List AC->Option (List AC×List (Nat×Ob))
 |[]=>some ([],[])
 |a::r=>match me m a,jr m r with
  |some (x,u),some (y,v)=>some (x::y,u++v)
  |_,_=>none
def pD (m:aT):AV->Option (AV×List (Nat×Ob))
 |.c a=>match me m a with
  |some (x,u)=>some (.c x,u)
  |none=>none
 |.agg cs=>match jr m cs with
  |some (x,u)=>some (.agg x,u)
  |none=>none
 |_=>none
def dK (m:aT):List AV->Option (List AV×List (Nat×Ob))
 |[]=>some ([],[])
 |a::r=>match pD m a,dK m r with
  |some (x,u),some (y,v)=>some (x::y,u++v)
  |_,_=>none
def vO (m:aT):List AV->Option (List AC×List (Nat×Ob))
 |[]=>some ([],[])
 |.c (.ptr id 0)::r=>match m id with
  |some (.box _ cs)=>match jr m cs with
   |some (cs',u)=>match ax m u id with
    |some (.box _ _)=>match vO (ax m (u++[(id,.fbox cs')])) r with
     |some (y,v)=>some (.sptr cs'::y,(u++[(id,.fbox cs')])++v)
     |none=>none
    |_=>none
   |none=>none
  |some (.fbox cs)=>match vO m r with
   |some (y,v)=>some (.sptr cs::y,v)
   |none=>none
  |_=>none
 |.c a::r=>match me m a with
  |some (x,u)=>match vO (ax m u) r with
   |some (y,v)=>some (x::y,u++v)
   |none=>none
  |none=>none
 |_::_=>none
def lH:AC->List Nat
 |.own id=>[id]
 |.ptr id _=>[id]
 |.ifp _ id=>[id]
 |.fb _ id=>[id]
 |_=>[]
def uh:AV->List Nat
 |.c a=>lH a
 |.agg cs=>cs.flatMap lH
 |.optr id _ _ _=>[id]
 |.aptr b _ _=>lH b
 |.maybe _ _ v=>uh v
 |_=>[]
def qnf:Option Ob->List Nat
 |some (.box _ cs)=>cs.flatMap lH
 |_=>[]
def tR (P:Program):Nat->TypeId->List AC->List AC->Option Bool
 |0,_,_,_=>none
 |n+1,t,xs,ys=>
  match P.underlying t with
  |some .bool=>match xs,ys with
   |[.bool a],[.bool b]=>some (a==b)
   |_,_=>none
  |some (.int _)=>match xs,ys with
   |[.int k a],[.int k' b]=>if k=k' then some (a==b) else none
   |_,_=>none
  |some (.struct fs)=>if P.stoodInHeld t=true then none else
   fs.toList.foldr (λf acc=>if f.name = "_" then acc else
    if (P.underlying f.type).isSome=true/\(P.info? f.type).isSome=true then
     match ig xs f.offset (if cV P f.type then P.cellsOf f.type else 1),ig ys f.offset (if cV P f.type then P.cellsOf f.type else 1) with
     |some x,some y=>match tR P n f.type x y,acc with
      |some p,some q=>some (p&&q)
      |_,_=>none
     |_,_=>none
    else none) (some true)
  |some (.array len e)=>
   if (P.underlying e).isSome=true/\(P.info? e).isSome=true then
    (List.range len).foldr (λi acc=>
     match ig xs (i*P.cellsOf e) (if cV P e then P.cellsOf e else 1),ig ys (i*P.cellsOf e) (if cV P e then P.cellsOf e else 1) with
     |some x,some y=>match tR P n e x y,acc with
      |some p,some q=>some (p&&q)
      |_,_=>none
     |_,_=>none) (some true)
   else none
  |_=>none
def Hd (op:BinOp) (a b:Int):Option Bool:=
 match op with
 |.eql=>some (a==b)
 |.neq=>some (a != b)
 |.lss=>some (decide (a<b))
 |.leq=>some (decide (a<=b))
 |.gtr=>some (decide (a>b))
 |.geq=>some (decide (a>=b))
 |_=>none
def NU (op:BinOp) (k:IntKind) (a b:Int):Option (AC×List Prop):=
 match op with
 |.add=>some (.int k (k.wrap (a+b)),[])
 |.sub=>some (.int k (k.wrap (a-b)),[])
 |.mul=>some (.int k (k.wrap (a*b)),[])
 |.quo=>some (.int k (k.wrap (a.tdiv b)),[b≠0])
 |.rem=>some (.int k (a.tmod b),[b≠0])
 |.and=>some (.int k (k.wrap (BitVec.ofInt k.bits a &&& BitVec.ofInt k.bits b).toNat),[])
 |.or=>some (.int k (k.wrap (BitVec.ofInt k.bits a ||| BitVec.ofInt k.bits b).toNat),[])
 |.xor=>some (.int k (k.wrap (BitVec.ofInt k.bits a ^^^ BitVec.ofInt k.bits b).toNat),[])
 |.andNot=>some (.int k (k.wrap (BitVec.ofInt k.bits a &&& ~~~BitVec.ofInt k.bits b).toNat),[])
 |.shl=>some (.int k (k.wrap (a*2 ^ (min b.toNat k.bits))),[¬ b<0])
 |.shr=>some (.int k (a.fdiv (2 ^ (min b.toNat k.bits))),[¬ b<0])
 |op=>match Hd op a b with
  |some x=>some (.bool x,[])
  |none=>none
def RS:BinOp->Bool
 |.shl | .shr=>true
 |_=>false
def F6 (P:Program) (op:BinOp) (t:TypeId):AV->AV->Option (AC×List Prop)
 |.c (.int k a),.c (.int k' b)=>if k=k'\/RS op=true then NU op k a b else none
 |.c (.bool a),.c (.bool b)=>match op with
  |.eql=>if P.underlying t matches some .bool then some (.bool (a==b),[]) else none
  |.neq=>if P.underlying t matches some .bool then some (.bool (!(a==b)),[]) else none
  |_=>none
 |.agg xs,.agg ys=>if P.eqGuardType P.depth t=false/\cV P t=true then match tR P 20 t xs ys with
   |some x=>match op with
    |.eql=>some (.bool x,[])
    |.neq=>some (.bool (!x),[])
    |_=>none
   |none=>none
  else none
 |_,_=>none
structure InsOK (P:Program) (f:FuncId) (e:TypeId) (T:Ty) (bytes:Nat):Prop where
 enters:∀ args w,(callFunc f args).run P w = .ok (.enter f args) w
 calls:∀ (w:World) (B n i:Nat) (s v:Value) (xs news:List Value),B<=w.heap.size->w.ownsRow B e T.size s n xs->w.ownsRow B e T.size v 1 news->(∀ g,v.ownBlock=some g->s.ownBlock≠some g)->i<=n ->
  (∀ u∈xs,u.oneCell'=true)->(∀ u∈news,u.oneCell'=true)->n+1<=maxLen->(n+1)*bytes<=140737488355328 ->
  Calls P f #[s,.int .i64 i,v] w λen w'=>∃ v',en = .returned v'/\w.grownBy w' s.ownBlock/\w'.ownsRow B e T.size v' (n+1) (xs.take (i*T.size)++news++xs.drop (i*T.size))/\(v'.ownBlock=s.ownBlock\/v'.ownBlock=some w.heap.size)
structure CloneOK (P:Program) (f:FuncId) (e:TypeId) (T:Ty) (bytes:Nat):Prop where
 enters:∀ args w,(callFunc f args).run P w = .ok (.enter f args) w
 calls:∀ (w:World) (n c:Nat) (A:Option Addr) (xs:List Value),n<=c->(A=none->n=0)->xs.length=n*T.size->(∀ ad,A=some ad->∀ (j:Nat) u,xs[j]? = some u->w.cell? (ad.add j)=some u)->(∀ u∈xs,u.oneCell'=true) ->
  n<=maxLen->n*bytes<=140737488355328 ->
  Calls P f #[.slice A n c] w λen w'=>∃ v',en = .returned v'/\w.grownBy w' none/\w'.ownsRow w.heap.size e T.size v' n xs
structure UpdOK (P:Program) (f:FuncId) (T:Ty) (ps:List Ty) (g:T.den->aa ps->T.den):Prop where
 enters:∀ args w,(callFunc f args).run P w = .ok (.enter f args) w
 calls:∀ (w:World) (F:Nat->Prop) (b:Nat) (ety:TypeId) (arr:Array Value) (x:T.den) (y:aa ps) (vs:List Value),w.heap[b]? = some (.cells arr ety (0,0))->arr.size=T.size ->
  (∀ u∈arr,u.oneCell'=true)->aA w F T x (λj u=>arr[j]? = some u)->dM w F ps y vs ->
  Calls P f (Value.pointer (some ⟨b,0,none⟩)::vs).toArray w λen w'=>∃ (u:Value) (ns:List Value),en = .returned u/\ns.length=T.size/\w'=w.setRow b ns.toArray/\aA w F T (g x y) (λj u=>ns[j]? = some u)
inductive Row where
 |clone (e:TypeId) (T:Ty) (bytes:Nat)
 |ins (e:TypeId) (T:Ty) (bytes:Nat)
 |upd (T:Ty) (ps:List Ty) (g:T.den->aa ps->T.den)
 |rw (off inner:Nat)
def zZ (P:Program) (f:FuncId):Row->Prop
 |.rw _ _=>True
 |.clone e T n=>CloneOK P f e T n
 |.ins e T n=>InsOK P f e T n
 |.upd T ps g=>UpdOK P f T ps g
structure Gm where
 c:FuncId->Option Ct
 r:FuncId->Option Row
instance:CoeFun Gm λ_=>FuncId->Option Ct:=⟨Gm.c⟩
instance:Coe (FuncId->Option Ct) Gm:=⟨λc=>⟨c,λ_=>none⟩⟩
def kN (P:Program) (Γ:Gm):Prop:=(∀ f ct,Γ.c f=some ct->af P f ct)/\∀ f r,Γ.r f=some r->zZ P f r
def lB (t:Ty):AV->Option t.den
 |.c a=>if t.wide then none else match dec t [a] with
  |some (x,[])=>some x
  |_=>none
 |.agg cs=>if t.wide then match dec t cs with
  |some (x,[])=>some x
  |_=>none else none
 |_=>none
def xh {ps ps' rs rs':List Ty} (h:ps=ps') (k:rs=rs') (g:aa ps->aa rs):aa ps'->aa rs':=k ▸ h ▸ g
def OB {ps ps':List Ty} (h:ps=ps') (D:aa ps->Prop):aa ps'->Prop:=h ▸ D
def AY {rs rs':List Ty} (k:rs=rs') (x:aa rs):aa rs':=k ▸ x
def GT {t u:Ty} (h:t=u) (x:t.den):u.den:=h ▸ x
def gY:(ps:List PT)->List AC->Option (ag ps)
 |[],[]=>some ()
 |.d t::r,a::s=>match lB t (.c a),gY r s with
  |some x,some y=>some (x,y)
  |_,_=>none
 |.ptr t::r,.sptr cs::s=>match dec t cs,gY r s with
  |some (x,_),some y=>some (x,y)
  |_,_=>none
 |.pk f::r,.sptr [.fn f' []]::s=>if f'=f then match gY r s with
  |some y=>some ((),y)
  |none=>none
  else none
 |.pfn ps rs::r,.sptr [.fv ps' rs' g]::s=>if h:ps'=ps then if k:rs'=rs then match gY r s with
   |some y=>some (xh h k g,y)
   |none=>none
  else none else none
 |_,_=>none
def jC:(ps:List Ty)->(cps:List PT)->List AC->Option (aa ps->ag cps)
 |[],cps,caps=>match gY cps caps with
  |some ys=>some (λ_=>ys)
  |none=>none
 |t::r,.d t'::cps,caps=>if h:t=t' then match jC r cps caps with
   |some m=>some (λx=>(GT h x.1,m x.2))
   |none=>none
  else none
 |_::_,_,_=>none
def Hw (Γ:Gm) (ps rs:List Ty):AC->Option ((aa ps->aa rs)×List Prop)
 |.fv ps' rs' g=>if h:ps'=ps then if k:rs'=rs then some (xh h k g,[]) else none else none
 |.fn f caps=>match Γ f with
  |some ct=>if k:ct.rs=rs then match jC ps ct.ps caps with
    |some m=>some (λx=>AY k (ct.f (m x)),[∀ x,fi ps x->av (ct.ok (m x))])
    |none=>none
   else none
  |none=>none
 |_=>none
def Hy (Γ:Gm) (ps rs:List Ty):AC->Option ((aa ps->aa rs)×(aa ps->Prop))
 |.pv ps' rs' g D=>if h:ps'=ps then if k:rs'=rs then some (xh h k g,OB h D) else none else none
 |.fn f caps=>match Γ f with
  |some ct=>if k:ct.rs=rs then match jC ps ct.ps caps with
    |some m=>some (λx=>AY k (ct.f (m x)),λx=>av (ct.ok (m x)))
    |none=>none
   else none
  |none=>none
 |_=>none
def Pl (Γ:Gm):(p:PT)->AV->Option (p.den×List Prop)
 |.d t,a=>match lB t a with
  |some x=>some (x,[])
  |none=>none
 |.ptr t,.c (.sptr cs)=>match dec t cs with
  |some (x,_)=>some (x,[])
  |none=>none
 |.fn ps rs,.c a=>Hw Γ ps rs a
 |.pf ps rs,.c a=>match Hy Γ ps rs a with
  |some x=>some (x,[])
  |none=>none
 |_,_=>none
def jf (Γ:Gm):(ps:List PT)->List AV->Option (ag ps×List Prop)
 |[],[]=>some ((),[])
 |p::r,a::s=>match Pl Γ p a,jf Γ r s with
  |some (x,n),some (y,k)=>some ((x,y),n++k)
  |_,_=>none
 |_,_=>none
def dE (t:Ty) (x:t.den):AV:=if t.wide then .agg (enc t x) else match enc t x with
 |[a]=>.c a
 |_=>.dead
def Bm:(ts:List Ty)->aa ts->List AV
 |[],_=>[]
 |t::r,x=>dE t x.1::Bm r x.2
def jg:(ts:List Ty)->aa ts->AV
 |[t],x=>dE t x.1
 |ts,x=>.tup (Bm ts x)
def O7 (Γ:Gm) (f:FuncId) (args:List AV):Option (AV×List Prop):=
 match Γ f with
 |some ct=>match jf Γ ct.ps args with
  |some (x,n)=>some (jg ct.rs (ct.f x),n++ct.ok x)
  |none=>none
 |none=>none
def g9:(ps:List Ty)->List AV->Option (aa ps)
 |[],[]=>some ()
 |t::r,a::s=>match lB t a,g9 r s with
  |some x,some y=>some (x,y)
  |_,_=>none
 |_,_=>none
def oU (k:IntKind):List AC->Option (List Int)
 |[]=>some []
 |.int k' n::r=>if k=k' then (oU k r).map (n :: ·) else none
 |_=>none
def Sk:List AC->Option IntKind
 |.int k _::_=>some k
 |_=>none
def pI:List Int->Nat->Int->Int->List Int
 |[],_,_,_=>[]
 |n::r,j,i,v=>(bif i==(j:Int) then v else n)::pI r (j+1) i v
def Ev (c:Operand) (want:Bool):AV->AV
 |.maybe g w v=>match c with
  |.tmp t=>if g=t/\w=want then v else .maybe g w v
  |_=>.maybe g w v
 |v=>v
def yA (p:Bool):AV->AV->Option AV
 |.c (.bool x),.c (.bool y)=>some (.c (.bool (bif p then x else y)))
 |.c (.int k x),.c (.int k' y)=>if k=k' then some (.c (.int k (bif p then x else y))) else none
 |_,_=>none
def xA (place:Nat->Option (Nat×Nat)) (cs:List AC):List (Nat×AV)->Option (List AC)
 |[]=>some cs
 |(i,v)::r=>match place i,lz v with
  |some (off,n),some new=>if new.length=n then match nw cs off new with
    |some cs'=>xA place cs' r
    |none=>none
   else none
  |_,_=>none
def Uc (P:Program) (t:TypeId):Option (Nat->Option (Nat×Nat)):=
 match P.underlying t with
 |some (.struct fs)=>if fs.toList.all (λf=>(P.info? f.type).isSome) then some λi=>(fs[i]?).map λf=>(f.offset,P.cellsOf f.type) else none
 |some (.array _ e)=>if (P.info? e).isSome then some λi=>some (i*P.cellsOf e,P.cellsOf e) else none
 |_=>none
def FS (P:Program) (t:TypeId) (parts:List (Nat×AV)):Option AV:=
 match (P.info? t).bind (·.zero),Uc P t with
 |some z,some pl=>match lz (lu z) with
  |some cs=>match xA pl cs parts with
   |some cs'=>some (.agg cs')
   |none=>none
  |none=>none
 |_,_=>none
def n9 (t:Ty) (k:Nat):List (Nat×AV)->Option (List t.den)
 |[]=>some []
 |(i,v)::r=>if i=k then match lB t v,n9 t (k+1) r with
   |some x,some l=>some (x::l)
   |_,_=>none
  else none
def ji:Int->List AC->List (Int×Nat)
 |_,[]=>[]
 |k,.fn f []::r=>(k,f)::ji (k+1) r
 |k,_::r=>ji (k+1) r
def xl (m:aT):AV->Option (List AC×List Prop)
 |.c (.ptr id off)=>match m id with
  |some (.box _ cs)=>some (cs.drop off,[])
  |some (.fbox cs)=>some (cs.drop off,[])
  |_=>none
 |.c (.sptr cs)=>some (cs,[])
 |.optr id sz i off=>match m id with
  |some (.arr e t l)=>if e<cj/\t.size=sz then some ((enc t (l.getD i t.dflt)).drop off,[i<l.length]) else none
  |some (.frz t l)=>if t.size=sz then some ((enc t (l.getD i t.dflt)).drop off,[i<l.length]) else none
  |_=>none
 |.aptr b n i=>match b with
  |.ptr id off=>match m id with
   |some (.box _ cs)=>pickI (cs.drop off) n i
   |some (.fbox cs)=>pickI (cs.drop off) n i
   |_=>none
  |.sptr cs=>pickI cs n i
  |_=>none
 |_=>none
where
 pickI (cs:List AC) (n:Nat) (i:Int):Option (List AC×List Prop):=
  match Sk cs,ig cs 0 n with
  |some k,some bf=>match oU k bf with
   |some ns=>some ([.int k (ns.getD i.toNat 0)],[])
   |none=>none
  |none,some bf=>if (ji 0 bf).isEmpty then none else some ([.fs (ji 0 bf) i],[((ji 0 bf).find? (λx=>x.1==i)).isSome=true])
  |_,_=>none
def CE (P:Program) (t:TypeId) (x:AV) (m:aT):Option Eff:=
 match xl m x with
 |some (cs,n)=>if (P.info? t).isSome/\(P.underlying t).isSome then
   if cV P t then match ig cs 0 (P.cellsOf t) with
    |some l=>some ⟨.agg l,[],n⟩
    |none=>none
   else match cs with
    |a::_=>some ⟨.c a,[],n⟩
    |[]=>none
  else none
 |none=>none
def Lh (P:Program) (t:TypeId) (x v:AV) (m:aT):Option Eff:=
 match lz v with
 |none=>none
 |some new=>if (P.info? t).isSome/\new.length=P.cellsOf t then
   match x with
   |.c (.ptr id off)=>match m id with
    |some (.box e cs)=>match nw cs off new with
     |some cs'=>some ⟨.dead,[(id,.box e cs')],[]⟩
     |none=>none
    |_=>none
   |.optr id sz i off=>match m id,jr m new with
    |some (.arr e t' l),some (new',u)=>if e<cj/\t'.size=sz/\(new.flatMap lH).all (· != id) then
      match nw (enc t' (l.getD i t'.dflt)) off new' with
      |some row=>match dec t' row with
       |some (y,[])=>some ⟨.dead,u++[(id,.arr e t' (l.set i y))],[i<l.length]⟩
       |_=>none
      |none=>none
     else none
    |_,_=>none
   |.aptr (.ptr id off) n i=>match m id,new with
    |some (.box e cs),[.int k y]=>match ig cs off n with
     |some bf=>match oU k bf with
      |some ns=>match nw cs off ((pI ns 0 i y).map (.int k)) with
       |some cs'=>some ⟨.dead,[(id,.box e cs')],[]⟩
       |none=>none
      |none=>none
     |none=>none
    |_,_=>none
   |_=>none
  else none
def rp (m:aT):AC->Option ((t:Ty)×List t.den)
 |.sl t l=>some ⟨t,l⟩
 |.slx t l=>some ⟨t,l⟩
 |.own id=>match m id with
  |some (.arr e t l)=>if e<cj then some ⟨t,l⟩ else none
  |some (.frz t l)=>some ⟨t,l⟩
  |_=>none
 |_=>none
def IR (P:Program) (t:TypeId) (x:AV) (i:Int) (m:aT):Option Eff:=
 match P.underlying t with
 |some (.slice e)=>if (P.info? e).isSome then match x with
   |.c (.own id)=>match m id with
    |some (.arr e' tt l)=>if e'<dL/\tt.size=P.cellsOf e then some ⟨.optr id tt.size i.toNat 0,[],[0<=i/\i<l.length]⟩ else none
    |some (.hole _ tt l _)=>if tt.size=P.cellsOf e then some ⟨.optr id tt.size i.toNat 0,[],[0<=i/\i<l.length]⟩ else none
    |some (.frz tt l)=>if tt.size=P.cellsOf e then some ⟨.c (.sptr (enc tt (l.getD i.toNat tt.dflt))),[],[0<=i/\i<l.length]⟩ else none
    |_=>none
   |.c (.sl tt l)=>if tt.size=P.cellsOf e then some ⟨.c (.sptr (enc tt (l.getD i.toNat tt.dflt))),[],[0<=i/\i<l.length]⟩ else none
   |.c (.slx tt l)=>if tt.size=P.cellsOf e then some ⟨.c (.sptr (enc tt (l.getD i.toNat tt.dflt))),[],[0<=i/\i<l.length]⟩ else none
   |_=>none
  else none
 |some (.array n e)=>if (P.info? e).isSome then
   if P.cellsOf e=1 then match x with
    |.c (.ptr id off)=>some ⟨.aptr (.ptr id off) n i,[],[0<=i/\i<n]⟩
    |.c (.sptr cs)=>some ⟨.aptr (.sptr cs) n i,[],[0<=i/\i<n]⟩
    |_=>none
   else match i with
    |.ofNat k=>if k<n then match x with
      |.c (.ptr id off)=>some ⟨.c (.ptr id (off+k*P.cellsOf e)),[],[]⟩
      |.c (.sptr cs)=>some ⟨.c (.sptr (cs.drop (k*P.cellsOf e))),[],[]⟩
      |_=>none
     else none
    |_=>none
  else none
 |_=>none
def tW (P:Program) (s:TypeId) (f:Nat):Option Field:=
 match P.underlying s with
 |some (.struct fs)=>fs[f]?
 |_=>none
def Ie (P:Program) (s:TypeId) (x:AV) (f:Nat):Option AV:=
 match tW P s f with
 |some fd=>if (P.info? fd.type).isSome=true/\P.cellsOf fd.type≠0 then match x with
   |.c (.ptr id off)=>some (.c (.ptr id (off+fd.offset)))
   |.c (.sptr cs)=>some (.c (.sptr (cs.drop fd.offset)))
   |.optr id sz i off=>some (.optr id sz i (off+fd.offset))
   |_=>none
  else none
 |none=>none
def KQ (t:Ty) (l:List t.den) (lo hi mx:Option Int):Option (AC×List Prop):=
 match mx with
 |none=>some (.sl t ((l.drop (lo.getD 0).toNat).take ((hi.getD l.length)-(lo.getD 0)).toNat),[0<=lo.getD 0/\lo.getD 0<=hi.getD l.length/\hi.getD l.length<=l.length])
 |some k=>match hi with
  |some h=>some (.slx t ((l.drop (lo.getD 0).toNat).take (h-(lo.getD 0)).toNat),[0<=lo.getD 0/\lo.getD 0<=h/\h<=l.length/\k=h])
  |none=>none
def Fv (P:Program) (d:Nat) (t:TypeId) (s x:AV) (m:aT):Option Eff:=
 match P.underlying t with
 |some (.slice e)=>match P.info? e,kg P 20 e,m d with
  |some i,some tt,none=>if e<cj/\i.size=tt.size/\0<tt.size/\(i.zero.any λz=>z.cells.size==tt.size)=true then
   match (match x with
    |.c .nil=>some ([]:List tt.den)
    |.c a=>match rp m a with
     |some ⟨u,l⟩=>if h:u=tt then some (cA h l) else none
     |none=>none
    |_=>none) with
   |some new=>match s with
    |.c .nil=>some ⟨.c (.own d),[(d,.arr e tt new)],[new.length<=maxLen/\new.length*i.bytes<=140737488355328]⟩
    |.c (.own id)=>match m id with
     |some (.arr e' u l)=>if h:u=tt then if e'=e/\(uh x).all (· != id) then
       some ⟨.c (.own d),[(id,.gone),(d,.arr e tt (cA h l++new))],[(cA h l).length+new.length<=maxLen/\((cA h l).length+new.length)*i.bytes<=140737488355328]⟩ else none else none
     |_=>none
    |.c (.slx u l)=>if h:u=tt then
       some ⟨.c (.own d),[(d,.arr e tt (cA h l++new))],[0<new.length/\(cA h l).length+new.length<=maxLen/\((cA h l).length+new.length)*i.bytes<=140737488355328]⟩ else none
    |_=>none
   |none=>none
   else none
  |_,_,_=>none
 |_=>none
def r8 (k:IntKind) (x:Int):List AV->Option Int
 |[]=>some x
 |.c (.int k' y)::r=>if k=k' then r8 k (if y<x then y else x) r else none
 |_=>none
def rz (k:IntKind) (x:Int):List AV->Option Int
 |[]=>some x
 |.c (.int k' y)::r=>if k=k' then rz k (if x<y then y else x) r else none
 |_=>none
def IS (P:Program) (t:TypeId) (x:AV) (i:Int):Option Eff:=
 match P.underlying t with
 |some .string=>match x with
  |.c (.str b)=>some ⟨.c (.int .u8 (b.data.getD i.toNat 0).toNat),[],[0<=i/\i<b.size]⟩
  |_=>none
 |some (.array n e)=>if (P.info? e).isSome=true/\(P.underlying e).isSome=true/\P.cellsOf e=1/\cV P e=false then match x with
   |.agg cs=>match Sk cs with
    |some k=>match oU k cs with
     |some ns=>if ns.length=n then some ⟨.c (.int k (ns.getD i.toNat 0)),[],[0<=i/\i<n]⟩ else none
     |none=>none
    |none=>none
   |_=>none
  else none
 |_=>none
def se (P:Program) (t:TypeId) (x:AV) (m:aT):Option Eff:=
 match P.underlying t,x with
 |some (.array n e),.c (.ptr id off)=>match P.info? e,kg P 20 e,m id with
  |some i,some tt,some (.box _ cs)=>match jr m cs with
   |some (cs',[])=>match ig cs' off (n*tt.size) with
    |some bf=>match splitN tt n bf with
     |some l=>if i.size=tt.size/\0<tt.size/\n<=1000 then some ⟨.c (.sl tt l),[(id,.fbox cs')],[]⟩ else none
     |none=>none
    |none=>none
   |_=>none
  |_,_,_=>none
 |_,_=>none
where
 splitN (t:Ty):Nat->List AC->Option (List t.den)
  |0,[]=>some []
  |n+1,cs=>match dec t (cs.take t.size) with
   |some (x,[])=>match splitN t n (cs.drop t.size) with
    |some l=>some (x::l)
    |none=>none
   |_=>none
  |_,_=>none
def mG (Γ:Gm) (n:Int) (args:List AV):List (Int×Nat)->Option ((rs:List Ty)×aa rs×List Prop)
 |[]=>none
 |(k,f)::r=>match Γ f with
  |some ct=>match jf Γ ct.ps args with
   |some (x,ns)=>match r with
    |[]=>some ⟨ct.rs,ct.f x,(n=k)::(ns++ct.ok x)⟩
    |r=>match mG Γ n args r with
     |some ⟨rs,y,ms⟩=>if h:rs=ct.rs then some ⟨ct.rs,bif n==k then ct.f x else AY h y,[n=k->av (ns++ct.ok x),n≠k->av ms]⟩ else none
     |none=>none
   |none=>none
  |none=>none
def GS (Γ:Gm) (fv:AV) (args:List AV):Option (AV×List Prop):=
 match fv with
 |.c (.fn f caps)=>O7 Γ f (args++caps.map .c)
 |.c (.fv ps rs g)=>match g9 ps args with
  |some x=>some (jg rs (g x),[])
  |none=>none
 |.c (.pv ps rs g D)=>match g9 ps args with
  |some x=>some (jg rs (g x),[D x])
  |none=>none
 |.c (.fs es n)=>match mG Γ n args es with
  |some ⟨rs,y,ns⟩=>some (jg rs y,ns)
  |none=>none
 |_=>none
def ro (P:Program) (t:TypeId) (x:AV) (m:aT):Option Eff:=
 match P.underlying t with
 |some (.slice _)=>match x with
  |.c .nil=>some ⟨.c (.int .i64 0),[],[]⟩
  |.c a=>match rp m a with
   |some ⟨_,l⟩=>some ⟨.c (.int .i64 l.length),[],[]⟩
   |none=>match a with
    |.own id=>match m id with
     |some (.arr e _ l)=>if e<dL then some ⟨.c (.int .i64 l.length),[],[]⟩ else none
     |_=>none
    |_=>none
  |_=>none
 |some .string=>match x with
  |.c (.str s)=>some ⟨.c (.int .i64 s.size),[],[]⟩
  |_=>none
 |_=>none
def O8 (P:Program) (d:Nat) (b:Builtin) (ts:List TypeId) (vs:List AV) (m:aT):Option Eff:=
 match b,ts,vs with
 |.len,[t],[x]=>ro P t x m
 |.append,[t,t'],[s,x]=>if t=t' then Fv P d t s x m else none
 |.min,_,.c (.int k n)::r=>match r8 k n r with
  |some y=>some ⟨.c (.int k y),[],[]⟩
  |none=>none
 |.max,_,.c (.int k n)::r=>match rz k n r with
  |some y=>some ⟨.c (.int k y),[],[]⟩
  |none=>none
 |_,_,_=>none
def lL:List AV->Option (List AC×List (Nat×Ob))
 |[]=>some ([],[])
 |.c a::r=>match lL r with
  |some (y,_)=>some (a::y,[])
  |none=>none
 |_=>none
def Jy:AC->Option ((t:Ty)×List t.den)
 |.sl t l=>some ⟨t,l⟩
 |.slx t l=>some ⟨t,l⟩
 |_=>none
def uS:Bool->List AV->Option (Option Int×List AV)
 |false,r=>some (none,r)
 |true,.c (.int _ n)::r=>some (some n,r)
 |true,_=>none
def J4 (P:Program) (d:Nat) (t:TypeId) (n c:Int) (m:aT):Option Eff:=
 match P.underlying t with
 |some (.slice e)=>match P.info? e,kg P 20 e,m d with
  |some i,some tt,none=>match i.zero with
   |some z=>match lz (lu z) with
    |some cs=>match dec tt cs with
     |some (x,[])=>if e<cj/\i.size=tt.size/\z.cells.size=tt.size/\0<tt.size then
       some ⟨.c (.own d),[(d,.arr e tt (List.replicate n.toNat x))],[0<=n/\n<=c/\c<=maxLen/\c*i.bytes<=140737488355328]⟩ else none
     |_=>none
    |none=>none
   |none=>none
  |_,_,_=>none
 |_=>none
def Hn (P:Program) (d:Nat) (t:TypeId) (lo hi mx:Bool) (x:AV) (r:List AV) (m:aT):Option Eff:=
 match lo,hi,mx,x,r with
 |false,true,false,.c (.own id),[.c (.int _ h)]=>match P.underlying t,m id,m d with
  |some (.slice e),some (.arr e' tt l),none=>if e'<cj/\(P.info? e).isSome=true/\P.cellsOf e=tt.size then
    some ⟨.c (.own d),[(id,.gone),(d,.arr e' tt (l.take h.toNat))],[0<=h/\h<=l.length]⟩
   else none
  |_,_,_=>none
 |_,_,_,_,_=>none
def fX:AV->Bool
 |.maybe _ _ _=>false
 |_=>true
def ya (P:Program) (t:TypeId):Bool:=match P.underlying t with
 |some (.interface _)=>true
 |_=>false
def Tc (P:Program) (o:BinOp) (t:TypeId) (y:Operand) (x:AV):Option Bool:=
 match o,y,x with
 |.eql,.const .nilIface,.c (.ic es _ z)=>if ya P t=true then some (cD es z.1).isNone else none
 |.neq,.const .nilIface,.c (.ic es _ z)=>if ya P t=true then some (!(cD es z.1).isNone) else none
 |_,_,_=>none
def CH (P:Program) (name:String) (ty:TypeId):Option FuncId:=
 match P.info? ty,P.underlying ty with
 |some i,some (.struct _)=>match i.methods.find? (·.name==name) with
  |some mm=>match mm.func with
   |some (f,false)=>if mm.path.isEmpty=true then some f else none
   |_=>none
  |none=>none
 |_,_=>none
def xY (P:Program) (name:String):List (Int×Nat)->Option (List (Int×Nat))
 |[]=>some []
 |(k,ty)::r=>match CH P name ty,xY P name r with
  |some f,some fs=>some ((k,f)::fs)
  |_,_=>none
def kL (i:Int) (l m:List α):List α:=l.take i.toNat++m++l.drop i.toNat
def UC (Γ:Gm):AV->Option Row
 |.c (.fn f [])=>Γ.r f
 |_=>none
def K5 (r:Row) (d:Nat) (args:List AV) (m:aT):Option Eff:=
 match r,args,m d with
 |.clone e T bytes,[.c a],none=>match rp m a with
  |some ⟨t1,l⟩=>if h1:t1=T then if e<cj then some ⟨.c (.own d),[(d,.arr e T (cA h1 l))],[l.length<=maxLen,l.length*bytes<=140737488355328]⟩ else none else none
  |none=>none
 |.ins e T bytes,[.c (.own a),.c (.int .i64 i),.c (.own b)],none=>match m a,m b with
  |some (.arr e1 t1 l),some (.arr e2 t2 x)=>if h1:t1=T then if h2:t2=T then if e<cj/\e1=e/\e2=e/\a≠b then
    some ⟨.c (.own d),[(a,.gone),(d,.arr e T (kL i (cA h1 l) (cA h2 x)))],[0<=i/\i<=l.length,x.length=1,l.length+1<=maxLen/\(l.length+1)*bytes<=140737488355328]⟩ else none else none else none
  |_,_=>none
 |_,_,_=>none
def zA (Γ:Gm) (n:Int) (cs:List AC) (args:List AV):List (Int×Nat)->Option ((T:Ty)×T.den×List Prop)
 |[]=>none
 |(k,f)::r=>match Γ.r f with
  |some (.upd T ps g)=>match dec T cs,g9 ps args with
   |some (x,[]),some y=>match r with
    |[]=>some ⟨T,g x y,[n=k]⟩
    |r=>match zA Γ n cs args r with
     |some ⟨T',z,ms⟩=>if h:T'=T then some ⟨T,bif n==k then g x y else GT h z,[n≠k->av ms]⟩ else none
     |none=>none
   |_,_=>none
  |_=>none
def Hg (P:Program) (Γ:Gm) (d:Nat) (op:Op) (vs:List AV) (m:aT):Option Eff:=
 match op,vs with
 |.move _,[x] | .assign _,[x]=>some ⟨x,[],[]⟩
 |.alloc e,[]=>match (P.info? e).bind (·.zero),m d with
  |some z,none=>match lz (lu z) with
   |some cs=>some ⟨.c (.ptr d 0),[(d,.box e cs)],[]⟩
   |none=>none
  |_,_=>none
 |.box e _,[x]=>match lz x,m d with
  |some cs,none=>some ⟨.c (.ptr d 0),[(d,.box e cs)],[]⟩
  |_,_=>none
 |.build t ps,vs=>match FS P t ((ps.toList.map (·.1)).zip vs) with
  |some v=>some ⟨v,[],[]⟩
  |none=>none
 |.buildSlice t n ps,vs=>match P.underlying t,m d with
  |some (.slice e),none=>match P.info? e,kg P 20 e,dK m vs with
   |some i,some tt,some (vs',u)=>if e<cj/\i.size=tt.size/\0<tt.size/\n*i.size<=16777216/\ps.size=n/\(i.zero.any λz=>z.cells.size==tt.size)=true then match n9 tt 0 ((ps.toList.map (·.1)).zip vs') with
     |some l=>if l.length=n then some ⟨.c (.own d),u++[(d,.arr e tt l)],[]⟩ else none
     |none=>none
    else none
   |_,_,_=>none
  |_,_=>none
 |.load t _,[x]=>CE P t x m
 |.store t _ _,[x,v]=>Lh P t x v m
 |.nilCheck _,[x]=>match x with
  |.c (.ptr id off)=>some ⟨.c (.ptr id off),[],[]⟩
  |.c (.sptr cs)=>some ⟨.c (.sptr cs),[],[]⟩
  |_=>none
 |.binOp o t _ y0 _,[x,y]=>match Tc P o t y0 x with
  |some v=>some ⟨.c (.bool v),[],[]⟩
  |none=>match F6 P o t x y with
   |some (a,n)=>some ⟨.c a,[],n⟩
   |none=>none
 |.unOp o _ _,[.c (.int k n)]=>match o with
  |.neg=>some ⟨.c (.int k (k.wrap (0-n))),[],[]⟩
  |_=>none
 |.unOp o _ _,[.c (.bool b)]=>match o with
  |.not=>some ⟨.c (.bool (!b)),[],[]⟩
  |_=>none
 |.convert s t _,[.c (.int _ n)]=>match P.underlying s,P.underlying t with
  |some _,some (.int k)=>some ⟨.c (.int k (k.wrap n)),[],[]⟩
  |_,_=>none
 |.makeSlice t _ _,[.c (.int _ n),.c (.int _ c)]=>J4 P d t n c m
 |.slice t _ lo hi mx,x::r=>match Hn P d t lo.isSome hi.isSome mx.isSome x r m with
  |some e=>some e
  |none=>match (if lo.isSome=false/\hi.isSome=false/\mx.isSome=false then se P t x m else none) with
  |some e=>some e
  |none=>match P.underlying t,pD m x,uS lo.isSome r with
  |some (.slice e),some (x',u),some (l,r1)=>match uS hi.isSome r1 with
   |some (h,r2)=>match uS mx.isSome r2 with
    |some (k,[])=>match x' with
     |.c a=>match Jy a with
      |some ⟨tt,y⟩=>if (P.info? e).isSome/\P.cellsOf e=tt.size then match KQ tt y l h k with
        |some (z,n)=>some ⟨.c z,u,n⟩
        |none=>none
       else none
      |none=>none
     |_=>none
    |_=>none
   |none=>none
  |_,_,_=>none
 |.fieldAddr s _ f,[x]=>match Ie P s x f with
  |some v=>some ⟨v,[],[]⟩
  |none=>none
 |.field s _ f,[.agg cs]=>match tW P s f with
  |some fd=>if (P.info? fd.type).isSome/\(P.underlying fd.type).isSome then match ig cs fd.offset (if cV P fd.type then P.cellsOf fd.type else 1) with
    |some l=>match CL (cV P fd.type) l with
     |some v=>some ⟨v,[],[]⟩
     |none=>none
    |none=>none
   else none
  |none=>none
 |.indexAddr t _ _,[x,.c (.int _ i)]=>IR P t x i m
 |.index t _ _,[x,.c (.int _ i)]=>IS P t x i
 |.lookup t _ _ true,[.c (.mp es),.c (.int .i64 n)]=>match P.underlying t with
  |some (.map k e)=>match P.underlying k,(P.info? e).bind (·.zero) with
   |some (.int .i64),some .nilFunc=>some ⟨.tup [.c (.fs es n),.c (.bool (es.find? (λx=>x.1==n)).isSome)],[],[]⟩
   |_,_=>none
  |_=>none
 |.extract _ i,[.tup vs]=>match vs[i]? with
  |some v=>some ⟨v,[],[]⟩
  |none=>none
 |.typeAssert _ _ ty true,[.c (.ic es _ x)]=>match P.underlying ty with
  |some (.struct _)=>if ((P.info? ty).bind (·.zero)).isSome=true then some ⟨.tup [.dead,.c (.bool (cD es x.1==some ty))],[],[]⟩ else none
  |_=>none
 |.makeFunc (.func f) first _,vs=>if first.size=0 then match (if (Γ f).isSome then vO m vs else lL vs) with
   |some (caps,u)=>some ⟨.c (.fn f caps),u,[]⟩
   |none=>none
  else none
 |.call ⟨.builtin b,_,ts⟩,vs=>O8 P d b ts.toList vs m
 |.call ⟨.invoke _ name,_,_⟩,.c (.ic es t x)::args=>match dK m args,xY P name es with
  |some (args',u),some fs=>match mG Γ x.1 (dE t x.2::args') fs with
   |some ⟨rs,y,n⟩=>some ⟨jg rs y,u,n⟩
   |none=>none
  |_,_=>none
 |.call ⟨.value _,_,_⟩,.c (.fs es n) :: .c (.ptr id 0)::args=>match m id with
  |some (.box e cs)=>match zA Γ n cs args es with
   |some ⟨T,z,ns⟩=>some ⟨.dead,[(id,.box e (enc T z))],ns⟩
   |none=>none
  |_=>none
 |.call ⟨.value _,_,_⟩,fv::args=>match UC Γ fv with
  |some r=>K5 r d args m
  |none=>match dK m args with
   |some (args',u)=>match GS Γ fv args' with
    |some (v,n)=>some ⟨v,u,n⟩
    |none=>none
   |none=>none
 |_,_=>none
def UY (Γ:Gm) (e:TypeId):Option (Nat×Nat):=match Γ.r (1000000000000+e) with
 |some (.rw off inn)=>some (off,inn)
 |_=>none
def KG (e off inn:Nat):Bool:=decide (rY (ed e off inn)=e/\cB (ed e off inn)=off/\jV (ed e off inn)=inn/\cj<=ed e off inn/\ed e off inn<dL/\inn<cj)
def IT (m:aT) (inn:Nat) (t:Ty):AC->Option (List t.den×List (Nat×Ob))
 |.nil=>some ([],[])
 |.own k=>match m k with
  |some (.arr e t' l)=>if h:t'=t then if e=inn then some (cA h l,[(k,.gone)]) else none else none
  |_=>none
 |_=>none
def KM (t:Ty) (off:Nat):Option Ty:=match (enc t t.dflt)[off]? with
 |some (.sl t' _)=>some t'
 |_=>none
def FT (P:Program) (Γ:Gm) (d:Nat) (e:TypeId) (v:AV) (m:aT):Option Eff:=
 match UY Γ e,kg P 20 e,P.info? e,lz v,m d with
 |some (off,inn),some tt,some i,some cs,none=>match KM tt off,cs[off]? with
  |some t',some c=>match IT m inn t' c with
   |some (l,u)=>match dec tt (cs.set off (.sl t' l)) with
    |some (x,[])=>if KG e off inn=true/\i.size=tt.size/\0<tt.size/\i.size<=16777216/\(i.zero.any λz=>z.cells.size==tt.size)=true then
      some ⟨.c (.own d),u++[(d,.arr (ed e off inn) tt [x])],[]⟩ else none
    |_=>none
   |none=>none
  |_,_=>none
 |_,_,_,_,_=>none
def J6 (P:Program) (Γ:Gm) (d:Nat) (t:TypeId) (n c:Int) (m:aT):Option Eff:=
 match P.underlying t with
 |some (.slice e)=>match UY Γ e,P.info? e,kg P 20 e,m d with
  |some (off,inn),some i,some tt,none=>match i.zero with
   |some z=>match lz (lu z) with
    |some cs=>match dec tt cs,cs[off]? with
     |some (x,[]),some .nil=>if KG e off inn=true/\i.size=tt.size/\z.cells.size=tt.size/\0<tt.size then
       some ⟨.c (.own d),[(d,.arr (ed e off inn) tt (List.replicate n.toNat x))],[0<=n/\n<=c/\c<=maxLen/\c*i.bytes<=140737488355328]⟩ else none
     |_,_=>none
    |none=>none
   |none=>none
  |_,_,_,_=>none
 |_=>none
def Jz (P:Program) (d:Nat) (t:TypeId) (id sz i off:Nat) (m:aT):Option Eff:=
 match m id,m d with
 |some (.arr e tt l),none=>match (enc tt (l.getD i tt.dflt))[off]? with
  |some (.sl t' li)=>if cj<=e/\e<dL/\off=cB e/\tt.size=sz/\jV e<cj/\cV P t=false/\(P.info? t).isSome=true/\(P.underlying t).isSome=true then
    some ⟨.c (.own d),[(id,.hole e tt l i),(d,.arr (jV e) t' li)],[i<l.length]⟩ else none
  |_=>none
 |_,_=>none
def Li (P:Program) (t:TypeId) (id sz i off k:Nat) (m:aT):Option Eff:=
 match m id,m k with
 |some (.hole e tt l j),some (.arr e2 t2 l2)=>match KM tt off with
  |some t'=>if t'=t2/\e2=jV e/\e2<cj/\off=cB e/\tt.size=sz/\(P.info? t).isSome=true/\P.cellsOf t=1/\id≠k then
    match dec tt ((enc tt (l.getD i tt.dflt)).set off (.sl t2 l2)) with
    |some (y,[])=>some ⟨.dead,[(k,.gone),(id,.arr e tt (l.set i y))],[i<l.length/\i=j]⟩
    |_=>none
   else none
  |none=>none
 |_,_=>none
def Fw (P:Program) (d:Nat) (t:TypeId) (s:AV) (k:Nat) (m:aT):Option Eff:=
 match P.underlying t with
 |some (.slice e)=>match P.info? e,m k,m d with
  |some i,some (.arr e2 tt l2),none=>if cj<=e2/\e2<dL/\rY e2=e/\i.size=tt.size/\0<tt.size/\(i.zero.any λz=>z.cells.size==tt.size)=true then
   match s with
   |.c .nil=>some ⟨.c (.own d),[(k,.gone),(d,.arr e2 tt l2)],[l2.length<=maxLen/\l2.length*i.bytes<=140737488355328]⟩
   |.c (.own id)=>match m id with
    |some (.arr e3 u l)=>if h:u=tt then if e3=e2/\id≠k then
      some ⟨.c (.own d),[(id,.gone),(k,.gone),(d,.arr e2 tt (cA h l++l2))],[(cA h l).length+l2.length<=maxLen/\((cA h l).length+l2.length)*i.bytes<=140737488355328]⟩ else none else none
    |_=>none
   |_=>none
   else none
  |_,_,_=>none
 |_=>none
def ip (l:List (Int×α)) (n:Int) (z:α):α:=match l.find? (λx=>x.1==n) with
 |some x=>x.2
 |none=>z
def ec:List (Int×α)->Int->α->List (Int×α)
 |[],n,y=>[(n,y)]
 |x::r,n,y=>bif x.1==n then (n,y)::r else x::ec r n y
def yj (P:Program) (t:TypeId):Option (TypeId×Ty):=match P.underlying t with
 |some (.map k e)=>match P.underlying k,kg P 20 e with
  |some (.int .i64),some vt=>if vt.flat=true/\vt.wide=false then some (e,vt) else none
  |_,_=>none
 |_=>none
def J5 (P:Program) (d:Nat) (t:TypeId) (m:aT):Option Eff:=match yj P t,m d with
 |some (_,vt),none=>some ⟨.c (.own d),[(d,.arr dL (.pair (.int .i64) vt) [])],[]⟩
 |_,_=>none
def J1 (P:Program) (t:TypeId) (id:Nat) (n:Int) (m:aT):Option Eff:=match yj P t,m id with
 |some (e,vt),some (.arr b (.pair (.int .i64) vt') l)=>match (P.info? e).bind (·.zero) with
  |some z=>match lB vt' (lu z) with
   |some z0=>if dL<=b/\vt'=vt then some ⟨dE vt' (ip l n z0),[],[]⟩ else none
   |none=>none
  |none=>none
 |_,_=>none
def L7 (P:Program) (t:TypeId) (id:Nat) (n:Int) (v:AV) (m:aT):Option Eff:=match yj P t,m id with
 |some (_,vt),some (.arr b (.pair (.int .i64) vt') l)=>match lB vt' v with
  |some y=>if dL<=b/\vt'=vt then some ⟨.dead,[(id,.arr b (.pair (.int .i64) vt') (ec l n y))],[l.length<maxLen]⟩ else none
  |none=>none
 |_,_=>none
def IQ (P:Program) (t:TypeId) (v:AV):Option Eff:=match P.underlying t,v with
 |some (.pointer _),.c (.ptr id 0)=>some ⟨.c (.ifp t id),[],[]⟩
 |some _,v=>match kg P 20 t with
  |some tt=>match lB tt v with
   |some x=>some ⟨.c (.ic [(1,t)] tt (1,x)),[],[]⟩
   |none=>none
  |none=>none
 |none,_=>none
def Fx (P:Program) (ty:TypeId) (ok:Bool) (es:List (Int×Nat)) (t:Ty) (x:Int×t.den):Option Eff:=
 match P.underlying ty,es with
 |some (.struct _),[(1,_)]=>some ⟨if ok then .tup [dE t x.2,.c (.bool true)] else dE t x.2,[],[cD es x.1=some ty]⟩
 |some (.int _),[(1,_)]=>some ⟨if ok then .tup [dE t x.2,.c (.bool true)] else dE t x.2,[],[cD es x.1=some ty]⟩
 |_,_=>none
def qoi (m:aT):AV->Bool
 |.c (.own id)=>match m id with
  |some (.arr e _ _)=>decide (cj<=e)
  |_=>false
 |_=>false
def J0 (Γ:Gm) (fv:AV) (args:List AV) (m:aT):Option Eff:=if args.any (qoi m) then match fv,dK m args with
 |.c (.fn f caps),some (args',_)=>match Γ f with
  |some ct=>if ct.rs.all Ty.flat then match jf Γ ct.ps (args'++caps.map .c) with
    |some (x,n)=>some ⟨jg ct.rs (ct.f x),[],n++ct.ok x⟩
    |none=>none
   else none
  |none=>none
 |_,_=>none
 else none
def Hh (P:Program) (Γ:Gm) (d:Nat) (op:Op) (vs:List AV) (m:aT):Option Eff:=
 match op,vs with
 |.buildSlice t n ps,[v]=>match P.underlying t with
  |some (.slice e)=>if n=1/\ps.toList.map (·.1)=[0] then FT P Γ d e v m else none
  |_=>none
 |.makeSlice t _ _,[.c (.int _ n),.c (.int _ c)]=>J6 P Γ d t n c m
 |.load t _,[.optr id sz i off]=>Jz P d t id sz i off m
 |.store t _ _,[.optr id sz i off,.c (.own k)]=>Li P t id sz i off k m
 |.call ⟨.builtin .append,_,ts⟩,[s,.c (.own k)]=>match ts.toList with
  |[t,t']=>if t=t' then Fw P d t s k m else none
  |_=>none
 |.makeMap t none,[]=>J5 P d t m
 |.lookup t _ _ false,[.c (.own id),.c (.int .i64 n)]=>J1 P t id n m
 |.mapUpdate t _ _ _,[.c (.own id),.c (.int .i64 n),v]=>L7 P t id n v m
 |.makeInterface t _,[v]=>IQ P t v
 |.typeAssert _ _ ty ok,[.c (.ic es t x)]=>Fx P ty ok es t x
 |.makeFunc (.func f) first caps,[.c (.ptr id 0)]=>if first.size=1/\caps.size=0 then some ⟨.c (.fb f id),[],[]⟩ else none
 |.call ⟨.value _,_,_⟩,fv::args=>J0 Γ fv args m
 |_,_=>none
def Bg (P:Program) (Γ:Gm) (d:Nat) (op:Op) (vs:List AV) (m:aT):Option Eff:=
 match op with
 |.pick c _ _=>match vs with
  |[.c (.bool p),a,b]=>match yA p (Ev c true a) (Ev c false b) with
   |some v=>some ⟨v,[],[]⟩
   |none=>none
  |_=>none
 |op=>if vs.all fX then match Hh P Γ d op vs m with
   |some e=>some e
   |none=>Hg P Γ d op vs m
  else none
def uw (op:Op) (vs:List AV) (m:aT):List Nat:=
 match op with
 |.makeFunc _ _ _=>vs.flatMap uh++(vs.flatMap uh).flatMap (λi=>qnf (m i))
 |.move _=>[]
 |_=>vs.flatMap uh
def jq (ks:List Nat) (m:aT):aT:=λi=>if ks.contains i then m i else none
def nh (sl:Nat->AV):Nat->Tmp->Bool->Option (List (Tmp×Bool×Bool))
 |0,_,_=>none
 |n+1,g,want=>match sl g with
  |.c (.bool b)=>some [(g,want,b)]
  |.maybe g0 w0 (.c (.bool b))=>match nh sl n g0 w0 with
   |some l=>some ((g,want,b)::l)
   |none=>none
  |_=>none
def pZ (gs:List (Tmp×Bool×Bool)):AV->AV
 |.maybe g w v=>if gs.any (λx=>x.1==g&&x.2.1==w) then v else .maybe g w v
 |v=>v
def L4 (gs:List (Tmp×Bool×Bool)) (ns:List Prop):List Prop:=ns.map λp=>gs.foldr (λx q=>x.2.2=x.2.1->q) p
structure Ef where
 dst:Option Tmp
 v:AV
 wr:List (Nat×Ob)
 need:List Prop
 rd:List Tmp
 ks:List Nat
def wh (op:Op):List Tmp:=op.operands.toList.filterMap λ
 |.tmp t=>some t
 |_=>none
def o9 (b:Nat) (o:Oper):Nat:=b+o.dst.getD 1000000
def dY (P:Program) (Γ:Gm) (b:Nat) (ops:List Oper) (o:Oper) (sl:Nat->AV) (m:aT):Option Ef:=
 match o.guard with
 |none=>
  let vs:=o.op.operands.toList.map (gC sl)
  let ks:=o9 b o::uw o.op vs m
  match Bg P Γ (o9 b o) o.op vs (jq ks m) with
  |some e=>some ⟨o.dst,e.v,e.wr,e.need,wh o.op,ks⟩
  |none=>none
 |some (j,want)=>
  match (ops[j]?).bind (·.dst) with
  |some g=>match nh sl 5 g want with
   |some gs=>
    let vs:=o.op.operands.toList.map λx=>pZ gs (gC sl x)
    let ks:=o9 b o::uw o.op vs m
    match Bg P Γ (o9 b o) o.op vs (jq ks m) with
    |some e=>match e.wr with
     |[]=>some ⟨o.dst,.maybe g want e.v,[],L4 gs e.need,gs.map (·.1)++wh o.op,ks⟩
     |_=>none
    |none=>none
   |none=>none
  |none=>none
def e8 (sl:Nat->AV) (d:Option Tmp) (v:AV):Nat->AV:=
 match d with
 |none=>sl
 |some t=>λi=>if i=t then v else sl i
def Ef.go (e:Ef) (s:St):St:=⟨s.n,e8 s.sl e.dst e.v,ax s.mem e.wr,s.gs⟩
def pE (P:Program) (Γ:Gm) (b:Nat) (ops:List Oper):List Oper->St->Option (List Ef×St)
 |[],s=>some ([],s)
 |o::r,s=>match dY P Γ b ops o s.sl s.mem with
  |some e=>match pE P Γ b ops r (e.go s) with
   |some (es,s')=>some (e::es,s')
   |none=>none
  |none=>none
def fW:List Nat->List Oper->List Nat
 |acc,[]=>acc
 |acc,o::r=>fW (acc++[o.after.toList.foldr (λe s=>if Region.binds .any e then 2 ^ e.on ||| acc.getD e.on 0 ||| s else s) 0]) r
def pM (n:Nat):Nat->List Tmp->List Oper->Bool
 |_,_,[]=>true
 |k,W,o::r=>
  (match o.dst with
   |some t=>decide (t<n) && !W.contains t
   |none=>true) &&
  (match o.guard with
   |some (j,_)=>decide (j<k)&&o.after.toList.any λe=>e.on==j&&Region.binds .any e
   |none=>true) &&
  (o.after.toList.all λe=>!Region.binds .any e || decide (e.on<k)) &&
  pM n (k+1) (o.dst.toList++W) r
def jI (e f:Ef):Bool:=
 (match e.dst with
  |some t=>!f.rd.contains t&&(f.dst != some t)
  |none=>true) &&
 (match f.dst with
  |some t=>!e.rd.contains t
  |none=>true) &&
 e.wr.all (λx=>!f.ks.contains x.1&&f.wr.all λy=>x.1 != y.1) &&
 f.wr.all λy=>!e.ks.contains y.1
def CX (k:Nat) (mask:Nat) (f:Ef):Nat->List Ef->Bool
 |_,[]=>true
 |i,e::r=>if i<k then (mask.testBit i || jI e f)&&CX k mask f (i+1) r else true
def r9 (ops:List Oper) (es:List Ef):Bool:=
 let ms:=fW [] ops
 (List.range es.length).all λk=>match es[k]?,ms[k]? with
  |some f,some mask=>CX k mask f 0 es
  |_,_=>false
def iF (sl:Nat->AV):Nat->AV:=λi=>match sl i with
 |.maybe _ _ _=>.dead
 |v=>v
inductive XE where
 |normal
 |exit (id:Nat)
 |ret
 |panic (p:PV)
 |val (v:AV)
 |jump (l:Nat)
inductive Tr where
 |leaf (e:XE) (s:St)
 |br (b:Bool) (x y:Tr)
 |need (p:Prop) (x:Tr)
 |two (p:Prop) (x y:Tr)
def Tr.bind (f:St->Option Tr):Tr->Option Tr
 |.leaf .normal s=>f s
 |.leaf e s=>some (.leaf e s)
 |.br b x y=>match x.bind f,y.bind f with
  |some x',some y'=>some (.br b x' y')
  |_,_=>none
 |.need p x=>match x.bind f with
  |some x'=>some (.need p x')
  |none=>none
 |.two p x y=>match x.bind f,y.bind f with
  |some x',some y'=>some (.two p x' y')
  |_,_=>none
def Tr.bindV (f:AV->St->Option Tr):Tr->Option Tr
 |.leaf (.val v) s=>f v s
 |.leaf (.panic p) s=>some (.leaf (.panic p) s)
 |.leaf _ _=>none
 |.br b x y=>match x.bindV f,y.bindV f with
  |some x',some y'=>some (.br b x' y')
  |_,_=>none
 |.need p x=>match x.bindV f with
  |some x'=>some (.need p x')
  |none=>none
 |.two p x y=>match x.bindV f,y.bindV f with
  |some x',some y'=>some (.two p x' y')
  |_,_=>none
def Tr.block (id:Nat):Tr->Tr
 |.leaf (.exit i) s=>if i=id then .leaf .normal s else .leaf (.exit i) s
 |.leaf e s=>.leaf e s
 |.br b x y=>.br b (x.block id) (y.block id)
 |.need p x=>.need p (x.block id)
 |.two p x y=>.two p (x.block id) (y.block id)
def Tr.scope:Tr->Tr
 |.leaf (.jump _) s=>.need False (.leaf .ret s)
 |.leaf (.val _) s=>.need False (.leaf .ret s)
 |.leaf e s=>.leaf e s
 |.br b x y=>.br b x.scope y.scope
 |.need p x=>.need p x.scope
 |.two p x y=>.two p x.scope y.scope
def ce:Code->Nat
 |.loop _=>1
 |.seq a b=>ce a+ce b
 |.cond _ a b=>ce a+ce b
 |.block _ c=>ce c
 |.scope c=>ce c
 |_=>0
def needL (ns:List Prop) (t:Tr):Tr:=ns.foldr (λp t=>.need p t) t
def JH (es:List Ef) (t:Tr):Tr:=es.foldr (λe t=>needL e.need t) t
def fk (s:St):St:=⟨s.n,iF s.sl,s.mem,s.gs⟩
def Dx (P:Program) (Γ:Gm) (b:Nat) (ops:List Oper) (draw:Bool) (s:St):Option Tr:=
 if pM s.n 0 [] ops then match pE P Γ b ops ops s with
  |some (es,s')=>if draw=false\/r9 ops es=true then some (JH es (.leaf .normal (fk s'))) else none
  |none=>none
 else none
structure Cx where
 Γ:Gm
 Pi:FuncId->Option Pc
 K:Nat->FuncId->List AV->St->Option Tr
def JC (P:Program) (name:String) (ty:TypeId):Option (FuncId×Bool):=
 match P.info? ty,P.underlying ty with
 |some i,some (.pointer el)=>match i.methods.find? (·.name==name) with
  |some mm=>match mm.func with
   |some (f,pr)=>if mm.path.isEmpty=true/\(pr=true\/((P.info? el).isSome=true/\(P.underlying el).isSome=true/\cV P el=false)) then some (f,!pr) else none
   |none=>none
  |none=>none
 |_,_=>none
def ze (P:Program) (C:Cx) (b:Nat) (o:Oper) (s:St):Option Tr:=
 match o.guard,o.op,o.op.operands.toList.map (gC s.sl) with
 |none,.call ⟨.value _,_,_⟩,.c (.fn f caps)::args=>match C.Pi f with
  |some pc=>match dK s.mem (args++caps.map .c) with
   |some (xs,u)=>match jf C.Γ pc.ps xs with
    |some (x,n)=>some (needL (n++pc.ok x) (.br (pc.bad x) (.leaf (.panic (pc.pv x)) (fk ⟨s.n,s.sl,ax s.mem u,s.gs⟩)) (.leaf (.val (jg pc.rs (pc.f x))) (fk ⟨s.n,s.sl,ax s.mem u,s.gs⟩))))
    |none=>none
   |none=>none
  |none=>if args.all fX then C.K (o9 b o) f (args++caps.map .c) (fk s) else none
 |none,.call ⟨.value _,_,_⟩,.c (.fb f id)::args=>if args.all fX then C.K (o9 b o) f (.c (.ptr id 0)::args) (fk s) else none
 |none,.call ⟨.invoke _ name,_,_⟩,.c (.ifp ty id)::args=>match JC P name ty with
  |some (f,true)=>match s.mem id with
   |some (.box _ [.own r])=>if args.all fX then C.K (o9 b o) f (.c (.own r)::args) (fk s) else none
   |_=>none
  |some (f,false)=>if args.all fX then C.K (o9 b o) f (.c (.ptr id 0)::args) (fk s) else none
  |none=>none
 |none,.binOp .eql t _ _ _,[.c (.sl _ l),.c .nil]=>if P.underlying t matches some (.slice _) then
   some (.two (l=[]) (.leaf (.val (.c (.bool true))) (fk s)) (.leaf (.val (.c (.bool false))) (fk s))) else none
 |_,_,_=>none
def uR (P:Program) (C:Cx) (b:Nat) (ops:List Oper):List Oper->St->Option Tr
 |[],s=>some (.leaf .normal (fk s))
 |o::r,s=>match dY P C.Γ b ops o s.sl s.mem with
  |some e=>match uR P C b ops r (e.go s) with
   |some t=>some (needL e.need t)
   |none=>none
  |none=>match ze P C b o s with
   |some t=>t.bindV λv s'=>uR P C b ops r ⟨s'.n,e8 s'.sl o.dst v,s'.mem,s'.gs⟩
   |none=>none
def ux (kn:List (Tmp×Bool)) (t:Tmp):Option Bool:=match kn with
 |[]=>none
 |(x,v)::r=>if x=t then some v else ux r t
def Ao (kn:List (Tmp×Bool)):Operand->Option Bool
 |.tmp t=>ux kn t
 |.const (.bool c)=>some c
 |_=>none
def IC (kn:List (Tmp×Bool)):Op->Option Operand
 |.move x=>some x
 |.pick c x y=>match Ao kn c with
  |some true=>some x
  |some false=>some y
  |none=>none
 |_=>none
def Cb (o:Oper):Oper:=⟨o.dst,o.op,o.type,o.pos,o.after,none⟩
def uQ (P:Program) (C:Cx) (b:Nat) (ops:List Oper) (kn:List (Tmp×Bool)) (o:Oper) (s:St) (k:List (Tmp×Bool)->St->Option Tr):Option Tr:=
 match IC kn o.op,o.dst with
 |some x,some d=>match Ao kn x with
  |some c=>k ((d,c)::kn) ⟨s.n,e8 s.sl (some d) (.c (.bool c)),s.mem,s.gs⟩
  |none=>match gC s.sl x with
   |.maybe _ _ _=>none
   |v=>k kn ⟨s.n,e8 s.sl (some d) v,s.mem,s.gs⟩
 |_,_=>match dY P C.Γ b ops (Cb o) s.sl s.mem with
  |some e=>match k kn (e.go s) with
   |some t=>some (needL e.need t)
   |none=>none
  |none=>match ze P C b (Cb o) s with
   |some t=>t.bindV λv s'=>k kn ⟨s'.n,e8 s'.sl o.dst v,s'.mem,s'.gs⟩
   |none=>none
def kS (P:Program) (C:Cx) (b:Nat) (ops:List Oper):List (Tmp×Bool)->List Oper->St->Option Tr
 |_,[],s=>some (.leaf .normal (fk s))
 |kn,o::r,s=>match o.guard with
  |none=>uQ P C b ops kn o s λkn s=>kS P C b ops kn r s
  |some (j,want)=>match (ops[j]?).bind (·.dst) with
   |none=>none
   |some g=>match ux kn g with
    |some v=>if v=want then uQ P C b ops kn o s λkn s=>kS P C b ops kn r s
     else kS P C b ops kn r ⟨s.n,e8 s.sl o.dst .dead,s.mem,s.gs⟩
    |none=>match s.sl g with
     |.c (.bool p)=>match uQ P C b ops ((g,want)::kn) o s λkn s=>kS P C b ops kn r s,kS P C b ops ((g,!want)::kn) r ⟨s.n,e8 s.sl o.dst .dead,s.mem,s.gs⟩ with
      |some x,some y=>some (.br p (if want then x else y) (if want then y else x))
      |_,_=>none
     |_=>none
def Cc (m:aT) (id:Nat):aT:=match me m (.own id) with
 |some (_,u)=>ax m u
 |none=>m
def xW (s:St):St:=⟨s.n,s.sl,((List.range s.n).flatMap λt=>match s.sl t with
 |.c (.ptr id 0)=>match s.mem id with
  |some (.box _ cs)=>cs.flatMap lH
  |_=>[]
 |_=>[]).foldl Cc s.mem,s.gs⟩
def cr (P:Program) (C:Cx) (bs:Nat) (Λ:Nat->St->Option Tr):Code->Nat->St->Option Tr
 |.skip,_,s=>some (.leaf .normal s)
 |.ret,_,s=>some (.leaf .ret s)
 |.exit id,_,s=>some (.leaf (.exit id) s)
 |.region _ ops draw,_,s=>match Dx P C.Γ bs ops.toList draw s with
  |some t=>some t
  |none=>match (if draw=false/\pM s.n 0 [] ops.toList=true then uR P C bs ops.toList ops.toList s else none) with
   |some t=>some t
   |none=>match (if draw=false/\pM s.n 0 [] ops.toList=true then kS P C bs ops.toList [] ops.toList s else none) with
    |some t=>some t
    |none=>match Dx P C.Γ bs ops.toList draw (xW s) with
     |some t=>some t
     |none=>some (.need False (.leaf .ret s))
 |.seq a b,k,s=>match cr P C bs Λ a k s with
  |some t=>t.bind (cr P C bs Λ b (k+ce a))
  |none=>none
 |.cond c a b,k,s=>match gC s.sl c with
  |.c (.bool p)=>match cr P C bs Λ a k s,cr P C bs Λ b (k+ce a) s with
   |some x,some y=>some (.br p x y)
   |_,_=>none
  |_=>none
 |.block id c,k,s=>match cr P C bs Λ c k s with
  |some t=>some (t.block id)
  |none=>none
 |.loop _,k,s=>match Λ k s with
  |some t=>some t
  |none=>some (.need False (.leaf .ret s))
 |.scope c,k,s=>match cr P C bs Λ c k s with
  |some t=>some t.scope
  |none=>none
 |.label _,_,s=>some (.leaf .normal s)
 |.goto l,_,s=>some (.leaf (.jump l) s)
 |_,_,s=>some (.need False (.leaf .ret s))
def sj (n:Nat) (args:List AV):St:=⟨n,λi=>args.getD i .dead,λ_=>none,λ_=>.dead⟩
def St.at (s:St) (t:Nat):AV:=if t<10000 then s.sl t else s.gs (t-10000)
def U1 (P:Program) (s:St):ResultVar->Option (AV×List Prop)
 |.tmp t=>some (s.sl t,[])
 |.cell a t=>match s.sl a with
  |.c (.ptr id off)=>match CE P t (.c (.ptr id off)) s.mem with
   |some e=>some (e.v,e.need)
   |none=>none
  |_=>none
def gv (P:Program) (s:St):List ResultVar->Option (List AV×List Prop)
 |[]=>some ([],[])
 |r::rs=>match U1 P s r,gv P s rs with
  |some (v,n),some (vs,k)=>some (v::vs,n++k)
  |_,_=>none
def rX:List AV->AV
 |[v]=>v
 |vs=>.tup vs
def St.back (n:Nat) (s:St):St:=⟨n,λt=>if t<10000 then s.gs t else .dead,s.mem,λt=>s.gs (t+10000)⟩
def gn (P:Program) (rv:List ResultVar) (n:Nat):Tr->Option Tr
 |.leaf .ret s=>match gv P s rv with
  |some (vs,ns)=>some (needL ns (.leaf (.val (rX vs)) (s.back n)))
  |none=>none
 |.leaf .normal s=>match gv P s rv with
  |some (vs,ns)=>some (needL ns (.leaf (.val (rX vs)) (s.back n)))
  |none=>none
 |.leaf (.panic p) s=>some (.leaf (.panic p) (s.back n))
 |.leaf _ _=>none
 |.br b x y=>match gn P rv n x,gn P rv n y with
  |some x',some y'=>some (.br b x' y')
  |_,_=>none
 |.need p x=>match gn P rv n x with
  |some x'=>some (.need p x')
  |none=>none
 |.two p x y=>match gn P rv n x,gn P rv n y with
  |some x',some y'=>some (.two p x' y')
  |_,_=>none
def fU (P:Program) (C:Cx) (Xi:FuncId->Option (Func×(Nat->St->Option Tr))) (d:Nat) (f:FuncId) (args:List AV) (s:St):Option Tr:=
 match Xi f with
 |some (fn,Λ)=>match fn.body with
  |some c=>if args.length<=fn.ntmps/\(fn.name == "runtime.NumGoroutine")=false then
    match cr P C ((d+1)*10000) Λ c 0 ⟨fn.ntmps,λi=>args.getD i .dead,s.mem,s.at⟩ with
    |some t=>gn P fn.results.toList s.n t
    |none=>none
   else none
  |none=>none
 |none=>none
section
variable (P:Program) (w:World) (F:Nat->Prop) (R:Nat->Value->Prop)
def bj:List AV->List Value->Prop
 |[],[]=>True
 |a::r,v::s=>aE P w F R a v/\bj r s
 |_,_=>False
end
def Uy:{us:List Value} -> {vs:List AV}->bj P w F R vs us->ln P w F R vs (λj u=>us[j]? = some u)
 |[],[],_=>trivial
 |u::us,v::vs,h=>⟨⟨u,rfl,h.1⟩,by simpa using Uy h.2⟩
 |[],_::_,h=>h.elim
 |_::_,[],h=>h.elim
def sV (P:Program) (B:Nat) (o:Oper) (a:Act) (w:World) (F:Nat->Prop) (γ:Nat->Value) (M:aT) (v:AV) (wr:List (Nat×Ob)):Prop:=
 ∀ (K:Act->World->Prop) (Q:Exit->Act->World->Prop),
  (∀ u w' F' γ',Step B w F γ M w' F' γ' (ax M wr)->MemOK P B w' F' γ' (ax M wr)->aE P w' F' (ap (ax M wr) γ') v u->K (a.put o.dst u) w')->o.wp P a w K Q
section
variable {P:Program} {B:Nat} {o:Oper} {a:Act} {w w':World} {F F':Nat->Prop} {γ γ':Nat->Value} {M m:aT} {R:Nat->Value->Prop}
def ir {v:AV} {wr:List (Nat×Ob)} (hr:(execOp a.eval o).run P w = .ok (.value u) w') (hs:Step B w F γ M w' F' γ' (ax M wr)) (hm:MemOK P B w' F' γ' (ax M wr))
  (ha:aE P w' F' (ap (ax M wr) γ') v u):sV P B o a w F γ M v wr:=by
 intro K Q hK;unfold Oper.wp;rw[hr];exact hK u w' F' γ' hs hm ha
def dl {v:AV} (hm:MemOK P B w F γ M) (hb:∀ b,F b->b<w.heap.size) (hr:(execOp a.eval o).run P w = .ok (.value u) w) (ha:aE P w F (ap M γ) v u):sV P B o a w F γ M v []:=
 ir hr (Step.refl hb) hm ha
def aN.drop_ {cs:List AC} (h:aN P w F R cs g) (n:Nat):aN P w F R (cs.drop n) (λj u=>g (n+j) u):=
 ki _ λj c hc=>h.at_ (by rw[<- hc,ubz])
def aN.take_ {cs:List AC} (h:aN P w F R cs g) (n:Nat):aN P w F R (cs.take n) g:=
 ki _ λj c hc=>h.at_ (by rw[ub0] at hc; split at hc<;>simp_all)
def aN.turn {cs:List AC} {g':Nat->Value->Prop} (h:aN P w F R cs g) (hg:∀ j u,j<cs.length->g j u->g' j u):aN P w F R cs g':=
 ki _ λj c hc=>by
  obtain⟨u,h1,h2⟩:=h.at_ hc;exact⟨u,hg j u (uak.1 hc).1 h1,h2⟩
def aN.vals:(cs:List AC) -> {g:Nat->Value->Prop}->aN P w F R cs g->∃ us:List Value,us.length=cs.length/\(∀ j u,us[j]? = some u->g j u)/\aN P w F R cs (λj u=>us[j]? = some u)/\∀ u∈us,u.oneCell'=true
 |[],_,_=>⟨[],rfl,λj u h=>by simp at h,uT,λu h=>by simp at h⟩
 |c::r,g,h=>by
  obtain⟨⟨u,h1,h2,h3⟩,h4⟩:=h;obtain⟨us,e1,e2,e3,e4⟩:=aN.vals r h4;refine⟨u::us,by simp[e1],λj v hv=>?_,⟨⟨u,rfl,h2,h3⟩,by simpa using e3⟩,λv hv=>?_⟩
  ·cases j with
   |zero=>simp at hv; subst hv; exact h1
   |succ j=>exact e2 j v (by simpa using hv)
  ·rcases uee.1 hv with rfl|hv
   ·exact h2
   ·exact e4 v hv
def uc {cs l:List AC} (h:ig cs off n=some l) (hr:aN P w F R cs g):l.length=n/\aN P w F R l (λj u=>g (off+j) u):=by
 unfold ig at h;split at h
 ·cases h;exact⟨by simp; omega,(hr.drop_ off).take_ n⟩
 ·cases h
def lw {id:Nat} {cs:List AC} (hm:MemOK P B w F γ M) (hM:M id=some (.box e cs)) (h:bc P w F (ap M γ) (.ptr id off) v) :
  ∃ b arr,γ id = .pointer (some ⟨b,0,none⟩)/\v = .pointer (some ⟨b,off,none⟩)/\w.heap[b]? = some (.cells arr e (0,0))/\¬ F b/\B<=b/\arr.size=cs.length/\aN P w F (ap M γ) cs (λj u=>arr[j]? = some u):=by
 obtain⟨b,arr,h1,h2⟩:=hm.ob id _ hM;obtain⟨b',h3,h4⟩:=h;unfold ap at h3;rw[hM] at h3;simp only[h1,ubr,ucj,Addr.mk.injEq,and_true] at h3;subst h3;exact⟨b',arr,h1,h4,h2⟩
def HH {id:Nat} {cs:List AC} (hm:MemOK P B w F γ M) (hM:M id=some (.fbox cs)) (h:bc P w F (ap M γ) (.ptr id off) v) :
  ∃ b,v = .pointer (some ⟨b,off,none⟩)/\F b/\aN P w F (ap M γ) cs (λj u=>w.cell? ⟨b,j,none⟩=some u):=by
 obtain⟨b,h1,h2⟩:=hm.ob id _ hM;obtain⟨b',h3,h4⟩:=h;unfold ap at h3;rw[hM] at h3;simp only[h1,ubr,ucj,Addr.mk.injEq,and_true] at h3;subst h3;exact⟨b',h4,h2⟩
def ez {id:Nat} {o:Ob} (hM:M id=some o) (ho:o ≠ .gone) (h:bc P w F (ap M γ) (.own id) v):v=γ id:=by
 simp only[bc] at h;unfold ap at h;cases o<;>simp_all
def m9 (a:Addr) (i j:Nat):(a.add i).add j=a.add (i+j):=by
 unfold Addr.add;by_cases hi:i=0<;>by_cases hj:j=0<;>simp[hi,ued]
def i8 (b off j:Nat):(⟨b,off,none⟩:Addr).add j=⟨b,off+j,none⟩:=by unfold Addr.add; split<;>simp_all
def tG {fr:Nat×Nat} (h:w.heap[b]? = some (.cells arr e fr)) (j:Nat):w.cell? ⟨b,j,none⟩=arr[j]? := by simp[World.cell?,h]
def qx2 {t:Ty} {l:List t.den} (h:bU w F t l xs) (hi:i<l.length):aN P w F R (enc t (l.getD i t.dflt)) (λj u=>xs[i*t.size+j]? = some u):=by
 have:=h i (l.getD i t.dflt) (by simp[uap hi]);exact aA.enc t _ this
def Vk {t:Ty} {l:List t.den} (h:aA w F (.sl t) l (λ_ u=>u=v)) (hi:i<l.length) :
  ∃ ad c,v = .slice (some ad) l.length c/\F ad.block/\aN P w F R (enc t (l.getD i t.dflt)) (λj u=>w.cell? ((ad.add (i*t.size)).add j)=some u):=by
 obtain⟨A,c,h1,h2,h3,h4⟩:=h;have hx:l[i]? = some (l.getD i t.dflt):=by simp[uap hi]
 obtain⟨ad,rfl,hf,h5⟩:=h4 i _ hx;exact⟨ad,c,h1.symm,hf,(aA.enc t _ h5).turn λj u _ h=>by rw[m9]; exact h⟩
def NI {id:Nat} {t:Ty} {l:List t.den} (hm:MemOK P B w F γ M) (hM:M id=some (.arr ety t l)) (he:ety<cj) (hi:i<l.length) :
  ∃ b c arr,γ id = .slice (some ⟨b,0,none⟩) l.length c/\w.heap[b]? = some (.cells arr ety (0,0))/\¬ F b/\B<=b/\(i+1)*t.size<=arr.size /\
   aN P w F (ap M γ) (enc t (l.getD i t.dflt)) (λj u=>arr[i*t.size+j]? = some u):=by
 obtain⟨xs,h1,h2,h3,h4⟩:=gg.of (hm.ob id _ hM) he;obtain⟨hl,hn|⟨b,cap,cur,hv,hb,hh,hnc,_,hcs,ht⟩⟩:=h1
 ·omega
 ·refine⟨b,cap,cur,hv,hh,h2 b (by rw[hv]; rfl),hb,?_,(qx2 h3 hi).turn λj u hj hu=>?_⟩
  ·rw[hcs];exact ubc _ (by omega)
  ·rw[<- ht,ub0] at hu;split at hu
   ·simpa using hu
   ·cases hu
def Cu:{cs:List AC} -> {ns:List Int}->oU k cs=some ns->cs=ns.map (.int k)
 |[],ns,h=>by simp[oU] at h; subst h; rfl
 |c::r,ns,h=>by
  unfold oU at h;split at h
  ·simp_all
  ·rename_i k' n r' he;cases he;split at h
   ·rename_i hk;subst hk;cases hr:oU k r with
    |none=>rw[hr] at h; simp at h
    |some ms=>
     rw[hr] at h;simp at h;subst h;rw[Cu hr];rfl
   ·cases h
  ·cases h
def Qz {i:Int} {p:Int×Nat}:{cs:List AC} -> {k:Int}->(ji k cs).find? (λx=>x.1==i)=some p->k<=i/\cs[(i-k).toNat]? = some (.fn p.2 [])
 |[],_,h=>by simp[ji] at h
 |c::r,k,h=>by
  have hrest:(ji (k+1) r).find? (λx=>x.1==i)=some p->k<=i/\(c::r)[(i-k).toNat]? = some (.fn p.2 []):=λh'=>by
   obtain⟨h1,h2⟩:=Qz h';refine⟨by omega,?_⟩;rw[show(i-k).toNat=(i-(k+1)).toNat+1 by omega];simpa using h2
  by_cases hc:∃ f,c = .fn f []
  ·obtain⟨f,rfl⟩:=hc;have h':((k,f)::ji (k+1) r).find? (λx=>x.1==i)=some p:=h;rw[List.find?_cons] at h';split at h'
   ·rename_i hk;have hk':k=i:=by simpa using hk
    cases h';rw[hk'];exact⟨ue5 _,by simp⟩
   ·exact hrest h'
  ·have he:ji k (c::r)=ji (k+1) r:=by
    cases c with
    |fn f caps=>cases caps with
     |nil=>exact absurd ⟨f,rfl⟩ hc
     |cons _ _=>rfl
    |_=>rfl
   rw[he] at h;exact hrest h
def Kf {cs cs':List AC} {i:Int} {nn:List Prop} (h:xl.pickI cs n i=some (cs',nn)) (hn:av nn) (hr:aN P w F R cs (λj u=>w.cell? (ad.add j)=some u)) (h0:0<=i) (h1:i<n) :
  aN P w F R cs' (λj u=>w.cell? ((ad.add i.toNat).add j)=some u):=by
 unfold xl.pickI at h;split at h
 ·rename_i k bf hk hseg;split at h
  ·rename_i ns hns;obtain⟨rfl,_⟩:=h;obtain⟨hl,hc⟩:=uc hseg hr;have he:=Cu hns;subst he;have hi:i.toNat<ns.length:=by simp at hl; omega
   obtain⟨u,e1,e2,e3⟩:=hc.at_ (j:=i.toNat) (c:=.int k (ns.getD i.toNat 0)) (by simp[uap hi]);exact⟨⟨u,by show w.cell? ((ad.add i.toNat).add 0)=some u; rw[m9]; simpa using e1,e2,e3⟩,uT⟩
  ·cases h
 ·rename_i bf hk hseg;split at h<;>try trivial
  cases h;obtain⟨p,hp⟩:=uaq.1 hn;obtain⟨hl,hc⟩:=uc hseg hr;obtain⟨h2,h3⟩:=Qz hp;rw[uen] at h3;obtain⟨u,e1,e2,vs,e3,e4,_⟩:=hc.at_ h3;have e5:=Array.size_eq_zero_iff.mp e4;subst e5;refine⟨⟨u,by show w.cell? ((ad.add i.toNat).add 0)=some u; rw[m9]; simpa using e1,e2,?_⟩,uT⟩;show u=ie ((ji 0 bf).find? (λx=>x.1==i));rw[hp,e3];rfl
 ·cases h
def OC {x:AV} {cs:List AC} {n:List Prop} (hm:MemOK P B w F γ M) (hsub:∀ i y,m i=some y->M i=some y) (h:xl m x=some (cs,n)) (hn:av n) (hr:aE P w F (ap M γ) x v) :
  ∃ ad,v = .pointer (some ad)/\aN P w F (ap M γ) cs (λj u=>w.cell? (ad.add j)=some u):=by
 unfold xl at h;split at h
 ·rename_i id off;split at h
  ·rename_i e cs' hmid;cases h;obtain⟨b,arr,_,hv,hh,_,_,_,hc⟩:=lw hm (hsub _ _ hmid) hr.2;exact⟨_,hv,(hc.drop_ off).turn λj u _ hu=>by rw[i8,tG hh]; exact hu⟩
  ·rename_i cs' hmid;cases h;obtain⟨b,hv,_,hc⟩:=HH hm (hsub _ _ hmid) hr.2;exact⟨_,hv,(hc.drop_ off).turn λj u _ hu=>by rw[i8]; exact hu⟩
  ·cases h
 ·rename_i cs';cases h;obtain⟨_,ad,hv,_,hc⟩:=hr;exact⟨ad,hv,hc⟩
 ·rename_i id sz i off;obtain⟨A,n0,c0,h3,h4⟩:=hr;split at h
  ·rename_i e t l hmid;split at h
   ·rename_i hsz;cases h;obtain⟨b,c,arr,e1,e2,_,_,_,e6⟩:=NI hm (hsub _ _ hmid) hsz.1 hn;unfold ap at h3;rw[hsub _ _ hmid] at h3;simp only[e1,ucj] at h3;obtain⟨rfl,_,_⟩:=h3;refine⟨_,h4,(e6.drop_ off).turn λj u _ hu=>?_⟩;rw[m9,i8,tG e2,<- hu,<- hsz.2];congr 1;omega
   ·cases h
  ·rename_i t l hmid;split at h
   ·rename_i hsz;cases h;have hob:=hm.ob id _ (hsub _ _ hmid);obtain⟨ad,c,e1,e2,e3⟩:=Vk hob hn;unfold ap at h3;rw[hsub _ _ hmid] at h3;simp only[e1,ucj] at h3;obtain⟨rfl,_,_⟩:=h3;refine⟨_,h4,(e3.drop_ off).turn λj u _ hu=>?_⟩;rw[m9] at hu |-;rw[<- hu,<- hsz];congr 2;omega
   ·cases h
  ·cases h
 ·rename_i base k i;obtain⟨ad,h1,h2,h3,rfl⟩:=hr;refine⟨_,rfl,?_⟩;split at h
  ·rename_i id off;split at h
   ·rename_i e cs' hmid;obtain⟨b,arr,_,hv,hh,_,_,_,hc⟩:=lw hm (hsub _ _ hmid) h1;simp at hv;subst hv;exact Kf h hn ((hc.drop_ off).turn λj u _ hu=>by rw[i8,tG hh]; exact hu) h2 h3
   ·rename_i cs' hmid;obtain⟨b,hv,_,hc⟩:=HH hm (hsub _ _ hmid) h1;simp at hv;subst hv;exact Kf h hn ((hc.drop_ off).turn λj u _ hu=>by rw[i8]; exact hu) h2 h3
   ·cases h
  ·rename_i cs';obtain⟨ad',hv,_,hc⟩:=h1;simp at hv;subst hv;exact Kf h hn hc h2 h3
  ·cases h
 ·cases h
def yT {d:TypeDesc} (h:P.underlying t=some d):(isAgg t).run P w = .ok (cV P t) w:=by
 unfold isAgg cV;rw[ueo,ud1 h];cases d<;>simp[h]
def gw {i:TypeInfo} (h:P.info? t=some i):(sizeOf t).run P w = .ok (P.cellsOf t) w:=by
 simp[sizeOf,typeInfo,h,Program.cellsOf]
def S2 {x:AV} {e:Eff} (hm:MemOK P B w F γ M) (hsub:∀ i y,m i=some y->M i=some y) (h:CE P t x m=some e) (hn:av e.need) (hr:aE P w F (ap M γ) x v) :
  e.wr=[]/\∃ u,(Instr.loadAt t v).run P w = .ok u w/\aE P w F (ap M γ) e.v u:=by
 unfold CE at h;split at h
 ·rename_i cs n hcs;split at h
  ·rename_i hi;obtain⟨i,hi1⟩:=uaq.1 hi.1;obtain⟨d,hd⟩:=uaq.1 hi.2;split at h
   ·rename_i hw;split at h
    ·rename_i l hl;cases h;obtain⟨ad,rfl,hc⟩:=OC hm hsub hcs hn hr;obtain⟨e1,e2⟩:=uc hl hc;obtain⟨us,f1,f2,f3,_⟩:=e2.vals;refine⟨rfl,.agg us.toArray,?_,us.toArray,rfl,by simpa using f1,by simpa using f3⟩;have hlc:=run_loadCells_list (P:=P) w ad us (λj u hu=>by have:=f2 j u hu; simpa using this);simp[Instr.loadAt,Instr.sureAddr,loadVar,yT hd,hw,gw hi1,<- e1,<- f1,hlc]
    ·cases h
   ·rename_i hw;split at h
    ·rename_i a r;cases h;obtain⟨ad,rfl,⟨u,e1,e2,e3⟩,_⟩:=OC hm hsub hcs hn hr;refine⟨rfl,u,?_,e2,e3⟩;have e1':w.cell? ad=some u:=by simpa[Addr.add] using e1
     have hw':cV P t=false:=by simpa using hw
     simp[Instr.loadAt,Instr.sureAddr,loadVar,yT hd,hw',Sem.run,e1']
    ·cases h
  ·cases h
 ·cases h
end
def gd (k:IntKind) (n:Int):inR k (k.wrap n):=by
 unfold inR IntKind.wrap IntKind.min IntKind.max;cases k<;>simp[IntKind.signed,IntKind.bits]<;>first|omega|(split<;>omega)
def zF (k:IntKind):k.min<=0/\0<=k.max:=by cases k<;>simp[IntKind.min,IntKind.max,IntKind.signed,IntKind.bits]
def zby (k:IntKind) {b:Int} (ha:inR k a):inR k (a.tmod b):=by
 have hz:=zF k;have hn:(a.tmod b).natAbs<=a.natAbs:=by rw[Int.natAbs_tmod]; exact Nat.mod_le _ _
 unfold inR at *;rcases Int.le_total 0 a with h|h
 ·have h1:=Int.tmod_nonneg b h;omega
 ·have h1:0<=(-a).tmod b:=Int.tmod_nonneg b (by omega);rw[Int.neg_tmod] at h1;omega
def qhd (k:IntKind) (n:Nat) (ha:inR k a):inR k (a.fdiv (2 ^ n)):=by
 have hz:=zF k;have hp:(0:Int)<2 ^ n:=Int.pow_pos (by omega);rw[uag _ (by omega)];unfold inR at *;rcases Int.le_total 0 a with h|h
 ·have h1:=udg h (uep hp);have h2:=Int.ediv_le_self (2 ^ n) h;omega
 ·have h1:=Int.ediv_nonpos_of_nonpos_of_neg h (by omega);have h2:a<=a/2 ^ n:=by
   refine Int.le_ediv_of_mul_le hp ?_;have:=Int.mul_le_mul_of_nonpos_left (b:=2 ^ n) (c:=1) h (by omega);omega
  omega
section
variable {P:Program} {B:Nat} {o:Oper} {a:Act} {w w':World} {F F':Nat->Prop} {γ γ':Nat->Value} {M m:aT} {R:Nat->Value->Prop}
def vP {i:TypeInfo} {d:TypeDesc} (hd:P.underlying t=some d) (hi:P.info? t=some i) (hl:off+(if cV P t then P.cellsOf t else 1)<=cs.size) :
  (part t cs off).run P w = .ok (if cV P t then .agg (cs.extract off (off+P.cellsOf t)) else cs.getD off undef) w:=by
 unfold part;rw[ueo,yT hd];cases hw:cV P t
 ·simp only[hw] at hl;have:off<cs.size:=by simp at hl; omega
  simp[this]
 ·simp[gw hi]
def y9 {xs l:List AC} (hn:n=if cV P t then P.cellsOf t else 1) (hs:cs.size=xs.length) (hr:aN P w F R xs (λj u=>cs[j]? = some u)) (h:ig xs off n=some l) :
  off+n<=cs.size/\∃ us:List Value,us.length=l.length/\aN P w F R l (λj u=>us[j]? = some u)/\(if cV P t then .agg (cs.extract off (off+P.cellsOf t)) else cs.getD off undef)=(if cV P t then .agg us.toArray else us.headD undef)/\l.length=n:=by
 have h1:off+n<=xs.length:=by
  unfold ig at h;split at h
  ·assumption
  ·cases h
 obtain⟨e1,e2⟩:=uc h hr;refine⟨by omega,(cs.toList.drop off).take n,by rw[uc2,uc3,e1,ubs]; omega,e2.turn λj u hj hu=>?_,?_,e1⟩
 ·have:j<n:=by omega
  rw[ub0,if_pos this,ubz];simpa using hu
 ·subst hn;split
  ·congr 1;rw[<- uc4];simp[List.extract]
  ·rename_i hw;have h2:off+1<=xs.length:=by simpa[hw] using h1
   have:off<cs.size:=by omega
   simp[Array.getD,this];rw[ual (by simpa using this)];simp
def tQ (d:Nat) (e:TypeId) (n:Nat) (xs ys:Array Value):List Nat->Sem Bool
 |[]=>pure true
 |i::r=>do
  let a <- part e xs (i*n)
  let b <- part e ys (i*n)
  let q <- Op.equalIn d e a b
  if (!q)=true then pure false else tQ d e n xs ys r
def qx7 (d:Nat) (t e:TypeId) (len:Nat) {ti:TypeInfo} (xs ys:Array Value) (ht:P.underlying t=some (.array len e)) (hi:P.info? e=some ti) :
  (Op.equalIn (d+1) t (.agg xs) (.agg ys)).run P w=(tQ d e (P.cellsOf e) xs ys (List.range len)).run P w:=by
 simp only[Op.equalIn,ueo,ud1 ht,uck,gw hi];rw[Std.Legacy.Range.forIn_eq_forIn_range'];have:List.range' 0 len 1=List.range len:=ubk.symm;simp;rw[this];generalize List.range len=l
 induction l generalizing w with
 |nil=>simp[tQ]
 |cons i l ih=>
  simp only[List.forIn_cons,tQ,ueo];generalize (part e xs (i*P.cellsOf e)).run P w=r1;cases r1 with
  |ok a w1=>
   simp only[uck];generalize (part e ys (i*P.cellsOf e)).run P w1=r2;cases r2 with
   |ok b w2=>
    simp only[uck];generalize (Op.equalIn d e a b).run P w2=r3;cases r3 with
    |ok r w3=>
     cases r
     ·simp
     ·simp only[uck,Bool.not_true,ufl,ueq];exact ih
    |halt x w3=>simp
   |halt x w2=>simp
  |halt x w1=>simp
def KE:(n:Nat) -> {t:TypeId} -> {xs ys:List AC} -> {r:Bool}->tR P n t xs ys=some r->(d:Nat)->n<=d->(us vs:List Value)->us.length=xs.length->vs.length=ys.length ->
  aN P w F R xs (λj u=>us[j]? = some u)->aN P w F R ys (λj u=>vs[j]? = some u) ->
  (Op.equalIn d t (if cV P t then .agg us.toArray else us.headD undef) (if cV P t then .agg vs.toArray else vs.headD undef)).run P w = .ok r w
 |0,t,xs,ys,r,h,d,hd,us,vs,hu,hv,hx,hy=>by simp[tR] at h
 |n+1,t,xs,ys,r,h,d,hd,us,vs,hu,hv,hx,hy=>by
  obtain⟨d,rfl⟩:∃ d',d=d'+1:=⟨d-1,by omega⟩;unfold tR at h;split at h
  ·rename_i ht;split at h
   ·rename_i a b;cases h;obtain⟨⟨u,e1,_,rfl⟩,_⟩:=hx;obtain⟨⟨v,f1,_,rfl⟩,_⟩:=hy;have hw:cV P t=false:=by simp[cV,ht]
    have e2:us.headD undef = .bool a:=by cases us<;>simp_all
    have f2:vs.headD undef = .bool b:=by cases vs<;>simp_all
    simp only[hw,e2,f2];exact ucl w d t a b ht
   ·cases h
  ·rename_i k0 ht;split at h
   ·rename_i k a k' b;split at h
    ·rename_i hk;cases h;obtain⟨⟨u,e1,_,rfl,_⟩,_⟩:=hx;obtain⟨⟨v,f1,_,rfl,_⟩,_⟩:=hy;have hw:cV P t=false:=by simp[cV,ht]
     have e2:us.headD undef = .int k a:=by cases us<;>simp_all
     have f2:vs.headD undef = .int k b:=by cases vs<;>simp_all
     simp only[hw,e2,f2];exact run_equalIn_int w d t k k0 a b ht
    ·cases h
   ·cases h
  ·rename_i fs ht;split at h
   ·cases h
   ·rename_i hst;have hw:cV P t=true:=by simp[cV,ht]
    simp only[hw,if_true];have hfo:P.fieldsOf t=fs:=by simp[Program.fieldsOf,ht]
    rw[run_equalIn_struct w d t us.toArray vs.toArray (by rw[hfo]; exact ht) (by simpa using hst),hfo];generalize fs.toList=l at h
    induction l generalizing r with
    |nil=>
     simp at h;subst h;simp[Op.eqFields]
    |cons f l ih=>
     simp at h;split at h
     ·rename_i hf;simp only[Op.eqFields,hf];simpa using ih _ h
     ·rename_i hf;split at h
      ·rename_i hi;obtain⟨di,hi1⟩:=uaq.1 hi.1;obtain⟨ti,hi2⟩:=uaq.1 hi.2;split at h
       ·rename_i x y hgx hgy;split at h
        ·rename_i p q hp hq;cases h;obtain⟨b1,us',b2,b3,b4,b5⟩:=y9 (cs:=us.toArray) rfl (by simpa using hu) (by simpa using hx) hgx;obtain⟨c1,vs',c2,c3,c4,c5⟩:=y9 (cs:=vs.toArray) rfl (by simpa using hv) (by simpa using hy) hgy;have hrec:=KE n hp d (by omega) us' vs' b2 c2 b3 c3;simp only[Op.eqFields,if_pos hf,ueo,vP hi1 hi2 b1,vP hi1 hi2 c1,uck,b4,c4,hrec];cases p
         ·simp
         ·simpa using ih _ hq
        ·cases h
       ·cases h
      ·cases h
  ·rename_i len e ht;split at h
   ·rename_i hi;obtain⟨di,hi1⟩:=uaq.1 hi.1;obtain⟨ti,hi2⟩:=uaq.1 hi.2;have hw:cV P t=true:=by simp[cV,ht]
    simp only[hw,if_true];rw[qx7 d t e len us.toArray vs.toArray ht hi2];generalize List.range len=l at h
    induction l generalizing r with
    |nil=>
     simp at h;subst h;simp[tQ]
    |cons i l ih=>
     simp at h;split at h
     ·rename_i x y hgx hgy;split at h
      ·rename_i p q hp hq;cases h;obtain⟨b1,us',b2,b3,b4,b5⟩:=y9 (cs:=us.toArray) rfl (by simpa using hu) (by simpa using hx) hgx;obtain⟨c1,vs',c2,c3,c4,c5⟩:=y9 (cs:=vs.toArray) rfl (by simpa using hv) (by simpa using hy) hgy;have hrec:=KE n hp d (by omega) us' vs' b2 c2 b3 c3;simp only[tQ,ueo,vP hi1 hi2 b1,vP hi1 hi2 c1,uck,b4,c4,hrec];cases p
       ·simp
       ·simpa using ih _ hq
      ·cases h
     ·cases h
   ·cases h
  ·cases h
def qdx {op:BinOp} {r:Bool} (h:Hd op x y=some r) (t:TypeId) (X Y:Operand) :
  (do eqGuard op t X Y (.int k x) (.int k y); binOp op t (.int k x) (.int k y):Sem Value).run P w = .ok (.bool r) w:=by
 unfold Hd at h;split at h<;>simp at h<;>subst h<;>simp[ud2,binOp,Op.intCmp]
def qbm {op:BinOp} {x y:AV} {vy:Value} {c:AC} {n:List Prop} (h:F6 P op t x y=some (c,n)) (hn:av n) (hx:aE P w F R x vx) (hy:aE P w F R y vy) (X Y:Operand) :
  ∃ u,(do eqGuard op t X Y vx vy; binOp op t vx vy:Sem Value).run P w = .ok u w/\u.oneCell'=true/\bc P w F R c u:=by
 unfold F6 at h;split at h
 ·rename_i k a k' b;obtain⟨_,rfl,ha⟩:=hx;obtain⟨_,rfl,hb⟩:=hy;split at h
  ·rename_i hk;have key:∀ op',op'=op->(op' ≠ .shl/\op' ≠ .shr)->k=k':=by
    rintro op' rfl ⟨h1,h2⟩;rcases hk with hk|hk
    ·exact hk
    ·cases op'<;>simp_all[RS]
   unfold NU at h;split at h
   ·obtain rfl:=key _ rfl (by simp);cases h;exact⟨_,by simp[ud2,binOp,Op.intArith],rfl,rfl,gd _ _⟩
   ·obtain rfl:=key _ rfl (by simp);cases h;exact⟨_,by simp[ud2,binOp,Op.intArith],rfl,rfl,gd _ _⟩
   ·obtain rfl:=key _ rfl (by simp);cases h;exact⟨_,by simp[ud2,binOp,Op.intArith],rfl,rfl,gd _ _⟩
   ·obtain rfl:=key _ rfl (by simp);cases h;exact⟨_,by have hn:=hn; simp only[av] at hn; simp[ud2,binOp,Op.intDiv,hn],rfl,rfl,gd _ _⟩
   ·obtain rfl:=key _ rfl (by simp);cases h;exact⟨_,by have hn:=hn; simp only[av] at hn; simp[ud2,binOp,Op.intDiv,hn],rfl,rfl,zby _ ha⟩
   ·obtain rfl:=key _ rfl (by simp);cases h;exact⟨_,by simp[ud2,binOp,Op.intBits],rfl,rfl,gd _ _⟩
   ·obtain rfl:=key _ rfl (by simp);cases h;exact⟨_,by simp[ud2,binOp,Op.intBits],rfl,rfl,gd _ _⟩
   ·obtain rfl:=key _ rfl (by simp);cases h;exact⟨_,by simp[ud2,binOp,Op.intBits],rfl,rfl,gd _ _⟩
   ·obtain rfl:=key _ rfl (by simp);cases h;exact⟨_,by simp[ud2,binOp,Op.intBits],rfl,rfl,gd _ _⟩
   ·cases h;exact⟨_,by have hn:=hn; simp only[av] at hn; simp[ud2,binOp,Op.shift,hn],rfl,rfl,gd _ _⟩
   ·cases h;exact⟨_,by have hn:=hn; simp only[av] at hn; simp[ud2,binOp,Op.shift,hn],rfl,rfl,qhd _ _ ha⟩
   ·obtain rfl:=key _ rfl ⟨by assumption,by assumption⟩;split at h
    ·rename_i r hr;cases h;exact⟨_,qdx hr t X Y,rfl,rfl⟩
    ·cases h
  ·cases h
 ·rename_i a b;obtain⟨_,rfl⟩:=hx;obtain⟨_,rfl⟩:=hy;split at h
  ·split at h
   ·rename_i ht;simp only at h; obtain⟨rfl,rfl⟩:=h;have ht':P.underlying t=some .bool:=by revert ht; cases P.underlying t with
     |none=>simp
     |some d=>cases d<;>simp
    exact⟨_,by simp[eqGuard_at_bool,binOp,Op.equal,Op.maxDepth,ucl w 9999 t a b ht'],rfl,rfl⟩
   ·cases h
  ·split at h
   ·rename_i ht;simp only at h; obtain⟨rfl,rfl⟩:=h;have ht':P.underlying t=some .bool:=by revert ht; cases P.underlying t with
     |none=>simp
     |some d=>cases d<;>simp
    exact⟨_,by simp[eqGuard_at_bool,binOp,Op.equal,Op.maxDepth,ucl w 9999 t a b ht'],rfl,rfl⟩
   ·cases h
  ·cases h
 ·rename_i xs ys;obtain⟨us,rfl,e1,e2⟩:=hx;obtain⟨vs,rfl,f1,f2⟩:=hy;split at h
  ·rename_i hg;split at h
   ·rename_i r hr;have hq:=KE 20 hr 10000 (by omega) us.toList vs.toList (by simpa using e1) (by simpa using f1) (by simpa using e2) (by simpa using f2);simp only[hg.2,if_true] at hq;split at h
    ·cases h;exact⟨_,by simp[run_eqGuard_agg w _ t X Y us vs hg.1,run_eql_struct,hq],rfl,rfl⟩
    ·cases h;exact⟨_,by simp[run_eqGuard_agg w _ t X Y us vs hg.1,run_neq_struct,hq],rfl,rfl⟩
    ·cases h
   ·cases h
  ·cases h
 ·cases h
end
section
variable {P:Program} {B:Nat} {o:Oper} {a:Act} {w w':World} {F F':Nat->Prop} {γ γ':Nat->Value} {M m:aT} {R:Nat->Value->Prop}
def N7 (v:Value):bc P w F R (wF v) v:=by
 unfold wF;split
 ·split
  ·rename_i h;exact⟨rfl,h⟩
  ·trivial
 ·rfl
 ·split
  ·rename_i h;exact⟨rfl,h⟩
  ·trivial
 ·rfl
 ·trivial
def qab (vs:List Value) (h:∀ v∈vs,v.oneCell'=true):aN P w F R (vs.map wF) (λj u=>vs[j]? = some u):=
 ki _ λj c hc=>by
  rw[ucm] at hc;cases hv:vs[j]? with
  |none=>rw[hv] at hc; simp at hc
  |some v=>
   rw[hv] at hc;simp at hc;subst hc;exact⟨v,rfl,h v (ube hv),N7 v⟩
def tf (v:Value):aE P w F R (lu v) v:=by
 unfold lu;split
 ·rename_i cs;split
  ·rename_i h;refine⟨cs,rfl,by simp,?_⟩;have:=qab (P:=P) (w:=w) (F:=F) (R:=R) cs.toList (λv hv=>uc5.1 h v hv);simpa using this
  ·trivial
 ·trivial
 ·rename_i h1 h2;refine⟨?_,N7 v⟩;cases v<;>first|rfl|(exact absurd rfl (h1 _))|(exact absurd rfl (h2 _))
def o6 {x:AV} {cs:List AC} (h:lz x=some cs) (hr:aE P w F R x v):v.cells.size=cs.length/\aN P w F R cs (λj u=>v.cells[j]? = some u)/\(∀ u∈v.cells,u.oneCell'=true):=by
 unfold lz at h;split at h
 ·cases h;have hv:v.cells = #[v]:=by
   have:=hr.1;cases v<;>first|rfl|simp[Value.oneCell'] at this
  rw[hv];exact⟨rfl,⟨⟨v,rfl,hr.1,hr.2⟩,uT⟩,by simpa using hr.1⟩
 ·cases h;obtain⟨arr,rfl,h1,h2⟩:=hr;refine⟨h1,h2,λu hu=>?_⟩;obtain⟨us,e1,e2,e3,e4⟩:=h2.vals;have:us=arr.toList:=by
   apply List.ext_getElem?;intro j;rcases uel j us.length with hj|hj
   ·have:=e2 j us[j] (uap hj);rw[uap hj,<- this];simp
   ·rw[ua3 hj,ua3 (by simp; omega)]
  subst this;exact e4 u (ubf.2 hu)
 ·cases h
def Ij (vs:List Value) (off:Nat):∀ (k:Nat) (cs:Array Value),
  ((vs.zipIdx k).foldl (λcs (x:Value×Nat)=>cs.setIfInBounds (off+x.2) x.1) cs).size=cs.size /\
  ∀ j,((vs.zipIdx k).foldl (λcs (x:Value×Nat)=>cs.setIfInBounds (off+x.2) x.1) cs)[j]? = if off+k<=j/\j<off+k+vs.length/\j<cs.size then vs[j-(off+k)]? else cs[j]? := by
 induction vs with
 |nil=>
  intro k cs;refine⟨rfl,λj=>?_⟩;simp only[List.zipIdx_nil,List.foldl_nil,udh];rw[if_neg (by omega)]
 |cons v vs ih=>
  intro k cs;obtain⟨e1,e2⟩:=ih (k+1) (cs.setIfInBounds (off+k) v);simp;refine⟨by rw[e1]; simp,λj=>?_⟩;rw[e2];simp;by_cases h1:off+(k+1)<=j/\j<off+(k+1)+vs.length/\j<cs.size
  ·rw[if_pos h1,if_pos (by omega)];rw[show j-(off+k)=(j-(off+(k+1)))+1 from by omega,List.getElem?_cons_succ]
  ·rw[if_neg h1];by_cases h2:j=off+k
   ·subst h2;by_cases h3:off+k<cs.size
    ·rw[if_pos (by omega)];simp[h3]
    ·rw[if_neg (by omega)];simp[h3]
   ·rw[uaa (by omega),if_neg (by omega)]
def Dt {cs cs' new:List AC} {g':Nat->Value->Prop} (h:nw cs off new=some cs') (hc:aN P w F R cs g) (hn:aN P w F R new (λj u=>g' (off+j) u))
  (ho:∀ j u,(j<off\/off+new.length<=j)->g j u->g' j u):cs'.length=cs.length/\aN P w F R cs' g':=by
 unfold nw at h;split at h
 ·rename_i hl;cases h;refine⟨by simp; omega,ki _ λj c hj=>?_⟩;rcases uel j off with h1|h1
  ·rw[uaj (by simp; omega),uaj (by simp; omega),ub0,if_pos h1] at hj;obtain⟨u,e1,e2⟩:=hc.at_ hj;exact⟨u,ho j u (.inl h1) e1,e2⟩
  ·rcases uel j (off+new.length) with h2|h2
   ·rw[uaj (by simp; omega),uae (by simp; omega)] at hj;simp at hj;rw[show j-min off cs.length=j-off from by omega] at hj;obtain⟨u,e1,e2⟩:=hn.at_ hj;rw[show off+(j-off)=j from by omega] at e1;exact⟨u,e1,e2⟩
   ·rw[uae (by simp; omega),ubz] at hj;rw[show off+new.length+(j-(cs.take off++new).length)=j from by simp; omega] at hj;obtain⟨u,e1,e2⟩:=hc.at_ hj;exact⟨u,ho j u (.inr h2) e1,e2⟩
 ·cases h
def Qs {pl:Nat->Option (Nat×Nat)}:{parts:List (Nat×AV)} -> {ps:List (Nat×Value)} -> {cs cs':List AC} -> {arr:Array Value}->xA pl cs parts=some cs'->ps.length=parts.length ->
  (∀ (k i:Nat) (x:AV) (v:Nat×Value),parts[k]? = some (i,x)->ps[k]? = some v->v.1=i/\aE P w F R x v.2)->arr.size=cs.length->aN P w F R cs (λj u=>arr[j]? = some u) ->
  ∃ arr',Instr.fill pl arr ps=some arr'/\arr'.size=cs'.length/\aN P w F R cs' (λj u=>arr'[j]? = some u)
 |[],[],cs,cs',arr,h,_,_,hs,hc=>by
  simp only[xA,ucj] at h;subst h;exact⟨arr,rfl,hs,hc⟩
 |(i,x)::r,(i',v)::ps,cs,cs',arr,h,hl,hp,hs,hc=>by
  obtain⟨rfl,hv⟩:=hp 0 i x (i',v) rfl rfl;simp only at hv;simp only[xA] at h;split at h
  ·rename_i off n new hpl hnew;split at h
   ·rename_i hn;split at h
    ·rename_i cs1 hput;obtain⟨e1,e2,_⟩:=o6 hnew hv;have hb:off+new.length<=cs.length:=by
      unfold nw at hput;split at hput
      ·assumption
      ·cases hput
     obtain⟨f1,f2⟩:=Ij v.cells.toList off 0 arr;have hz:v.cells.zipIdx.foldl (λcs (x:Value×Nat)=>cs.setIfInBounds (off+x.2) x.1) arr=(v.cells.toList.zipIdx 0).foldl (λcs (x:Value×Nat)=>cs.setIfInBounds (off+x.2) x.1) arr:=by
      rw[<- Array.foldl_toList,Array.toList_zipIdx]
     obtain⟨g1,g2⟩:=Dt (g':=λj u=>((v.cells.toList.zipIdx 0).foldl (λcs (x:Value×Nat)=>cs.setIfInBounds (off+x.2) x.1) arr)[j]? = some u) hput hc
      (e2.turn λj u hj hu=>by
       simp only[f2];rw[if_pos (by simp; omega)];simpa using hu)
      (λj u hj hu=>by
       simp only[f2];rw[if_neg (by simp; omega)];exact hu)
     obtain⟨arr',k1,k2,k3⟩:=Qs h (by simpa using hl) (λk i x v h1 h2=>hp (k+1) i x v (by simpa using h1) (by simpa using h2)) (by rw[f1,hs,g1]) g2;refine⟨arr',?_,k2,k3⟩;simp only[Instr.fill,hpl];rw[if_neg (by simp; omega)];rw[<- k1];congr 1
    ·cases h
   ·cases h
  ·cases h
 |[],_::_,_,_,_,_,hl,_,_,_=>by simp at hl
 |_::_,[],_,_,_,_,hl,_,_,_=>by simp at hl
def qx9 (fs:List Field) (h:∀ f∈fs,(P.info? f.type).isSome=true) :
  (fs.mapM (m:=Sem) λf=>(do pure (f.offset,<- sizeOf f.type):Sem (Nat×Nat))).run P w = .ok (fs.map λf=>(f.offset,P.cellsOf f.type)) w:=by
 induction fs with
 |nil=>simp
 |cons f fs ih=>
  obtain⟨i,hi⟩:=uaq.1 (h f (by simp));rw[List.mapM_cons];have ih':=ih (λg hg=>h g (by simp[hg]));rw[ueo,ueo,gw hi];simp only[uck,ueq];rw[ueo,ih'];simp
def qbq {parts:List (Nat×AV)} {ps:Array (Nat×Value)} {x:AV} (h:FS P t parts=some x) (hl:ps.size=parts.length)
  (hp:∀ (k i:Nat) (x:AV) (v:Nat×Value),parts[k]? = some (i,x)->ps[k]? = some v->v.1=i/\aE P w F R x v.2) :
  ∃ u,(Instr.build t ps).run P w = .ok u w/\aE P w F R x u:=by
 unfold FS at h;split at h
 ·rename_i z pl hz hpl;split at h
  ·rename_i cs hcs;split at h
   ·rename_i cs' hfill;cases h;cases hi:P.info? t with
    |none=>simp[hi] at hz
    |some ti=>
     simp only[hi,uc7] at hz;have hzr:=tf (P:=P) (w:=w) (F:=F) (R:=R) z;obtain⟨e1,e2,_⟩:=o6 hcs hzr;have hzv:(zeroValue t).run P w = .ok z w:=by simp[zeroValue,typeInfo,hi,hz]
     obtain⟨arr',k1,k2,k3⟩:=Qs (ps:=ps.toList) hfill (by simpa using hl) (λk i x v h1 h2=>hp k i x v h1 (by simpa using h2)) e1 e2;refine⟨.agg arr',?_,arr',rfl,k2,k3⟩;unfold Uc at hpl;split at hpl
     ·rename_i fs hfs;split at hpl
      ·rename_i hall;cases hpl;have hm:=qx9 (w:=w) fs.toList (λf hf=>uc5.1 hall f hf);have hm':(fs.mapM λ(f:Field)=>(do pure (f.offset,<- sizeOf f.type):Sem (Nat×Nat))).run P w = .ok (fs.map λ(f:Field)=>(f.offset,P.cellsOf f.type)) w:=by
        rw[Array.mapM_eq_mapM_toList];rw[Sem.run_map,hm];simp only[uck];congr 1;rw[<- uc4];simp
       have:(λ(i:Nat)=>(fs.map λ(f:Field)=>(f.offset,P.cellsOf f.type))[i]?)=(λi=>(fs[i]?).map λf=>(f.offset,P.cellsOf f.type)):=by
        simp
       simp only[Instr.build,ueo,hzv,uck,ud1 hfs];rw[hm'];simp only[uck,this,k1];rfl
      ·cases hpl
     ·rename_i len e hfs;split at hpl
      ·rename_i hie;obtain⟨ei,hei⟩:=uaq.1 hie;cases hpl;simp[Instr.build,hzv,ud1 hfs,gw hei,k1]
      ·cases hpl
     ·cases hpl
   ·cases h
  ·cases h
 ·cases h
end
section
variable {P:Program} {B:Nat} {o:Oper} {a:Act} {w w':World} {F F':Nat->Prop} {γ γ':Nat->Value} {M m:aT} {R:Nat->Value->Prop}
def Qp {s:TypeId} {f:Nat} {fd:Field} (h:tW P s f=some fd):∃ fs,P.underlying s=some (.struct fs)/\fs[f]? = some fd:=by
 unfold tW at h;split at h
 ·exact⟨_,by assumption,h⟩
 ·cases h
def qx8 {fd:Field} {i:TypeInfo} (hi:P.info? fd.type=some i) (hs:P.cellsOf fd.type≠0):(fieldPlace ad fd).run P w = .ok (ad.add fd.offset) w:=by
 simp[fieldPlace,gw hi,hs]
def KF {s:TypeId} {f:Nat} {fd:Field} (h:tW P s f=some fd) (hi:(P.info? fd.type).isSome=true) (hs:P.cellsOf fd.type≠0) :
  (Instr.fieldAt s (.pointer (some ad)) f).run P w = .ok (.pointer (some (ad.add fd.offset))) w:=by
 obtain⟨fs,h1,h2⟩:=Qp h;obtain⟨i,hi'⟩:=uaq.1 hi;simp[Instr.fieldAt,ud1 h1,h2,Instr.sureAddr,qx8 hi' hs]
def qp (ad:Addr) (n:Nat):(ad.add n).block=ad.block:=by unfold Addr.add; split<;>rfl
def qkn {s:TypeId} {f:Nat} {x y:AV} (h:Ie P s x f=some y) (hr:aE P w F R x v) :
  ∃ u,(Instr.fieldAt s v f).run P w = .ok u w/\aE P w F R y u:=by
 unfold Ie at h;split at h
 ·rename_i fd hf;split at h
  ·rename_i hc;split at h<;>try trivial
   ·rename_i id off;cases h;obtain⟨_,b,h1,rfl⟩:=hr;exact⟨_,KF hf hc.1 hc.2,rfl,b,h1,by rw[i8]⟩
   ·rename_i cs;cases h;obtain⟨_,ad,rfl,h2,h3⟩:=hr;exact⟨_,KF hf hc.1 hc.2,rfl,_,rfl,by rw[qp]; exact h2,(h3.drop_ _).turn λj u _ hu=>by rw[m9]; exact hu⟩
   ·rename_i id sz i off;cases h;obtain⟨A,n,c,h1,rfl⟩:=hr;exact⟨_,KF hf hc.1 hc.2,A,n,c,h1,by rw[m9,ued]⟩
  ·cases h
 ·cases h
def quf {wide:Bool} {cs:List AC} {x:AV} {us:List Value} (h:CL wide cs=some x) (hl:us.length=cs.length) (hr:aN P w F R cs (λj u=>us[j]? = some u)) :
  aE P w F R x (if wide then .agg us.toArray else us.headD undef):=by
 unfold CL at h;cases wide
 ·simp only[ub1,ufl] at h |-;split at h
  ·rename_i c;cases h;obtain⟨⟨u,e1,e2,e3⟩,_⟩:=hr;have:us.headD undef=u:=by cases us<;>simp_all
   rw[this];exact⟨e2,e3⟩
  ·cases h
 ·simp at h |-;subst h;exact⟨us.toArray,rfl,by simpa using hl,by simpa using hr⟩
def qko {s:TypeId} {f:Nat} {fd:Field} {cs l:List AC} {x:AV} (hf:tW P s f=some fd) (hi:(P.info? fd.type).isSome=true/\(P.underlying fd.type).isSome=true)
  (hg:ig cs fd.offset (if cV P fd.type then P.cellsOf fd.type else 1)=some l) (hx:CL (cV P fd.type) l=some x) (hr:aE P w F R (.agg cs) v) :
  ∃ u,(Instr.field s v f).run P w = .ok u w/\aE P w F R x u:=by
 obtain⟨fs,h1,h2⟩:=Qp hf;obtain⟨i,hi1⟩:=uaq.1 hi.1;obtain⟨d,hi2⟩:=uaq.1 hi.2;obtain⟨arr,rfl,e1,e2⟩:=hr;obtain⟨b1,us,b2,b3,b4,_⟩:=y9 rfl e1 e2 hg;refine⟨_,?_,quf hx b2 b3⟩;simp only[Instr.field,ueo,ud1 h1,uck,h2,asAgg,ueq,vP hi2 hi1 b1,b4]
def R3 {ti:TypeInfo} {i:Int} (ht:P.underlying t=some (.slice e)) (he:P.info? e=some ti) (h:0<=i/\i<n) :
  (Instr.indexAt t (.slice (some ad) n c) (.int k i)).run P w = .ok (.pointer (some (ad.add (i.toNat*P.cellsOf e)))) w:=by
 simp[Instr.indexAt,ud1 ht,asIntOf,h,gw he]
def Co {ti:TypeInfo} {i:Int} (ht:P.underlying t=some (.array n e)) (he:P.info? e=some ti) (h:0<=i/\i<n) :
  (Instr.indexAt t (.pointer (some ad)) (.int k i)).run P w = .ok (.pointer (some (ad.add (i.toNat*P.cellsOf e)))) w:=by
 simp[Instr.indexAt,ud1 ht,asIntOf,Instr.sureAddr,h,gw he]
def KU {tt:Ty} {l:List tt.den} {v:Value} {t e:TypeId} {ti:TypeInfo} {k:IntKind} {i:Int} (hr:aA w F (.sl tt) l (λ_ u=>u=v)) (ht:P.underlying t=some (.slice e)) (he:P.info? e=some ti)
  (hs:tt.size=P.cellsOf e) (hi:0<=i/\i<l.length):∃ u,(Instr.indexAt t v (.int k i)).run P w = .ok u w/\aE P w F R (.c (.sptr (enc tt (l.getD i.toNat tt.dflt)))) u:=by
 obtain⟨ad,c,rfl,h2,h3⟩:=Vk (i:=i.toNat) hr (by omega);exact⟨_,R3 ht he hi,rfl,_,rfl,by rw[qp]; exact h2,h3.turn λj u _ hu=>by rw[<- hs]; exact hu⟩
def TM {id sz:Nat} {e':TypeId} {o:Ob} {ti:TypeInfo} {i:Int} (h:w.ownsRow B e' sz (γ id) n xs) (hM:M id=some o) (ho:o ≠ .gone)
  (hs:sz=P.cellsOf e) (ht:P.underlying t=some (.slice e)) (he:P.info? e=some ti) (hi:0<=i/\i<n) (hr:aE P w F (ap M γ) (.c (.own id)) v) :
  ([]:List (Nat×Ob))=[]/\∃ u,(Instr.indexAt t v (.int k i)).run P w = .ok u w/\aE P w F (ap M γ) (.optr id sz i.toNat 0) u:=by
 have hv:=ez hM ho hr.2;subst hv;obtain⟨_,⟨_,rfl⟩|⟨b,c,cur,e1,_⟩⟩:=h
 ·omega
 ·refine⟨rfl,_,by rw[e1]; exact R3 ht he hi,⟨b,0,none⟩,n,c,?_,by rw[<- hs]; rfl⟩;have:=hr.2;simp only[bc] at this;rw[e1] at this;exact this
def qnq {x:AV} {i:Int} {e:Eff} (hm:MemOK P B w F γ M) (hsub:∀ i y,m i=some y->M i=some y) (h:IR P t x i m=some e) (hn:av e.need) (hr:aE P w F (ap M γ) x v) :
  e.wr=[]/\∃ u,(Instr.indexAt t v (.int k i)).run P w = .ok u w/\aE P w F (ap M γ) e.v u:=by
 unfold IR at h;split at h
 ·rename_i el ht;split at h
  ·rename_i hel;obtain⟨ti,he⟩:=uaq.1 hel;split at h<;>try trivial
   ·rename_i id;split at h<;>try trivial
    ·rename_i ety tt l hmid;split at h<;>try trivial
     rename_i hs;cases h;obtain⟨e',xs,h1,_⟩:=UD (hm.ob id _ (hsub _ _ hmid)) hs.1;exact TM h1 (hsub _ _ hmid) (by simp) hs.2 ht he hn hr
    ·rename_i ety tt l j hmid;split at h<;>try trivial
     rename_i hs;cases h;obtain⟨_,_,xs,h1⟩:=hm.ob id _ (hsub _ _ hmid);exact TM h1.own (hsub _ _ hmid) (by simp) hs ht he hn hr
    ·rename_i tt l hmid;split at h<;>try trivial
     rename_i hs;cases h;have hv:=ez (hsub _ _ hmid) (by simp) hr.2;subst hv;exact⟨rfl,KU (hm.ob id _ (hsub _ _ hmid)) ht he hs hn⟩
   ·rename_i tt l;split at h<;>try trivial
    rename_i hs;cases h;exact⟨rfl,KU (by simpa only[bc] using hr.2) ht he hs hn⟩
   ·rename_i tt l;split at h<;>try trivial
    rename_i hs;cases h;obtain⟨_,A,_,h2⟩:=hr;exact⟨rfl,KU h2 ht he hs hn⟩
  ·cases h
 ·rename_i n el ht;split at h
  ·rename_i hel;obtain⟨ti,he⟩:=uaq.1 hel;split at h
   ·rename_i h1;split at h<;>try trivial
    ·rename_i id off;cases h;obtain⟨_,b,f1,rfl⟩:=hr;exact⟨rfl,_,Co ht he hn,⟨b,off,none⟩,⟨b,f1,rfl⟩,hn.1,hn.2,by rw[h1,Nat.mul_one]⟩
    ·rename_i cs;cases h;obtain⟨_,ad,rfl,f2,f3⟩:=hr;exact⟨rfl,_,Co ht he hn,ad,⟨ad,rfl,f2,f3⟩,hn.1,hn.2,by rw[h1,Nat.mul_one]⟩
   ·split at h<;>try trivial
    rename_i k';split at h<;>try trivial
    rename_i hk;have hb:(0:Int)<=Int.ofNat k'/\Int.ofNat k'<(n:Int):=⟨ub2 _,Int.ofNat_lt.2 hk⟩;split at h<;>try trivial
    ·rename_i id off;cases h;obtain⟨_,b,f1,rfl⟩:=hr;exact⟨rfl,_,Co ht he hb,rfl,b,f1,by rw[i8]; rfl⟩
    ·rename_i cs;cases h;obtain⟨_,ad,rfl,f2,f3⟩:=hr;exact⟨rfl,_,Co ht he hb,rfl,_,rfl,by rw[qp]; exact f2,(f3.drop_ _).turn λj u _ hu=>by rw[m9]; exact hu⟩
  ·cases h
 ·cases h
def KR {tt:Ty} {l:List tt.den} (hr:aA w F (.sl tt) l (λ_ u=>u=v)):∃ A c,v = .slice A l.length c/\l.length<=maxLen:=by
 obtain⟨A,c,h1,h2,h3,_⟩:=hr;exact⟨A,c,h1.symm,by omega⟩
def TN {id:Nat} {t:Ty} {l:List t.den} (hm:MemOK P B w F γ M) (hM:M id=some (.arr ety t l)) (he:ety<dL):∃ A c,γ id = .slice A l.length c/\l.length<=maxLen:=by
 obtain⟨_,xs,⟨h1,h2⟩,_⟩:=UD (hm.ob id _ hM) he;rcases h2 with ⟨h3,h4⟩|⟨g,cap,cur,h3,_,_,h4,h5,_⟩
 ·exact⟨none,0,by rw[h3,h4],by omega⟩
 ·exact⟨_,_,h3,by omega⟩
def qqj {c:AC} {tt:Ty} {l:List tt.den} (hm:MemOK P B w F γ M) (hsub:∀ i y,m i=some y->M i=some y) (h:rp m c=some ⟨tt,l⟩) (hr:bc P w F (ap M γ) c v) :
  ∃ A cap,v = .slice A l.length cap/\l.length<=maxLen:=by
 unfold rp at h;split at h<;>try trivial
 ·cases h;exact KR hr
 ·cases h;obtain⟨A,_,h2⟩:=hr;exact KR h2
 ·rename_i id;split at h<;>try trivial
  ·rename_i ety t' l' hmid;split at h<;>try trivial
   rename_i he;cases h;have hv:=ez (hsub _ _ hmid) (by simp) hr;subst hv;exact TN hm (hsub _ _ hmid) (Nat.lt_trans he (by decide))
  ·rename_i t' l' hmid;cases h;have hv:=ez (hsub _ _ hmid) (by simp) hr;subst hv;exact KR (hm.ob id _ (hsub _ _ hmid))
def qqi {x:AV} {e:Eff} (hm:MemOK P B w F γ M) (hsub:∀ i y,m i=some y->M i=some y) (h:ro P t x m=some e) (hr:aE P w F (ap M γ) x v) (ty:TypeId) :
  e.wr=[]/\∃ u,(Builtin.len_ #[t] ty #[v]).run P w = .ok u w/\aE P w F (ap M γ) e.v u:=by
 have hbig:∀ n:Nat,n<=maxLen->inR .i64 (n:Int):=λn hn=>by
  simp only[maxLen] at hn;unfold inR;simp[IntKind.min,IntKind.max,IntKind.bits];omega
 unfold ro at h;split at h
 ·rename_i el ht;split at h<;>try trivial
  ·cases h;obtain⟨_,rfl⟩:=hr;exact⟨rfl,_,by simp[Builtin.len_,ud1 ht,goInt],rfl,rfl,hbig 0 (by simp)⟩
  ·rename_i c _;split at h<;>try trivial
   ·rename_i tt l hl;cases h;obtain⟨A,cap,rfl,h2⟩:=qqj hm hsub hl hr.2;exact⟨rfl,_,by simp[Builtin.len_,ud1 ht,goInt],rfl,rfl,hbig _ h2⟩
   ·split at h<;>try trivial
    split at h<;>try trivial
    rename_i id _ ety tt l hmid;split at h<;>try trivial
    rename_i he;cases h;have hv:=ez (hsub _ _ hmid) (by simp) hr.2;subst hv;obtain⟨A,cap,e1,h2⟩:=TN hm (hsub _ _ hmid) he;exact⟨rfl,_,by simp[Builtin.len_,ud1 ht,goInt,e1],rfl,rfl,hbig _ h2⟩
 ·rename_i ht;split at h<;>try trivial
  cases h;obtain⟨_,rfl,h2⟩:=hr;exact⟨rfl,_,by simp[Builtin.len_,ud1 ht,goInt],rfl,rfl,hbig _ h2⟩
 ·cases h
def qnp {x:AV} {i:Int} {e:Eff} (h:IS P t x i=some e) (hn:av e.need) (hr:aE P w F R x v) :
  e.wr=[]/\∃ u,(Instr.index t v (.int k i)).run P w = .ok u w/\aE P w F R e.v u:=by
 unfold IS at h;split at h
 ·rename_i ht;split at h<;>try trivial
  rename_i b;cases h;obtain⟨h1,h2⟩:=hn;obtain⟨_,hx⟩:=hr;refine⟨rfl,?_⟩;have hi:i.toNat<b.size:=by omega
  have hb:b[i.toNat]? = some (b[i.toNat]):=by simp
  have hd:b.data.getD i.toNat 0=b[i.toNat]:=by
   exact dif_pos hi
  refine⟨.int .u8 b[i.toNat].toNat,?_,?_⟩
  ·rw[hx.1];simp[Instr.index,ud1 ht,asIntOf,h1,hb]
  ·refine⟨rfl,?_⟩;simp only[bc,hd];have hlt:=b[i.toNat].toNat_lt;have e1:IntKind.u8.min=0:=by decide
   have e2:IntKind.u8.max=255:=by decide
   simp;constructor<;>omega
 ·rename_i n el ht;split at h<;>try trivial
  rename_i hc;obtain⟨c1,c2,c3,c4⟩:=hc;obtain⟨ti,hti⟩:=uaq.1 c1;obtain⟨d,hd⟩:=uaq.1 c2;split at h<;>try trivial
  split at h<;>try trivial
  rename_i k' _;split at h<;>try trivial
  rename_i ns hns;split at h<;>try trivial
  cases h;obtain⟨h1,h2⟩:=hn;obtain⟨arr,rfl,e1,e2⟩:=hr;have he:=Cu hns;subst he;have hi:i.toNat<ns.length:=by omega
  obtain⟨u,q1,q2,q3⟩:=e2.at_ (j:=i.toNat) (c:=.int k' (ns.getD i.toNat 0)) (by simp[uap hi]);refine⟨rfl,u,?_,q2,q3⟩;have hsz:arr.size=ns.length:=by simpa using e1
  have hp:=vP (w:=w) (cs:=arr) (off:=i.toNat) hd hti (by rw[c4]; simp; omega);simp only[Instr.index,ueo,ud1 ht,uck,asIntOf,ueq,h1,true_and,h2,if_true,gw hti,c3,Nat.mul_one,hp,c4,ufl]
  simp_all
 ·cases h
end
section
variable {P:Program} {B:Nat} {o:Oper} {a:Act} {w w':World} {F F':Nat->Prop} {γ γ':Nat->Value} {M m:aT} {R:Nat->Value->Prop}
def ku:(t:Ty) -> {cs:List AC} -> {x:t.den} -> {r:List AC}->dec t cs=some (x,r)->cs.length=t.size+r.length
 |.int k,cs,x,r,h=>by
  simp only[dec] at h;unfold oB at h;split at h
  ·split at h
   ·simp at h;obtain⟨_,rfl⟩:=h;simp[Ty.size,uem]
   ·cases h
  ·cases h
 |.bool,cs,x,r,h=>by
  simp only[dec] at h;unfold oA at h;split at h
  ·simp at h;obtain⟨_,rfl⟩:=h;simp[Ty.size,uem]
  ·cases h
 |.str,cs,x,r,h=>by
  simp only[dec] at h;unfold oD at h;split at h
  ·simp at h;obtain⟨_,rfl⟩:=h;simp[Ty.size,uem]
  ·cases h
 |.sl e,cs,x,r,h=>by
  simp only[dec] at h;unfold oC at h;split at h
  ·split at h
   ·simp at h;obtain⟨_,rfl⟩:=h;simp[Ty.size,uem]
   ·cases h
  ·split at h
   ·simp at h;obtain⟨_,rfl⟩:=h;simp[Ty.size,uem]
   ·cases h
  ·simp at h;obtain⟨_,rfl⟩:=h;simp[Ty.size,uem]
  ·cases h
 |.unit,cs,x,r,h=>by
  obtain⟨_,rfl⟩:=h;simp[Ty.size]
 |.pair a b,cs,x,r,h=>by
  simp only[dec] at h;split at h
  ·rename_i x1 r1 h1;split at h
   ·rename_i x2 r2 h2;obtain⟨_,rfl⟩:=h;have e1:=ku a h1;have e2:=ku b h2;simp only[Ty.size];omega
   ·cases h
  ·cases h
 |.fm es,cs,x,r,h=>by
  simp only[dec] at h;unfold qO at h;split at h<;>try trivial
  split at h<;>try trivial
  obtain⟨_,rfl⟩:=h;simp[Ty.size,uem]
 |.ic es t,cs,x,r,h=>by
  simp only[dec] at h;unfold qN at h;split at h<;>try trivial
  split at h<;>try trivial
  split at h<;>try trivial
  obtain⟨_,rfl⟩:=h;simp[Ty.size,uem]
 |.fc f,cs,x,r,h=>by
  simp only[dec] at h;unfold qM at h;split at h<;>try trivial
  all_goals
   split at h<;>try trivial
   obtain⟨_,rfl⟩:=h;simp[Ty.size,uem]
def aA.cell:(t:Ty) -> {x:t.den} -> {g:Nat->Value->Prop}->aA w F t x g->∀ j,j<t.size->∃ u,g j u/\u.oneCell'=true
 |.int _,_,_,h,j,hj=>by
  have:j=0:=by simp[Ty.size] at hj; omega
  subst this;exact⟨_,h.1,rfl⟩
 |.bool,_,_,h,j,hj=>by
  have:j=0:=by simp[Ty.size] at hj; omega
  subst this;exact⟨_,h,rfl⟩
 |.str,_,_,h,j,hj=>by
  have:j=0:=by simp[Ty.size] at hj; omega
  subst this;exact⟨_,h.1,rfl⟩
 |.sl e,_,_,h,j,hj=>by
  have:j=0:=by simp[Ty.size] at hj; omega
  subst this;obtain⟨A,c,h1,_⟩:=h;exact⟨_,h1,rfl⟩
 |.unit,_,_,_,j,hj=>by simp[Ty.size] at hj
 |.pair a b,x,g,h,j,hj=>by
  rcases uel j a.size with h1|h1
  ·exact aA.cell a h.1 j h1
  ·obtain⟨u,e1,e2⟩:=aA.cell b h.2 (j-a.size) (by simp only[Ty.size] at hj; omega);rw[show a.size+(j-a.size)=j from by omega] at e1;exact⟨u,e1,e2⟩
 |.fm es,_,_,h,j,hj=>by
  have:j=0:=by simp[Ty.size] at hj; omega
  subst this;obtain⟨r,arr,ck,h1,_⟩:=h;exact⟨_,h1,rfl⟩
 |.ic es t,_,_,h,j,hj=>by
  have:j=0:=by simp[Ty.size] at hj; omega
  subst this;rcases h with ⟨ty,u,_,h2,_⟩|⟨_,h2⟩
  ·exact⟨_,h2,rfl⟩
  ·exact⟨_,h2,rfl⟩
 |.fc f,_,_,h,j,hj=>by
  have:j=0:=by simp[Ty.size] at hj; omega
  subst this;obtain⟨u,h1,h2,_⟩:=h;exact⟨u,h1,h2⟩
def yQ {t:Ty} {l:List t.den} (h:bU w F t l xs) (hl:xs.length=l.length*t.size):∀ u∈xs,u.oneCell'=true:=by
 intro u hu;obtain⟨k,hk,rfl⟩:=List.getElem_of_mem hu;have hpos:0<t.size:=by
  rcases ub3 t.size with h0|h0
  ·rw[h0] at hl; omega
  ·exact h0
 have hi:k/t.size<l.length:=(Nat.div_lt_iff_lt_mul hpos).2 (by omega);have:=h (k/t.size) l[k/t.size] (uap hi);obtain⟨v,e1,e2⟩:=aA.cell t this (k%t.size) (ufb _ hpos);rw[uer,Nat.div_add_mod,uap hk] at e1;cases e1;exact e2
def fT {t:Ty} {x:t.den} (h:bu w F t x v):aE P w F R (dE t x) v:=by
 obtain⟨h1,h2,h3⟩:=h;have he:=aA.enc (P:=P) (R:=R) t x h3;unfold dE;cases hw:t.wide
 ·simp;have hv:v.cells = #[v]:=by
   cases v<;>first|rfl|(exact absurd (h2.2 ⟨_,rfl⟩) (by simp[hw]))
  have:∃ c,enc t x=[c]:=by cases t<;>first|(simp_all[Ty.wide,enc]; done)|(rename_i f; cases f<;>simp_all[Ty.wide,enc])
  obtain⟨c,hc⟩:=this;rw[hc] at he |-;obtain⟨⟨u,e1,e2,e3⟩,_⟩:=he;rw[hv] at e1;simp at e1;subst e1;exact⟨e2,e3⟩
 ·simp;obtain⟨arr,rfl⟩:=h2.1 hw;exact⟨arr,rfl,by rw[fl]; exact h1,he⟩
def P6:{ts:List Ty} -> {x:aa ts} -> {vs:List Value}->dM w F ts x vs->bj P w F R (Bm ts x) vs
 |[],_,_,h=>by cases h; trivial
 |_::_,_,_,⟨v,vs',h1,h2,h3⟩=>by subst h1; exact⟨fT h2,P6 h3⟩
def bj.length:{xs:List AV} -> {vs:List Value}->bj P w F R xs vs->vs.length=xs.length
 |[],[],_=>rfl
 |_::_,_::_,h=>by simp[bj.length h.2]
 |[],_::_,h=>h.elim
 |_::_,[],h=>h.elim
def P5 {ts:List Ty} {x:aa ts} (h:∃ vs:Array Value,v = .tuple vs/\dM w F ts x vs.toList):aE P w F R (.tup (Bm ts x)) v:=by
 obtain⟨vs,rfl,h2⟩:=h;have h3:=P6 (P:=P) (R:=R) h2;exact⟨vs,rfl,by have:=h3.length; simpa using this,by simpa using Uy h3⟩
def tN:{ts:List Ty} -> {x:aa ts} -> {v:Value}->gT w F ts x v->aE P w F R (jg ts x) v
 |[],_,_,h=>P5 h
 |[_],_,_,h=>fT h
 |t::t'::r,_,_,h=>P5 h
def zE (hF:∀ b,F b->F' b) (hw:∀ b,F b->w'.heap[b]? = w.heap[b]?) (hR:∀ id v,R id v->R' id v):{xs:List AV} -> {vs:List Value}->bj P w F R xs vs->bj P w' F' R' xs vs
 |[],[],_=>trivial
 |_::_,_::_,h=>⟨aE.mono hF hw hR _ h.1,zE hF hw hR h.2⟩
 |[],_::_,h=>h.elim
 |_::_,[],h=>h.elim
def qP {t:Ty} {x:AV} {d:t.den} (h:lB t x=some d) (hr:aE P w F R x v):bu w F t d v:=by
 unfold lB at h;split at h
 ·rename_i c;split at h
  ·cases h
  ·rename_i hw;split at h<;>try trivial
   rename_i y hd;cases h;have hv:v.cells = #[v]:=by
    have:=hr.1;cases v<;>first|rfl|simp[Value.oneCell'] at this
   obtain⟨e1,_⟩:=aA.dec (g:=λj u=>v.cells[j]? = some u) t hd ⟨⟨v,by simp[hv],hr.1,hr.2⟩,uT⟩;refine⟨?_,⟨λh'=>absurd h' hw,λ⟨cs,hc⟩=>?_⟩,e1⟩
   ·rw[hv];cases t<;>simp_all[Ty.size,Ty.wide]
   ·have:=hr.1;rw[hc] at this;simp[Value.oneCell'] at this
 ·rename_i cs;split at h
  ·rename_i hw;split at h<;>try trivial
   rename_i y hd;cases h;obtain⟨arr,rfl,h1,h2⟩:=hr;have hl:cs.length=t.size:=by simpa using ku t hd
   obtain⟨e1,_⟩:=aA.dec t hd h2;exact⟨by show arr.size=_; omega,⟨λ_=>⟨arr,rfl⟩,λ_=>hw⟩,e1⟩
  ·cases h
 ·cases h
def lC:{ts:List Ty} -> {xs:List AV} -> {x:aa ts} -> {vs:List Value}->g9 ts xs=some x->bj P w F R xs vs->dM w F ts x vs
 |[],[],_,[],_,_=>rfl
 |t::r,a::s,x,v::vs,h,hr=>by
  simp only[g9] at h;split at h
  ·rename_i y z h1 h2;cases h;exact⟨v,vs,rfl,qP h1 hr.1,lC h2 hr.2⟩
  ·cases h
 |[],[],_,_::_,_,hr=>hr.elim
 |_::_,_::_,_,[],_,hr=>hr.elim
 |[],_::_,_,_,h,_=>by simp[g9] at h
 |_::_,[],_,_,h,_=>by simp[g9] at h
def gc (M:aT) (u v:List (Nat×Ob)):ax M (u++v)=ax (ax M u) v:=by
 induction u generalizing M with
 |nil=>rfl
 |cons x u ih=>exact ih _
def cX (m M:aT):Prop:=∀ i y,m i=some y->M i=some y \/ ∃ e t l,y = .arr e t l/\M i=some (.frz t l)
def cX.of (h:∀ i y,m i=some y->M i=some y):cX m M:=λi y hy=>.inl (h i y hy)
def zco {id:Nat} {o:Ob} (h:M id=some o):upd M id o=M:=by
 funext i;unfold upd;split
 ·rename_i hi; subst hi; exact h.symm
 ·rfl
def K6 {t:Ty} {l:List t.den} (hown:w.ownsRow B e t.size v l.length xs) (hrows:bU w F t l xs) (hF:∀ b,v.ownBlock=some b->F b):aA w F (.sl t) l (λ_ u=>u=v):=by
 obtain⟨hl,hn|⟨g,cap,cur,hv,hbg,hg,hnc,hcm,hcs,ht⟩⟩:=hown
 ·obtain⟨h1,h2⟩:=hn;refine⟨none,0,?_,by omega,by simp,λi x hi=>?_⟩
  ·rw[h1,h2]
  ·rw[uab h2] at hi;simp at hi
 ·refine⟨some ⟨g,0,none⟩,cap,hv.symm,hnc,hcm,λi x hi=>⟨_,rfl,hF g (by rw[hv]; rfl),?_⟩⟩;refine(hrows i x hi).mono (λb h=>h) (λ_ _=>rfl) λj u hj hu=>?_;rw[i8,tG hg,<- hu,<- ht,ub0];have:i<l.length:=(uak.1 hi).1;have h3:i*t.size+t.size<=l.length*t.size:=by
   rw[<- ues];exact ubc _ this
  rw[if_pos (by omega)];simp
def RwOK.rep {e:Nat} {t:Ty} {l:List t.den} (h:RwOK P B w F v e t l (λ_=>False) xs) (he:cj<=e) {x:t.den} (hi:l[i]? = some x) :
  aA w (λb=>F b\/bK w (.arr e t l) v b) t x (λj u=>xs[i*t.size+j]? = some u):=by
 refine LH (P:=P) (R:=λ_ _=>False) t x (ki _ λk c hc=>?_);by_cases hk:k=cB e
 ·subst hk;obtain⟨t',li,u,ys,a1,a2,a3,a4,a5,a6⟩:=h.inn i x hi (λh=>h);rw[hc] at a1;cases a1;refine⟨u,a2,h.one u (ube a2),?_⟩;simp only[bc];exact K6 a3 (a4.mono (λ_ h=>.inl h) (λ_ _=>rfl)) λb hb=>.inr (.inr (.inl ⟨he,i,u,(uak.1 hi).1,λh=>h,rk h.own a2,hb⟩))
 ·obtain⟨u,h1,h2⟩:=h.cells i x k c hi hc hk;exact⟨u,h1,h.one u (ube h1),bc.mono (λ_ h=>.inl h) (λ_ _=>rfl) (λ_ _ h=>h) c h2⟩
def ql1 {id:Nat} {t:Ty} {l:List t.den} (hm:MemOK P B w F γ M) (hb:∀ b,F b->b<w.heap.size) (hM:M id=some (.arr e t l)) (he:e<dL) :
  ∃ F',Step B w F γ M w F' γ (upd M id (.frz t l))/\MemOK P B w F' γ (upd M id (.frz t l)):=by
 have hob:=hm.ob id _ hM;refine⟨λb=>F b\/bK w (.arr e t l) (γ id) b,?_,?_⟩
 ·refine⟨λb h=>.inl h,λ_ _=>rfl,nx hM (by simp),λ_ _=>rfl,rfl,rfl,rfl,ue4 _,λb h=>?_,λb h=>?_⟩
  ·rcases h with h|h
   ·exact hb b h
   ·exact(gZ hob h).1
  ·rcases h with h|h
   ·exact .inl h
   ·exact .inr (gZ hob h).2.2
 ·refine hm.change hM (by simp) (λb h=>.inl h) (λ_ _=>rfl) (λb h=>h.elim) (λb _ hne=>⟨rfl,λh=>h.resolve_right hne⟩) ?_;simp only[fI];rcases hob with ⟨_,xs,hown,_,hrows,_⟩|⟨hge,_,xs,h1⟩|⟨k,_⟩
  ·exact K6 hown (hrows.mono (λb h=>.inl h) (λ_ _=>rfl)) λb hb=>.inr (.inl hb)
  ·exact K6 h1.own (λi x hi=>h1.rep hge hi) λb hb=>.inr (.inl hb)
  ·exact absurd he (Nat.not_lt.2 k)
def D5 {c x:AC} {u:List (Nat×Ob)} (hm:MemOK P B w F γ M) (hb:∀ b,F b->b<w.heap.size) (hs:cX m M) (h:me m c=some (x,u)) (hr:bc P w F (ap M γ) c v) :
  ∃ F',Step B w F γ M w F' γ (ax M u)/\MemOK P B w F' γ (ax M u)/\cX m (ax M u)/\bc P w F' (ap (ax M u) γ) x v:=by
 unfold me at h;split at h
 ·rename_i id;split at h<;>try trivial
  ·rename_i e t l hid;split at h<;>try trivial
   rename_i hlt;cases h;rcases hs id _ hid with hM|⟨e',t',l',he,hM⟩
   ·obtain⟨F',s1,s2⟩:=ql1 hm hb hM hlt;have hv:=ez hM (by simp) hr;subst hv;refine⟨F',s1,s2,λi y hy=>?_,?_⟩
    ·by_cases hi:i=id
     ·subst hi;rw[hid] at hy;cases hy;exact .inr ⟨e,t,l,rfl,iX _ _ _⟩
     ·simp only[ax];rw[fa _ _ hi];exact hs i y hy
    ·simp only[bc];exact s2.ob id _ (iX _ _ _)
   ·cases he;have hv:=ez hM (by simp) hr;subst hv;have hself:ax M [(id,Ob.frz t l)]=M:=zco hM;refine⟨F,by rw[hself]; exact Step.refl hb,by rw[hself]; exact hm,by rw[hself]; exact hs,?_⟩;exact hm.ob id _ hM
  ·rename_i t l hid;cases h;rcases hs id _ hid with hM|⟨e',t',l',he,hM⟩
   ·have hv:=ez hM (by simp) hr;subst hv;refine⟨F,Step.refl hb,hm,hs,?_⟩;exact hm.ob id _ hM
   ·cases he
 ·cases h;exact⟨F,Step.refl hb,hm,hs,hr⟩
def yR:{cs xs:List AC} -> {u:List (Nat×Ob)} -> {M:aT} -> {F:Nat->Prop} -> {g:Nat->Value->Prop}->MemOK P B w F γ M->(∀ b,F b->b<w.heap.size)->cX m M->jr m cs=some (xs,u)->aN P w F (ap M γ) cs g ->
  ∃ F',Step B w F γ M w F' γ (ax M u)/\MemOK P B w F' γ (ax M u)/\cX m (ax M u)/\xs.length=cs.length/\aN P w F' (ap (ax M u) γ) xs g
 |[],xs,u,M,F,g,hm,hb,hs,h,hr=>by
  obtain⟨rfl,rfl⟩:=h;exact⟨F,Step.refl hb,hm,hs,rfl,uT⟩
 |c::r,xs,u,M,F,g,hm,hb,hs,h,hr=>by
  simp only[jr] at h;split at h
  ·rename_i x u1 y u2 h1 h2;cases h;obtain⟨⟨v,e1,e2,e3⟩,e4⟩:=hr;obtain⟨F1,s1,m1,t1,r1⟩:=D5 hm hb hs h1 e3;obtain⟨F2,s2,m2,t2,l2,r2⟩:=yR m1 s1.bd t1 h2 (s1.repCL e4);rw[gc];exact⟨F2,s1.trans s2,m2,t2,by simp[l2],⟨⟨v,e1,e2,bc.mono s2.hF s2.hw s2.hR _ r1⟩,r2⟩⟩
  ·cases h
def UJ {x y:AV} {u:List (Nat×Ob)} (hm:MemOK P B w F γ M) (hb:∀ b,F b->b<w.heap.size) (hs:cX m M) (h:pD m x=some (y,u)) (hr:aE P w F (ap M γ) x v) :
  ∃ F',Step B w F γ M w F' γ (ax M u)/\MemOK P B w F' γ (ax M u)/\cX m (ax M u)/\aE P w F' (ap (ax M u) γ) y v:=by
 unfold pD at h;split at h
 ·split at h<;>try trivial
  rename_i h1;cases h;obtain⟨F1,s1,m1,t1,r1⟩:=D5 hm hb hs h1 hr.2;exact⟨F1,s1,m1,t1,hr.1,r1⟩
 ·split at h<;>try trivial
  rename_i h1;cases h;obtain⟨arr,e1,e2,e3⟩:=hr;obtain⟨F1,s1,m1,t1,l1,r1⟩:=yR hm hb hs h1 e3;exact⟨F1,s1,m1,t1,arr,e1,by rw[e2,l1],r1⟩
 ·cases h
def iy:{cs xs:List AV} -> {u:List (Nat×Ob)} -> {M:aT} -> {F:Nat->Prop} -> {vs:List Value}->MemOK P B w F γ M->(∀ b,F b->b<w.heap.size)->cX m M->dK m cs=some (xs,u)->bj P w F (ap M γ) cs vs ->
  ∃ F',Step B w F γ M w F' γ (ax M u)/\MemOK P B w F' γ (ax M u)/\cX m (ax M u)/\bj P w F' (ap (ax M u) γ) xs vs
 |[],xs,u,M,F,vs,hm,hb,hs,h,hr=>by
  obtain⟨rfl,rfl⟩:=h;exact⟨F,Step.refl hb,hm,hs,hr⟩
 |c::r,xs,u,M,F,[],hm,hb,hs,h,hr=>hr.elim
 |c::r,xs,u,M,F,v::vs,hm,hb,hs,h,hr=>by
  simp only[dK] at h;split at h
  ·rename_i x u1 y u2 h1 h2;cases h;obtain⟨F1,s1,m1,t1,r1⟩:=UJ hm hb hs h1 hr.1;have hr2:=zE s1.hF s1.hw s1.hR hr.2;obtain⟨F2,s2,m2,t2,r2⟩:=iy m1 s1.bd t1 h2 hr2;rw[gc];exact⟨F2,s1.trans s2,m2,t2,s2.repA r1,r2⟩
  ·cases h
def aA.flat:{t:Ty}->t.flat=true -> {x:t.den} -> {g:Nat->Value->Prop}->aA w F t x g->aA w' F' t x g
 |.int _,_,_,_,h=>h
 |.bool,_,_,_,h=>h
 |.str,_,_,_,h=>h
 |.unit,_,_,_,h=>h
 |.sl _,hf,_,_,_=>by simp[Ty.flat] at hf
 |.fm _,hf,_,_,_=>by simp[Ty.flat] at hf
 |.ic _ t,hf,_,_,h=>by
  simp only[Ty.flat] at hf;rcases h with ⟨ty,u,h1,h2,h3,h4,h5⟩|h
  ·exact .inl ⟨ty,u,h1,h2,h3,h4,h5.flat hf⟩
  ·exact .inr h
 |.fc _,hf,_,_,_=>by simp[Ty.flat] at hf
 |.pair a b,hf,_,_,h=>by
  simp only[Ty.flat,uc9] at hf;exact⟨aA.flat hf.1 h.1,aA.flat hf.2 h.2⟩
def bu.flat {t:Ty} (hf:t.flat=true) {x:t.den} (h:bu w F t x v):bu w' F' t x v:=⟨h.1,h.2.1,h.2.2.flat hf⟩
def dM.flat:{ts:List Ty}->ts.all Ty.flat=true -> {x:aa ts} -> {vs:List Value}->dM w F ts x vs->dM w' F' ts x vs
 |[],_,_,_,h=>h
 |t::r,hf,_,_,⟨v,vs',h1,h2,h3⟩=>by
  simp only[uef,uc9] at hf;exact⟨v,vs',h1,h2.flat hf.1,dM.flat hf.2 h3⟩
def gT.flat:{ts:List Ty}->ts.all Ty.flat=true -> {x:aa ts} -> {v:Value}->gT w F ts x v->gT w' F' ts x v
 |[],hf,_,_,⟨vs,h1,h2⟩=>⟨vs,h1,dM.flat hf h2⟩
 |[t],hf,_,_,h=>by
  simp only[uef,uc9] at hf;exact bu.flat hf.1 h
 |t::t'::r,hf,_,_,⟨vs,h1,h2⟩=>⟨vs,h1,dM.flat hf h2⟩
def bU.flat {t:Ty} (hf:t.flat=true) {l:List t.den} (h:bU w F t l xs):bU w' F' t l xs:=λi x hi=>(h i x hi).flat hf
end
section
variable {P:Program} {B:Nat} {o:Oper} {a:Act} {w w':World} {F F':Nat->Prop} {γ γ':Nat->Value} {M m:aT} {R:Nat->Value->Prop}
def zaq {ob:Ob} {x:Obj} (hb:∀ b,F b->b<w.heap.size) (hB:B<=w.heap.size) (hd:M d=none):Step B w F γ M (w.alloc x) F (cU γ d v) (upd M d ob):=
 ⟨λ_ h=>h,λb h=>uc8 _ _ _ (hb b h),yM hd,λb h=>uc8 _ _ _ (by omega),rfl,rfl,rfl,by simp,λb h=>by have:=hb b h; simp; omega,λb h=>.inl h⟩
def SZ {cs:List AC} (hm:MemOK P B w F γ M) (hb:∀ b,F b->b<w.heap.size) (hB:B<=w.heap.size) (hd:M d=none) (hl:arr.size=cs.length)
  (hr:aN P w F (ap M γ) cs (λj u=>arr[j]? = some u)) :
  Step B w F γ M (w.alloc (.cells arr ty)) F (cU γ d (.pointer (some ⟨w.heap.size,0,none⟩))) (upd M d (.box ty cs)) /\
  MemOK P B (w.alloc (.cells arr ty)) F (cU γ d (.pointer (some ⟨w.heap.size,0,none⟩))) (upd M d (.box ty cs)):=by
 have hs:Step B w F γ M (w.alloc (.cells arr ty)) F (cU γ d (.pointer (some ⟨w.heap.size,0,none⟩))) (upd M d (.box ty cs)):=zaq hb hB hd;refine⟨hs,hm.new hd hs.hF hs.hw (λb h=>?_) (λb h=>⟨uc8 _ _ _ h,λh=>h⟩) ?_⟩
 ·obtain⟨a,h1,rfl⟩:=h;cases h1;exact ue4 _
 ·exact⟨w.heap.size,arr,rfl,ud3 w _,λh=>by have:=hb _ h; omega,hB,hl,hs.repCL hr⟩
def Ul {cs:List AC}:aE P w F (ap (upd M d (.box ty cs)) (cU γ d (.pointer (some ⟨b,0,none⟩)))) (.c (.ptr d 0)) (.pointer (some ⟨b,0,none⟩)):=by
 refine⟨rfl,b,?_,rfl⟩;unfold ap;rw[iX];exact(fy _ _ _).symm
def uN {t:Ty} {l:List t.den} (hm:MemOK P B w F γ M) (hb:∀ b,F b->b<w.heap.size) (hB:B<=w.heap.size) (hd:M d=none)
  (hg:w.grownBy w' none) (hown:w'.ownsRow B ety t.size v l.length xs) (hnew:∀ g,v.ownBlock=some g->w.heap.size<=g) (hrows:bU w' F t l xs) (he:ety<cj) :
  Step B w F γ M w' F (cU γ d v) (upd M d (.arr ety t l))/\MemOK P B w' F (cU γ d v) (upd M d (.arr ety t l)):=by
 have hblk:=λb h=>hg.block b h (by simp);have hs:Step B w F γ M w' F (cU γ d v) (upd M d (.arr ety t l)):=
  ⟨λ_ h=>h,λb h=>hblk b (hb b h),yM hd,λb h=>hblk b (by omega),hg.os,hg.tape,hg.output,hg.size,λb h=>by have:=hb b h; have:=hg.size; omega,λb h=>.inl h⟩
 refine⟨hs,hm.new hd hs.hF hs.hw (λb h=>hnew b ((lE he (nq hown)).1 h)) (λb h=>⟨hblk b h,λh=>h⟩) ?_⟩;refine .inl ⟨he,xs,hown,λg hg' hF=>?_,hrows,yQ hrows hown.1⟩;have:=hb g hF;have:=hnew g hg';omega
def lP {t:Ty} {l:List t.den} (h1:v.oneCell'=true):aE P w F (ap (upd M d (.arr ety t l)) (cU γ d v)) (.c (.own d)) v:=by
 refine⟨h1,?_⟩;simp only[bc];unfold ap;rw[iX];exact(fy _ _ _).symm
def MemOK.re (h:MemOK P B w F γ M) (S:Nat->Prop) {M':aT} (hM:∀ i,¬ S i->M' i=M i) (hγ:∀ i,¬ S i->γ' i=γ i) (hw:∀ b,F b->w'.heap[b]? = w.heap[b]?) (hR:∀ i v,ap M γ i v->ap M' γ' i v)
  (hoth:∀ b,b<w.heap.size->(∀ i o,S i->M i=some o->¬ bK w o (γ i) b)->w'.heap[b]? = w.heap[b]?)
  (hok:∀ i o,S i->M' i=some o->fI P B w' F (ap M' γ') (γ' i) o)
  (hex:∀ i o b,S i->M' i=some o->bK w' o (γ' i) b->(∃ j o0,S j/\M j=some o0/\bK w o0 (γ j) b)\/w.heap.size<=b)
  (hap:∀ i j oi oj b,S i->S j->i≠j->M' i=some oi->M' j=some oj->bK w' oi (γ' i) b->¬ bK w' oj (γ' j) b):MemOK P B w' F γ' M':=by
 have hk:∀ i oi,¬ S i->M i=some oi->∀ b,bK w oi (γ i) b->w'.heap[b]? = w.heap[b]? /\ ¬ F b:=λi oi hs hi b hb=>by
  obtain⟨e1,e2,_⟩:=gZ (h.ob i oi hi) hb;exact⟨hoth b e1 (λj o hj hjo hc=>h.apart i j oi o b (λe=>hs (e ▸ hj)) hi hjo hb hc),e2⟩
 have hkb:∀ i oi,¬ S i->M i=some oi->∀ b,bK w' oi (γ i) b->bK w oi (γ i) b:=λi oi hs hi b=>tU (λb hb=>(hk i oi hs hi b hb).1);have key:∀ i j oi oj b,S i->¬ S j->M' i=some oi->M j=some oj->bK w' oi (γ' i) b->¬ bK w' oj (γ j) b:=λi j oi oj b hi hj hoi hoj hbi hbj=>by
  have hbj':=hkb j oj hj hoj b hbj;rcases hex i oi b hi hoi hbi with ⟨k,o0,k1,k2,k3⟩|k
  ·exact h.apart k j o0 oj b (λe=>hj (e ▸ k1)) k2 hoj k3 hbj'
  ·have:=(gZ (h.ob j oj hoj) hbj').1;omega
 refine⟨λi o hi=>?_,λi j oi oj b hij hi hj hbi hbj=>?_⟩
 ·by_cases hs:S i
  ·exact hok i o hs hi
  ·rw[hM i hs] at hi;rw[hγ i hs];exact(h.ob i o hi).keep (λ_ h=>h) hw hR (hk i o hs hi)
 ·by_cases hs:S i
  ·by_cases hs':S j
   ·exact hap i j oi oj b hs hs' hij hi hj hbi hbj
   ·rw[hM j hs'] at hj;rw[hγ j hs'] at hbj;exact key i j oi oj b hs hs' hi hj hbi hbj
  ·rw[hM i hs] at hi;rw[hγ i hs] at hbi;by_cases hs':S j
   ·exact key j i oj oi b hs' hs hj hi hbj hbi
   ·rw[hM j hs'] at hj;rw[hγ j hs'] at hbj;exact h.apart i j oi oj b hij hi hj (hkb i oi hs hi b hbi) (hkb j oj hs' hj b hbj)
def MemOK.moved (h:MemOK P B w F γ M) {id:Nat} {o0 o:Ob} (h0:M id=some o0) (hd:M d=none)
  (hw:∀ b,F b->w'.heap[b]? = w.heap[b]?)
  (hex:∀ b,bK w' o v b->bK w o0 (γ id) b\/w.heap.size<=b)
  (hoth:∀ b,b<w.heap.size->¬ bK w o0 (γ id) b->w'.heap[b]? = w.heap[b]?)
  (hok:fI P B w' F (ap (upd (upd M id .gone) d o) (cU γ d v)) v o):MemOK P B w' F (cU γ d v) (upd (upd M id .gone) d o):=by
 have hne:d≠id:=by rintro rfl; rw[hd] at h0; cases h0
 have hg:∀ oi,upd (upd M id .gone) d o id=some oi->oi = .gone:=λoi hi=>by
  rw[fa _ _ hne.symm,iX] at hi;exact(udz hi).symm
 have hdo:∀ oi,upd (upd M id .gone) d o d=some oi->oi=o:=λoi hi=>by
  rw[iX] at hi;exact(udz hi).symm
 refine h.re (λi=>i=id\/i=d) (λi hi=>?_) (λi hi=>eC _ _ (λe=>hi (.inr e))) hw (λi u hu=>yM (by rw[fa _ _ hne]; exact hd) i u (nx h0 (λ_=>rfl) i u hu))
  (λb hb hn=>hoth b hb (hn id o0 (.inl rfl) h0)) ?_ ?_ ?_
 ·rw[fa _ _ (λe=>hi (.inr e)),fa _ _ (λe=>hi (.inl e))]
 ·rintro i oi (rfl|rfl) hi
  ·obtain rfl:=hg oi hi;trivial
  ·obtain rfl:=hdo oi hi;rw[fy];exact hok
 ·rintro i oi b (rfl|rfl) hi hb
  ·obtain rfl:=hg oi hi;exact hb.elim
  ·obtain rfl:=hdo oi hi;rw[fy] at hb;exact(hex b hb).imp (λh1=>⟨id,o0,.inl rfl,h0,h1⟩) (λh=>h)
 ·rintro i j oi oj b (rfl|rfl) (rfl|rfl) hij hi hj hbi hbj
  ·exact hij rfl
  ·obtain rfl:=hg oi hi;exact hbi
  ·obtain rfl:=hg oj hj;exact hbj
  ·exact hij rfl
def CJ {id:Nat} {ety0:TypeId} {t t0:Ty} {l:List t.den} {l0:List t0.den} (hm:MemOK P B w F γ M) (hb:∀ b,F b->b<w.heap.size) (hB:B<=w.heap.size)
  (h0:M id=some (.arr ety0 t0 l0)) (hd:M d=none)
  (hg:w.grownBy w' (γ id).ownBlock) (hown:w'.ownsRow B ety t.size v l.length xs) (hnew:v.ownBlock=(γ id).ownBlock\/v.ownBlock=some w.heap.size\/v.ownBlock=none) (hrows:bU w' F t l xs) (he0:ety0<cj) (he:ety<cj) :
  Step B w F γ M w' F (cU γ d v) (upd (upd M id .gone) d (.arr ety t l))/\MemOK P B w' F (cU γ d v) (upd (upd M id .gone) d (.arr ety t l)):=by
 have hne:d≠id:=by rintro rfl; rw[hd] at h0; cases h0
 obtain⟨xs0,q1,q2,_⟩:=gg.of (hm.ob id _ h0) he0;have hnF:∀ b,F b->some b≠(γ id).ownBlock:=λb hb' he=>q2 b he.symm hb';have hs:Step B w F γ M w' F (cU γ d v) (upd (upd M id .gone) d (.arr ety t l)):=
  ⟨λ_ h=>h,λb h=>hg.block b (hb b h) (hnF b h),
   λi u hu=>yM (by rw[fa _ _ hne]; exact hd) i u (nx h0 (λ_=>rfl) i u hu),
   λb h=>hg.block b (by omega) (λhe=>by have:=(q1.lt b he.symm).1; omega),hg.os,hg.tape,hg.output,hg.size,λb h=>by have:=hb b h; have:=hg.size; omega,λb h=>.inl h⟩
 refine⟨hs,hm.moved h0 hd hs.hw (λb h=>?_) (λb h1 h2=>hg.block b h1 (λhe=>h2 (.inl he.symm))) ?_⟩
 ·replace h:=(lE he (nq hown)).1 h;refine(λh=>h.imp (.inl:(γ id).ownBlock=some b->_) (λh=>h):_\/_->_) ?_;rcases hnew with h'|h'|h'
  ·rw[h'] at h; exact .inl h
  ·rw[h'] at h; simp at h; exact .inr (by omega)
  ·rw[h'] at h; cases h
 ·refine .inl ⟨he,xs,hown,λg hg' hF=>?_,hrows,yQ hrows hown.1⟩;rcases hnew with h'|h'|h'
  ·rw[h'] at hg'; exact q2 g hg' hF
  ·rw[h'] at hg'; simp at hg'; have:=hb g hF; omega
  ·rw[h'] at hg'; cases hg'
end
end Go.Ab
