/-
  Parts of the proof, one behind the other: AbC, AbD, B1, B2.
-/
import Derived.Test.YtgieagiaagoogaaGreatMb
import Derived.Orders
import Derived.Scope
import Derived.Laws.Sem
import Derived.Recover
import Derived.Carry
import Derived.ChangeSame
import Derived.ProofKit
import Derived.OpenShut
import Derived.ChangeCalls
import Derived.Test.YtgieagiaagoogaaGreatProg
import Derived.WalkKit
import Derived.IntWalk
set_option linter.all false
abbrev ua5:=@of_decide_eq_true
abbrev ua6:=@List.getD_eq_getElem?_getD
abbrev ua8:=@List.mem_cons_of_mem
abbrev uab:=@decide_eq_true_eq
abbrev uag:=@Go.IntWalk.i64_in
abbrev ub0:=@Go.IntKind.wrap_i64
abbrev ub2:=@List.pairwise_cons
abbrev ubb:=@congrArg
abbrev ubc:=@List.mem_append
abbrev ubh:=@Array.getD_eq_getD_getElem?
abbrev ubi:=@decide_eq_false_iff_not
abbrev ubj:=@Nat.lt_of_lt_of_le
abbrev ubk:=@List.mem_cons_self
abbrev ubq:=@List.mem_append_right
abbrev ubu:=@beq_iff_eq
abbrev uc9:=@Bool.not_eq_true'
abbrev uca:=@Bool.or_eq_true
abbrev ucg:=@List.mem_append_left
abbrev uck:=@List.mem_range'_1
abbrev ucv:=@Option.getD_some
abbrev ud1:=@List.append_nil
abbrev udn:=@Nat.add_sub_cancel_left
abbrev udo:=@Go.leaves_cons
abbrev udp:=@List.pairwise_iff_getElem
abbrev ue2:=@Go.mem_ready
abbrev ugq:=@Go.wp_region
abbrev ue3:=@Int.lt_trans
abbrev uek:=@List.range'_succ
abbrev uel:=@Array.getElem?_eq_none
abbrev uem:=@Array.getElem?_replicate
abbrev uen:=@Int.fdiv_eq_ediv_of_nonneg
abbrev uf3:=@List.mem_filterMap
abbrev uf4:=@List.length_singleton
abbrev uf5:=@List.mem_iff_getElem?
abbrev uf6:=@Go.IntKind.wrap_u64
abbrev ufz:=@List.erase_cons_head
abbrev ug0:=@List.pairwise_lt_range'
abbrev ug1:=@List.mem_of_mem_erase
abbrev ug2:=@List.range_eq_range'
abbrev ug3:=@Array.getElem?_append_left
abbrev ug4:=@Array.getElem?_append_right
abbrev ug5:=@Nat.lt_of_le_of_lt
abbrev ug6:=@Nat.zero_lt_one
namespace Go.Ab
open Go Go.RowKit
structure Env where
 w0:World
 F0:Nat->Prop
 G:Nat->Value
 D:List Deferred
 B:Nat
 hB:B<=w0.heap.size
section
variable {P:Program} {B:Nat} {o:Oper} {a:Act} {w w':World} {E:Env} {F F':Nat->Prop} {γ γ' γ0:Nat->Value} {M m:Mem} {R:Nat->Value->Prop} {Γ:Gm}
theorem zmz {tm:Tmp->Value} {c:Operand} {want:Bool} {x:AV} {u:Value} (hc:∀ t,c = .tmp t->tm t = .bool want) (h:qh8 P w F R tm x u):qh8 P w F R tm (zd1 c want x) u:=by
 unfold zd1;split
 ·rename_i g w0 v;split
  ·rename_i t;split
   ·rename_i hgt;obtain ⟨rfl,rfl⟩:=hgt;have hv:qz P w F R v u:=h (hc g rfl);cases v<;>first|exact hv|exact hv.elim
   ·exact h
  ·exact h
 ·exact h
theorem ydy {p:Bool} {x y v:AV} (h:zbg p x y=some v):nmA x=true/\nmA y=true:=by
 unfold zbg at h;split at h<;>first|exact ⟨rfl,rfl⟩|cases h
theorem qsa (hΓ:qhd P Γ) {d:Nat} {op:Op} {vs:List AV} {e:Eff} (ho:o.op=op) (hm:MemOK P B w F γ M) (hb:∀ b,F b->b<w.heap.size) (hB:B<=w.heap.size)
  (hsub:∀ i y,m i=some y->M i=some y) (hd:m d=none->M d=none) (hc:zr8 P Γ d op vs m=some e) (hn:qr e.need)
  (hr:qox P w F (qp M γ) (fun g=>a.tmps.getD g undef) vs (op.operands.toList.map a.eval)):zq5 P B o a w F γ M e.v e.wr:=by
 unfold zr8 at hc;split at hc
 ·rename_i c ao bo;split at hc<;>try trivial
  rename_i p x y;split at hc<;>try trivial
  rename_i v hv;cases hc;obtain ⟨hcv,hx,hy,_⟩:=hr;obtain ⟨_,hcv⟩:=hcv;simp only [zn] at hcv;obtain ⟨n1,n2⟩:=ydy hv;have htm:∀ want,p=want->∀ t,c = .tmp t->a.tmps.getD t undef = .bool want:=by
   rintro want rfl t rfl;exact hcv
  have hx':p=true->qz P w F (qp M γ) (zd1 c true x) (a.eval ao):=fun hp=>(zmz (htm true hp) hx).plain n1;have hy':p=false->qz P w F (qp M γ) (zd1 c false y) (a.eval bo):=fun hp=>(zmz (htm false hp) hy).plain n2;have hrr:=zt8 hv hx' hy';refine yg hm hb (u:=if p then a.eval ao else a.eval bo) ?_ hrr;unfold execOp;rw [ho];simp [hcv,asBool]
 ·split at hc<;>try trivial
  rename_i hnm;exact zni hΓ ho hm hb hB hsub hd hc hn (hr.plain hnm)
def vz (P:Program) (w:World) (F:Nat->Prop) (R:Nat->Value->Prop) (tm:Tmp->Value):AV->Value->Prop
 |.maybe g want v,u=>(tm g = .bool want->qz P w F R v u)/\(tm g ≠ .bool want->u=undef)
 |v,u=>qz P w F R v u
theorem vz.toM {tm:Tmp->Value} {x:AV} {u:Value} (h:vz P w F R tm x u):qh8 P w F R tm x u:=by
 cases x<;>first|exact h|exact h.1
theorem vz.mono {tm:Tmp->Value} {x:AV} {u:Value} {R':Nat->Value->Prop} (hF:∀ b,F b->F' b) (hw:∀ b,F b->w'.heap[b]? = w.heap[b]?) (hR:∀ id v,R id v->R' id v) (h:vz P w F R tm x u):vz P w' F' R' tm x u:=by
 cases x with
 |maybe g want v=>exact ⟨fun hg=>qz.mono hF hw hR v (h.1 hg),h.2⟩
 |dead=>trivial
 |c a=>exact qz.mono (P:=P) hF hw hR (.c a) h
 |agg cs=>exact qz.mono (P:=P) hF hw hR (.agg cs) h
 |tup vs=>exact qz.mono (P:=P) hF hw hR (.tup vs) h
 |optr _ _ _ _=>exact qz.mono (P:=P) hF hw hR (.optr _ _ _ _) h
 |aptr _ _ _=>exact qz.mono (P:=P) hF hw hR (.aptr _ _ _) h
structure InvG (P:Program) (E:Env) (st:St) (a:Act) (w:World) (W:List Tmp) (F:Nat->Prop) (γ:Nat->Value):Prop where
 n:a.tmps.size=st.n
 df:a.defers=E.D
 step:∃ γ0,Step E.B E.w0 E.F0 γ0 (fun _=>none) w F γ st.mem
 mem:MemOK P E.B w F γ st.mem
 sl:∀ t,vz P w F (qp st.mem γ) (fun g=>a.tmps.getD g undef) (st.sl t) (a.tmps.getD t undef)
 hg:∀ t g want v,st.sl t = .maybe g want v->g∈W
 gh:∀ t,qz P w F (qp st.mem γ) (st.gs t) (E.G t)
theorem ze2 {sl:Nat->AV} {tm:Tmp->Value} (h:∀ t,vz P w F R tm (sl t) (tm t)):(n:Nat) -> {g:Tmp} -> {want:Bool} -> {gs:List (Tmp×Bool×Bool)}->qg5 sl n g want=some gs->tm g = .bool want ->
  ∀ x∈gs,tm x.1 = .bool x.2.1/\x.2.2=x.2.1
 |0,_,_,_,hh,_=>by simp [qg5] at hh
 |n+1,g,want,gs,hh,hg=>by
  have hs:=h g;unfold qg5 at hh;split at hh<;>try trivial
  ·rename_i b hsl;cases hh;rw [hsl] at hs;have:tm g = .bool b:=hs.2;rw [hg] at this;cases this;intro x hx;simp at hx;subst hx;exact ⟨hg,rfl⟩
  ·rename_i g0 w0 b hsl;split at hh<;>try trivial
   rename_i l hl;cases hh;rw [hsl] at hs;by_cases hg0:tm g0 = .bool w0
   ·have:tm g = .bool b:=(hs.1 hg0).2;rw [hg] at this;cases this;intro x hx;rcases ua2.1 hx with rfl|hx
    ·exact ⟨hg,rfl⟩
    ·exact ze2 h n hl hg0 x hx
   ·have:=hs.2 hg0;rw [hg] at this;simp [undef] at this
theorem zz1 {gs:List (Tmp×Bool×Bool)} {p:Prop} (h:gs.foldr (fun x q=>x.2.2=x.2.1->q) p) (hg:∀ x∈gs,x.2.2=x.2.1):p:=by
 induction gs with
 |nil=>exact h
 |cons x gs ih=>exact ih (h (hg x (by simp))) (fun y hy=>hg y (by simp [hy]))
theorem yfm {gs:List (Tmp×Bool×Bool)} {ns:List Prop} (h:qr (zvc gs ns)) (hg:∀ x∈gs,x.2.2=x.2.1):qr ns:=by
 induction ns with
 |nil=>trivial
 |cons p ns ih=>
  have h':qr (gs.foldr (fun x q=>x.2.2=x.2.1->q) p::zvc gs ns):=h;rw [xz] at h' ⊢;exact ⟨zz1 h'.1 hg,ih h'.2⟩
theorem ylf {tm:Tmp->Value} {gs:List (Tmp×Bool×Bool)} {x:AV} {u:Value} (hg:∀ x∈gs,tm x.1 = .bool x.2.1) (h:qh8 P w F R tm x u):qh8 P w F R tm (unm gs x) u:=by
 unfold unm;split
 ·rename_i g want v;split
  ·rename_i hany;obtain ⟨y,hy,he⟩:=List.any_eq_true.1 hany;simp only [ua1,ubu] at he;obtain ⟨rfl,rfl⟩:=he;have hv:qz P w F R v u:=h (hg y hy);cases v<;>first|exact hv|exact hv.elim
  ·exact h
 ·exact h
theorem qtd (a:Act) (d:Option Tmp) (v:Value) (t:Tmp) (hd:∀ x,d=some x->x<a.tmps.size):(a.put d v).tmps.getD t undef=if d=some t then v else a.tmps.getD t undef:=by
 cases d with
 |none=>simp [Act.put]
 |some x=>
  have hx:=hd x rfl;by_cases h:x=t
  ·subst h;simp [Act.put,hx]
  ·have:(some x=some t)=False:=by simp [h]
   simp only [Act.put,this,ub3];simp [ubh,uew h]
theorem qwt {sl:Nat->AV} (h:∀ t,vz P w F R (fun g=>a.tmps.getD g undef) (sl t) (a.tmps.getD t undef)) (x:Operand):qh8 P w F R (fun g=>a.tmps.getD g undef) (evA sl x) (a.eval x):=by
 cases x with
 |tmp t=>exact (h t).toM
 |const v=>
  have:=qr2 (P:=P) (w:=w) (F:=F) (R:=R) v;show qh8 _ _ _ _ _ (qua v) v;unfold qua at *;split
  ·split<;>simp_all [qh8]
  ·trivial
  ·simp_all [qh8]
 |global g=>trivial
 |func f=>exact ⟨rfl,#[],rfl,rfl,trivial⟩
theorem qkc {sl:Nat->AV} (h:∀ t,vz P w F R (fun g=>a.tmps.getD g undef) (sl t) (a.tmps.getD t undef)):(xs:List Operand)->qox P w F R (fun g=>a.tmps.getD g undef) (xs.map (evA sl)) (xs.map a.eval)
 |[]=>trivial
 |x::r=>⟨qwt h x,qkc h r⟩
theorem zjm {sl:Nat->AV} {gs:List (Tmp×Bool×Bool)} (hg:∀ x∈gs,a.tmps.getD x.1 undef = .bool x.2.1) (h:∀ t,vz P w F R (fun g=>a.tmps.getD g undef) (sl t) (a.tmps.getD t undef)) :
  (xs:List Operand)->qox P w F R (fun g=>a.tmps.getD g undef) (xs.map fun x=>unm gs (evA sl x)) (xs.map a.eval)
 |[]=>trivial
 |x::r=>⟨ylf hg (qwt h x),zjm hg h r⟩
theorem qom (sl:Nat->AV) (d:Option Tmp) (v:AV) (t:Nat):qdj sl d v t=if d=some t then v else sl t:=by
 cases d with
 |none=>simp [qdj]
 |some x=>
  by_cases h:t=x
  ·subst h; simp [qdj]
  ·simp [qdj,h,Ne.symm h]
theorem qfn {st:St} {W:List Tmp} {d:Option Tmp} {v:AV} {u:Value} {wr:List (Nat×Ob)} (hi:InvG P E st a w W F γ) (hd:∀ x,d=some x->x<st.n/\x ∉ W) (hs:Step E.B w F γ st.mem w' F' γ' (qx st.mem wr)) (hm:MemOK P E.B w' F' γ' (qx st.mem wr))
  (hv:vz P w' F' (qp (qx st.mem wr) γ') (fun g=>a.tmps.getD g undef) v u) (hvg:∀ g want y,v = .maybe g want y->g∈W) :
  InvG P E ⟨st.n,qdj st.sl d v,qx st.mem wr,st.gs⟩ (a.put d u) w' (d.toList++W) F' γ':=by
 have hget:=fun t=>qtd a d u t (fun x hx=>by rw [hi.n]; exact (hd x hx).1);have htm:∀ g,g∈W->(a.put d u).tmps.getD g undef=a.tmps.getD g undef:=fun g hg=>by
  rw [hget,if_neg];intro he;exact (hd g he).2 hg
 have hcongr:∀ (x:AV) (y:Value),(∀ g want z,x = .maybe g want z->g∈W)->vz P w' F' (qp (qx st.mem wr) γ') (fun g=>a.tmps.getD g undef) x y->vz P w' F' (qp (qx st.mem wr) γ') (fun g=>(a.put d u).tmps.getD g undef) x y:=by
  intro x y hx h;cases x with
  |maybe g want z=>
   have:=htm g (hx g want z rfl);exact ⟨fun hh=>h.1 (this.symm.trans hh),fun hh=>h.2 (fun h3=>hh (this.trans h3))⟩
  |_=>exact h
 refine ⟨?_,?_,?_,hm,fun t=>?_,fun t g want z ht=>?_,fun t=>hs.repA (hi.gh t)⟩
 ·show (a.put d u).tmps.size=st.n;rw [← hi.n];cases d<;>simp [Act.put]
 ·rw [← hi.df];cases d<;>rfl
 ·obtain ⟨γ0,h0⟩:=hi.step;exact ⟨γ0,h0.trans hs⟩
 ·rw [hget];simp only [qom];by_cases h:d=some t
  ·rw [if_pos h,if_pos h];exact hcongr v u hvg hv
  ·rw [if_neg h,if_neg h];exact hcongr _ _ (hi.hg t) ((hi.sl t).mono hs.hF hs.hw hs.hR)
 ·simp only [qom] at ht;by_cases h:d=some t
  ·rw [if_pos h] at ht;exact ubq _ (hvg g want z ht)
  ·rw [if_neg h] at ht;exact ubq _ (hi.hg t g want z ht)
theorem Step.size' {st:St} {W:List Tmp} (hi:InvG P E st a w W F γ):E.B<=w.heap.size:=by
 obtain ⟨γ0,h⟩:=hi.step;exact ual E.hB h.size
theorem kj {st:St} {W:List Tmp} (hi:InvG P E st a w W F γ):∀ b,F b->b<w.heap.size:=by
 obtain ⟨γ0,h⟩:=hi.step;exact h.bd
theorem zdl (hΓ:qhd P Γ) {ops:Array Oper} {st:St} {W:List Tmp} {e:Ef} {bs:Nat} (hi:InvG P E st a w W F γ) (he:qal P Γ bs ops.toList o st.sl st.mem=some e) (hn:qr e.need)
  (hd:∀ x,o.dst=some x->x<st.n/\x ∉ W) (hgW:∀ j want g,o.guard=some (j,want)->(ops[j]?).bind (·.dst)=some g->g∈W) (K:Act->World->Prop) (Q:Exit->Act->World->Prop)
  (hK:∀ a' w' F' γ',InvG P E (e.go st) a' w' (o.dst.toList++W) F' γ'->K a' w') :
  if Region.wanted o (yielded ops a.tmps) then o.wp P a w K Q else K (a.put o.dst undef) w:=by
 have hrest:∀ (ks:List Nat) (i:Nat) (y:Ob),qg8 ks st.mem i=some y->st.mem i=some y:=by
  intro ks i y h;unfold qg8 at h;split at h
  ·exact h
  ·cases h
 have hrd:∀ (ks:List Nat) (d:Nat),qg8 (d::ks) st.mem d=none->st.mem d=none:=by
  intro ks d h;unfold qg8 at h;simpa using h
 unfold qal at he;split at he
 ·
  rename_i hgd;have hw:Region.wanted o (yielded ops a.tmps)=true:=by simp [Region.wanted,hgd]
  rw [if_pos hw];simp only at he;split at he<;>try trivial
  rename_i ef hcore;cases he;have howes:=qsa (a:=a) hΓ rfl hi.mem (kj hi) (Step.size' hi) (hrest _) (hrd _ _) hcore hn (qkc hi.sl _);refine howes K Q fun u w' F' γ' hs hm ha=>hK _ w' F' γ' ?_;have hnm:nmA ef.v=true:=by
   cases hv:ef.v with
   |maybe _ _ _=>rw [hv] at ha; exact ha.elim
   |_=>rfl
  refine qfn hi hd hs hm ?_ (fun g want y hv=>by have hv':ef.v=_:=hv; rw [hv'] at hnm; cases hnm);cases hv:ef.v with
  |maybe _ _ _=>rw [hv] at hnm; cases hnm
  |_=>rw [hv] at ha; exact ha
 ·
  rename_i j want hgd;split at he<;>try trivial
  rename_i g hg;have hgj:(ops[j]?).bind (·.dst)=some g:=by simpa using hg
  have hgW':=hgW j want g hgd hgj;have hyield:(yielded ops a.tmps j==some want)=true↔a.tmps.getD g undef = .bool want:=by
   unfold yielded;rw [hgj];simp only [Option.bind_some];cases hx:a.tmps[g]? with
   |none=>simp [ubh,hx,undef]
   |some y=>
    simp only [ubh,hx,ucv];cases y<;>simp
  split at he<;>try trivial
  rename_i gs hgs;simp only at he;split at he<;>try trivial
  rename_i ef hcore;split at he<;>try trivial
  rename_i hwr;cases he;by_cases hw:Region.wanted o (yielded ops a.tmps)=true
  ·rw [if_pos hw];have hgt:a.tmps.getD g undef = .bool want:=hyield.1 (by simpa [Region.wanted,hgd] using hw);have hall:=ze2 hi.sl 5 hgs hgt;have hneed:=yfm hn (fun x hx=>(hall x hx).2);have howes:=qsa (a:=a) hΓ rfl hi.mem (kj hi) (Step.size' hi) (hrest _) (hrd _ _) hcore hneed (zjm (fun x hx=>(hall x hx).1) hi.sl _);rw [hwr] at howes;refine howes K Q fun u w' F' γ' hs hm ha=>hK _ w' F' γ' ?_;exact qfn hi hd hs hm ⟨fun _=>ha,fun h=>absurd hgt h⟩ (fun g' w'' y hv=>by cases hv; exact hgW')
  ·rw [if_neg hw];have hgt:a.tmps.getD g undef ≠ .bool want:=fun h=>hw (by simpa [Region.wanted,hgd] using hyield.2 h);refine hK _ w F γ (qfn (wr:=[]) hi hd (Step.refl (kj hi)) hi.mem ⟨fun h=>absurd h hgt,fun _=>rfl⟩ (fun g' w'' y hv=>by cases hv; exact hgW'))
end
end Go.Ab

namespace Go.Ab
open Go Go.RowKit
section
variable {P:Program} {B:Nat} {o:Oper} {a:Act} {w w':World} {E:Env} {F F':Nat->Prop} {b:Nat} {γ γ' γ0:Nat->Value} {M m:Mem} {R:Nat->Value->Prop} {Γ:Gm}
theorem zb6 {op:Op} {t:Tmp} (h : .tmp t∈op.operands.toList):t∈qrv op:=uf3.2 ⟨.tmp t,h,rfl⟩
theorem zeh {sl sl':Nat->AV} {op:Op} (h:∀ t∈qrv op,sl' t=sl t):op.operands.toList.map (evA sl')=op.operands.toList.map (evA sl):=
 List.map_congr_left fun x hx=>by
  cases x with
  |tmp t=>exact h t (zb6 hx)
  |_=>rfl
theorem qu8 {sl sl':Nat->AV}:(n:Nat) -> {g:Tmp} -> {want:Bool} -> {gs:List (Tmp×Bool×Bool)}->qg5 sl n g want=some gs->(∀ t∈gs.map (·.1),sl' t=sl t)->qg5 sl' n g want=some gs
 |0,_,_,_,h,_=>by simp [qg5] at h
 |n+1,g,want,gs,h,hs=>by
  unfold qg5 at h ⊢;split at h<;>try trivial
  ·rename_i b hb;cases h;rw [hs g (by simp),hb]
  ·rename_i g0 w0 b hb;split at h<;>try trivial
   rename_i l hl;cases h;rw [hs g (by simp),hb];simp only;rw [qu8 n hl (fun t ht=>hs t (by simp only [ud0,ua2]; exact .inr ht))]
theorem zgb {A C:Type} {l:List A} {f g:A->List C} (h:∀ i∈l,f i=g i):l.flatMap f=l.flatMap g:=by
 induction l with
 |nil=>rfl
 |cons x l ih=>rw [uey,uey,h x (by simp),ih (fun i hi=>h i (ua8 _ hi))]
theorem za2 {op:Op} {vs:List AV} {m m':Mem} (h:∀ k∈qrl op vs m,m' k=m k):qrl op vs m'=qrl op vs m:=by
 unfold qrl at *;split
 ·rename_i hm;refine ubb (List.flatMap zda vs ++ ·) (zgb fun i hi=>?_);rw [h i (ucg _ hi)]
 ·rfl
 ·rfl
theorem qx7 {ks:List Nat} {m m':Mem} (h:∀ k∈ks,m' k=m k):qg8 ks m'=qg8 ks m:=by
 funext i;unfold qg8;split
 ·rename_i hc;exact h i (by simpa using hc)
 ·rfl
theorem zed {ops:List Oper} {sl sl':Nat->AV} {m m':Mem} {e:Ef} (he:qal P Γ b ops o sl m=some e) (hs:∀ t∈e.rd,sl' t=sl t) (hk:∀ k∈e.ks,m' k=m k):qal P Γ b ops o sl' m'=some e:=by
 unfold qal at he ⊢;split at he
 ·rename_i hgd;simp only at he ⊢;split at he<;>try trivial
  rename_i ef hcore;cases he;have h1:=zeh (op:=o.op) hs;rw [h1,za2 (fun k hk'=>hk k (ua8 _ hk')),qx7 hk,hcore]
 ·rename_i j want hgd;split at he<;>try trivial
  rename_i g hg;split at he<;>try trivial
  rename_i gs hgs;simp only at he;split at he<;>try trivial
  rename_i ef hcore;split at he<;>try trivial
  rename_i hwr;cases he;rw [qu8 5 hgs (fun t ht=>hs t (ucg _ ht))];simp only;have h1:(o.op.operands.toList.map fun x=>unm gs (evA sl' x))=(o.op.operands.toList.map fun x=>unm gs (evA sl x)):=
   List.map_congr_left fun x hx=>by
    cases x with
    |tmp t=>show unm gs (sl' t)=unm gs (sl t); rw [hs t (ubq _ (zb6 hx))]
    |_=>rfl
  rw [h1,za2 (fun k hk'=>hk k (ua8 _ hk')),qx7 hk,hcore];simp only [hwr]
theorem zm2 {u:List (Nat×Ob)} {k:Nat} (h:∀ x∈u,x.1≠k) (M:Mem):qx M u k=M k:=by
 induction u generalizing M with
 |nil=>rfl
 |cons x u ih=>
  obtain ⟨id,ob⟩:=x;simp only [qx];rw [ih (fun y hy=>h y (ua8 _ hy)),yp _ _ (Ne.symm (h (id,ob) (by simp)))]
theorem yfn {i j:Nat} {x y:Ob} (h:i≠j) (M:Mem):upd (upd M i x) j y=upd (upd M j y) i x:=by
 funext k;unfold upd;by_cases h1:k=i<;>by_cases h2:k=j<;>simp_all
theorem yfp {u:List (Nat×Ob)} {i:Nat} {x:Ob} (h:∀ y∈u,i≠y.1) (M:Mem):qx (upd M i x) u=upd (qx M u) i x:=by
 induction u generalizing M with
 |nil=>rfl
 |cons y u ih=>
  obtain ⟨id,ob⟩:=y;simp only [qx];rw [yfn (h (id,ob) (by simp)),ih (fun z hz=>h z (ua8 _ hz))]
theorem zz4 {u v:List (Nat×Ob)} (h:∀ x∈u,∀ y∈v,x.1≠y.1) (M:Mem):qx (qx M u) v=qx (qx M v) u:=by
 induction u generalizing M with
 |nil=>rfl
 |cons x u ih=>
  obtain ⟨id,ob⟩:=x;simp only [qx];rw [ih (fun y hy z hz=>h y (ua8 _ hy) z hz),yfp (fun y hy=>h (id,ob) (by simp) y hy)]
theorem qm5 {e f:Ef} (h:qg6 e f=true):(∀ t,e.dst=some t->t ∉ f.rd/\f.dst≠some t)/\(∀ t,f.dst=some t->t ∉ e.rd) /\
  (∀ x∈e.wr,x.1 ∉ f.ks)/\(∀ x∈e.wr,∀ y∈f.wr,x.1≠y.1)/\∀ y∈f.wr,y.1 ∉ e.ks:=by
 unfold qg6 at h;simp only [Bool.and_eq_true] at h;obtain ⟨⟨⟨h1,h2⟩,h3⟩,h4⟩:=h;refine ⟨fun t ht=>?_,fun t ht=>?_,fun x hx=>?_,fun x hx y hy=>?_,fun y hy=>?_⟩
 ·rw [ht] at h1;simpa using h1
 ·rw [ht] at h2;simpa using h2
 ·have:=ucj.1 h3 x hx;simp only [ua1] at this;simpa using this.1
 ·have:=ucj.1 h3 x hx;simp only [ua1] at this;have:=ucj.1 this.2 y hy;simpa using this
 ·have:=ucj.1 h4 y hy;simpa using this
theorem zzk (sl:Nat->AV) {d e:Option Tmp} {x y:AV} (h:∀ t,d=some t->e≠some t):qdj (qdj sl d x) e y=qdj (qdj sl e y) d x:=by
 funext t;simp only [qom];by_cases h1:d=some t<;>by_cases h2:e=some t<;>simp_all
theorem zps {e f:Ef} (h:qg6 e f=true) (s:St):f.go (e.go s)=e.go (f.go s):=by
 obtain ⟨h1,h2,h3,h4,h5⟩:=qm5 h;unfold Ef.go;simp only [St.mk.injEq,true_and];exact ⟨zzk _ (fun t ht=>(h1 t ht).2),zz4 h4 _,trivial⟩
theorem zjg {ops:List Oper} {o:Oper} {e f:Ef} {s:St} (h:qg6 e f=true) (hf:qal P Γ b ops o (e.go s).sl (e.go s).mem=some f):qal P Γ b ops o s.sl s.mem=some f:=by
 obtain ⟨h1,h2,h3,h4,h5⟩:=qm5 h;refine zed hf (fun t ht=>?_) (fun k hk=>?_)
 ·simp only [Ef.go,qom];rw [if_neg (fun hh=>(h1 t hh).1 ht)]
 ·simp only [Ef.go];exact (zm2 (fun x hx hh=>h3 x hx (hh ▸ hk)) _).symm
theorem zec {ops:List Oper} {o:Oper} {e f:Ef} {s:St} (h:qg6 e f=true) (he:qal P Γ b ops o s.sl s.mem=some e):qal P Γ b ops o (f.go s).sl (f.go s).mem=some e:=by
 obtain ⟨h1,h2,h3,h4,h5⟩:=qm5 h;refine zed he (fun t ht=>?_) (fun k hk=>?_)
 ·simp only [Ef.go,qom];rw [if_neg (fun hh=>h2 t hh ht)]
 ·simp only [Ef.go];exact zm2 (fun x hx hh=>h5 x hx (hh ▸ hk)) _
end
end Go.Ab

namespace Go.Ab
open Go Go.RowKit
section
variable {P:Program} {w w':World} {E:Env} {F F':Nat->Prop} {b:Nat} {γ γ' γ0:Nat->Value} {Γ:Gm} {ops:Array Oper} {es:List Ef}
structure StatOK (n:Nat) (ops:Array Oper):Prop where
 lt:∀ (i:Nat) (o:Oper) (t:Nat),ops[i]? = some o->o.dst=some t->t<n
 once:∀ (i j:Nat) (o o':Oper) (t:Nat),ops[i]? = some o->ops[j]? = some o'->o.dst=some t->o'.dst=some t->i=j
 guard:∀ (i:Nat) (o:Oper) (j:Nat) (want:Bool),ops[i]? = some o->o.guard=some (j,want)->j<i/\∃ e∈o.after,e.on=j/\Region.binds .any e=true
 back:∀ (i:Nat) (o:Oper),ops[i]? = some o->∀ e∈o.after,Region.binds .any e=true->e.on<i
theorem qx8 {n:Nat}:(l:List Oper)->(k:Nat)->(W:List Tmp)->qma n k W l=true->∀ (i:Nat) (o:Oper),l[i]? = some o ->
  (∀ t,o.dst=some t->t<n/\t ∉ W/\∀ (i':Nat) (o':Oper),i'<i->l[i']? = some o'->o'.dst≠some t) /\
  (∀ j want,o.guard=some (j,want)->j<k+i/\∃ e∈o.after,e.on=j/\Region.binds .any e=true) /\
  (∀ e∈o.after,Region.binds .any e=true->e.on<k+i)
 |[],_,_,_,i,o,h=>by simp at h
 |x::r,k,W,hs,i,o,h=>by
  simp only [qma,ua1] at hs;obtain ⟨⟨⟨h1,h2⟩,h3⟩,h4⟩:=hs;cases i with
  |zero=>
   simp only [ubn,ua0] at h;subst h;refine ⟨fun t ht=>?_,fun j want hg=>?_,fun e he hb=>?_⟩
   ·rw [ht] at h1;simp only [ua1,uab,uc9,List.contains_eq_mem,ubi] at h1;exact ⟨h1.1,h1.2,fun i' _ hi'=>absurd hi' (Nat.not_lt_zero _)⟩
   ·rw [hg] at h2;simp only [ua1,uab,List.any_eq_true,ubu] at h2;obtain ⟨a,e,he,hb⟩:=h2;exact ⟨a,e,ued.1 he,hb⟩
   ·have:=ucj.1 h3 e (ued.2 he);rw [hb] at this;simpa using this
  |succ i=>
   simp only [udy] at h;obtain ⟨g1,g2,g3⟩:=qx8 r (k+1) _ h4 i o h;refine ⟨fun t ht=>?_,fun j want hg=>?_,fun e he hb=>?_⟩
   ·obtain ⟨a,b,c⟩:=g1 t ht;refine ⟨a,fun hh=>b (ubq _ hh),fun i' o' hi' ho'=>?_⟩;cases i' with
    |zero=>
     simp only [ubn,ua0] at ho';subst ho';intro hh;exact b (ucg _ (by simp [hh]))
    |succ i'=>
     simp only [udy] at ho';exact c i' o' (by omega) ho'
   ·obtain ⟨a,b⟩:=g2 j want hg;exact ⟨by omega,b⟩
   ·have:=g3 e he hb;omega
theorem qpx {n:Nat} (h:qma n 0 [] ops.toList=true):StatOK n ops:=by
 have hs:=qx8 ops.toList 0 [] h;have hget:∀ (i:Nat) (o:Oper),ops[i]? = some o->ops.toList[i]? = some o:=fun i o ho=>by simpa using ho
 refine ⟨fun i o t ho ht=>((hs i o (hget i o ho)).1 t ht).1,fun i j o o' t ho ho' ht ht'=>?_,fun i o j want ho hg=>?_,fun i o ho e he hb=>?_⟩
 ·rcases udm i j with hlt|heq|hgt
  ·exact absurd ht (((hs j o' (hget j o' ho')).1 t ht').2.2 i o hlt (hget i o ho))
  ·exact heq
  ·exact absurd ht' (((hs i o (hget i o ho)).1 t ht).2.2 j o' hgt (hget j o' ho'))
 ·have:=(hs i o (hget i o ho)).2.1 j want hg;exact ⟨by omega,this.2⟩
 ·have:=(hs i o (hget i o ho)).2.2 e he hb;omega
def qeb (P:Program) (Γ:Gm) (b:Nat) (ops:Array Oper) (es:List Ef) (s':St):List Nat->St->Prop
 |[],s=>s=s'
 |i::r,s=>∃ o e,ops[i]? = some o/\es[i]? = some e/\qal P Γ b ops.toList o s.sl s.mem=some e/\qeb P Γ b ops es s' r (e.go s)
theorem qvv {s':St}:(l:List Oper)->(k:Nat)->(s:St)->(fs:List Ef)->qvs P Γ b ops.toList l s=some (fs,s')->(∀ i o,l[i]? = some o->ops[k+i]? = some o) ->
  (∀ i e,fs[i]? = some e->es[k+i]? = some e)->qeb P Γ b ops es s' (List.range' k l.length) s
 |[],k,s,fs,h,_,_=>by
  simp only [qvs,ua0,ua9] at h;exact h.2
 |o::r,k,s,fs,h,ho,he=>by
  simp only [qvs] at h;split at h<;>try trivial
  rename_i e heff;split at h<;>try trivial
  rename_i es' s2 hr;cases h;refine ⟨o,e,by simpa using ho 0 o rfl,by simpa using he 0 e rfl,heff,?_⟩;refine qvv r (k+1) _ es' hr (fun i o' hi=>?_) (fun i e' hi=>?_)
  ·have:=ho (i+1) o' (by simpa using hi)
   rwa [show k+1+i=k+(i+1) by omega]
  ·have:=he (i+1) e' (by simpa using hi)
   rwa [show k+1+i=k+(i+1) by omega]
theorem qht:{l:List Nat}->l.Pairwise (· < ·)->l.Nodup
 |[],_=>List.Pairwise.nil
 |x::r,h=>by
  obtain ⟨h1,h2⟩:=ub2.1 h;exact ub2.2 ⟨fun y hy=>Nat.ne_of_lt (h1 y hy),qht h2⟩
theorem ygv {s':St} {j:Nat}:(rem:List Nat)->(s:St)->qeb P Γ b ops es s' rem s->rem.Pairwise (· < ·)->j∈rem ->
  (∀ i∈rem,i<j->∀ e f,es[i]? = some e->es[j]? = some f->qg6 e f=true) ->
  ∃ o f,ops[j]? = some o/\es[j]? = some f/\qal P Γ b ops.toList o s.sl s.mem=some f/\qeb P Γ b ops es s' (rem.erase j) (f.go s)
 |[],_,_,_,hj,_=>by simp at hj
 |i::r,s,hr,hp,hj,hi=>by
  obtain ⟨o,e,ho,he,heff,hr'⟩:=hr;by_cases hij:i=j
  ·subst hij;refine ⟨o,e,ho,he,heff,?_⟩;rw [ufz];exact hr'
  ·have hjr:j∈r:=by
    rcases ua2.1 hj with h|h
    ·exact absurd h.symm hij
    ·exact h
   have hlt:i<j:=(ub2.1 hp).1 j hjr;obtain ⟨oj,f,hoj,hfj,hf,hrr⟩:=ygv r (e.go s) hr' (ub2.1 hp).2 hjr (fun k hk hkj=>hi k (ua8 _ hk) hkj);have hind:=hi i (by simp) hlt e f he hfj;refine ⟨oj,f,hoj,hfj,zjg hind hf,?_⟩;rw [List.erase_cons_tail (by simpa using hij)];refine ⟨o,e,ho,he,zec hind heff,?_⟩;rw [← zps hind];exact hrr
def qt7 (P:Program) (E:Env) (Γ:Gm) (b:Nat) (ops:Array Oper) (es:List Ef) (s':St) (rem:List Nat) (a:Act) (w:World):Prop:=
 ∃ st W F γ,InvG P E st a w W F γ/\(∀ t,t∈W↔∃ k o,ops[k]? = some o/\k ∉ rem/\o.dst=some t)/\qeb P Γ b ops es s' rem st/\st.n=s'.n
theorem zl8 (hΓ:qhd P Γ) {s':St} {rem:List Nat} {a:Act} (hi:qt7 P E Γ b ops es s' rem a w) {j:Nat} (hj:j∈rem) (hp:rem.Pairwise (· < ·))
  (hfront:∀ i∈rem,i<j->∀ e f,es[i]? = some e->es[j]? = some f->qg6 e f=true) (hguard:∀ o j' want,ops[j]? = some o->o.guard=some (j',want)->j' ∉ rem) (hst:StatOK s'.n ops)
  (hneed:∀ e∈es,qr e.need) (K:Act->World->Prop) (Q:Exit->Act->World->Prop) (hK:∀ a' w',qt7 P E Γ b ops es s' (rem.erase j) a' w'->K a' w'):wpOp P ops Q j K a w:=by
 obtain ⟨st,W,F,γ,hinv,hW,hruns,hn⟩:=hi;obtain ⟨o,f,ho,hf,heff,hr⟩:=ygv rem st hruns hp hj hfront;have hnd:rem.Nodup:=qht hp;unfold wpOp;rw [ho];simp only;have key:=zdl hΓ (ops:=ops) hinv heff (hneed f (List.mem_of_getElem? hf)) (fun x hx=>⟨by rw [hn]; exact hst.lt j o x ho hx,fun hxW=>by
   obtain ⟨k,ok,hok,hk,hd⟩:=(hW x).1 hxW;have:=hst.once j k o ok x ho hok hx hd;subst this;exact hk hj⟩)
  (fun j' want g hg hd=>by
   have h1:=hguard o j' want ho hg;cases ho':ops[j']? with
   |none=>rw [ho'] at hd; cases hd
   |some o'=>
    rw [ho'] at hd;exact (hW g).2 ⟨j',o',ho',h1,hd⟩)
  K Q (fun a' w' F' γ' hinv'=>hK a' w' ⟨f.go st,_,F',γ',hinv',fun t=>?_,hr,hn⟩)
 ·split
  ·rename_i hw;rw [if_pos hw] at key;exact .inl key
  ·rename_i hw;rw [if_neg hw] at key;exact key
 ·have hmem:∀ k,k ∉ rem.erase j↔k=j∨k ∉ rem:=fun k=>by
   rw [hnd.mem_erase_iff];constructor
   ·intro h;by_cases hk:k=j
    ·exact .inl hk
    ·exact .inr fun h'=>h ⟨hk,h'⟩
   ·rintro (h|h) ⟨h1,h2⟩
    ·exact h1 h
    ·exact h h2
  rw [ubc,hW];constructor
  ·rintro (h|⟨k,ok,h1,h2,h3⟩)
   ·exact ⟨j,o,ho,(hmem j).2 (.inl rfl),by simpa using h⟩
   ·exact ⟨k,ok,h1,(hmem k).2 (.inr h2),h3⟩
  ·rintro ⟨k,ok,h1,h2,h3⟩;rcases (hmem k).1 h2 with rfl|h
   ·rw [ho] at h1;cases h1;exact .inl (by simp [h3])
   ·exact .inr ⟨k,ok,h1,h,h3⟩
theorem qro {l:List Nat} (h:l.Pairwise (· < ·)) (j:Nat):(l.erase j).Pairwise (· < ·):=h.sublist List.erase_sublist
theorem zl9 (hΓ:qhd P Γ) {s':St} (hst:StatOK s'.n ops) (hneed:∀ e∈es,qr e.need) (Q:Exit->Act->World->Prop) (hQ:∀ a w,qt7 P E Γ b ops es s' [] a w->Q .normal a w) :
  (m k:Nat)->∀ (a:Act) (w:World),qt7 P E Γ b ops es s' (List.range' k m) a w->wpOps P ops Q (List.range' k m) a w
 |0,k,a,w,h=>hQ a w h
 |m+1,k,a,w,h=>by
  rw [uek,wpOps_cons];rw [uek] at h;have hp:(k::List.range' (k+1) m).Pairwise (· < ·):=by
   rw [← uek];exact ug0
  refine zl8 hΓ h (by simp) hp (fun i hi hlt=>?_) (fun o j' want ho hg hmem=>?_) hst hneed _ Q (fun a' w' h'=>?_)
  ·rw [← uek,uck] at hi;omega
  ·have:=(hst.guard k o j' want ho hg).1;rw [← uek,uck] at hmem;omega
  ·rw [ufz] at h';exact zl9 hΓ hst hneed Q hQ m (k+1) a' w' h'
theorem qqn:(l:List Oper)->(acc:List Nat)->(∀ i,i<acc.length->(xi acc l)[i]? = acc[i]?) /\
  ∀ i o,l[i]? = some o->∃ m,(xi acc l)[acc.length+i]? = some m/\∀ b,m.testBit b=true->∃ e∈o.after,Region.binds .any e=true/\(b=e.on∨((xi acc l).getD e.on 0).testBit b=true)
 |[],acc=>⟨fun i hi=>rfl,fun i o h=>by simp at h⟩
 |x::r,acc=>by
  simp only [xi];generalize hm:x.after.toList.foldr (fun e s=>if Region.binds .any e then 2 ^ e.on ||| acc.getD e.on 0 ||| s else s) 0=m;obtain ⟨h1,h2⟩:=qqn r (acc++[m]);have hpre:∀ i,i<acc.length->(xi (acc++[m]) r)[i]? = acc[i]? := fun i hi=>by
   rw [h1 i (by simp; omega),uc3 hi]
  refine ⟨hpre,fun i o ho=>?_⟩;cases i with
  |zero=>
   simp only [ubn,ua0] at ho;subst ho;refine ⟨m,by rw [udl,h1 acc.length (by simp)]; simp,fun b hb=>?_⟩;have hfold:∀ (l:List Edge) , (∀ e∈l,e∈x.after)->(l.foldr (fun e s=>if Region.binds .any e then 2 ^ e.on ||| acc.getD e.on 0 ||| s else s) 0).testBit b=true ->
     ∃ e∈x.after,Region.binds .any e=true/\(b=e.on∨((xi (acc++[m]) r).getD e.on 0).testBit b=true):=by
    intro l
    induction l with
    |nil=>intro _ h; simp at h
    |cons e l ih=>
     intro hl h;simp only [ufs] at h;split at h
     ·rename_i hb';simp only [Nat.testBit_or,Nat.testBit_two_pow,uca,uab] at h;rcases h with (h|h)|h
      ·exact ⟨e,hl e (by simp),hb',.inl h.symm⟩
      ·refine ⟨e,hl e (by simp),hb',.inr ?_⟩;by_cases hlt:e.on<acc.length
       ·rw [ua6,hpre _ hlt,← ua6];exact h
       ·rw [ua6,ucy (by omega)] at h;simp at h
      ·exact ih (fun e' he'=>hl e' (ua8 _ he')) h
     ·exact ih (fun e' he'=>hl e' (ua8 _ he')) h
   exact hfold x.after.toList (fun e he=>ued.1 he) (by rw [hm]; exact hb)
  |succ i=>
   simp only [udy] at ho;obtain ⟨m',h3,h4⟩:=h2 i o ho;refine ⟨m',?_,h4⟩;rw [uas,uf4] at h3
   rwa [show acc.length+(i+1)=acc.length+1+i by omega]
theorem qvi {k mask:Nat} {f:Ef}:(l:List Ef)->(i0:Nat)->qw8 k mask f i0 l=true->∀ i e,l[i]? = some e->i0+i<k->mask.testBit (i0+i)=true∨qg6 e f=true
 |[],_,_,i,e,h,_=>by simp at h
 |x::r,i0,hp,i,e,h,hlt=>by
  simp only [qw8] at hp;rw [if_pos (by omega)] at hp;simp only [ua1,uca] at hp;cases i with
  |zero=>
   simp only [ubn,ua0] at h;subst h;exact hp.1
  |succ i=>
   simp only [udy] at h;have:=qvi r (i0+1) hp.2 i e h (by omega)
   rwa [show i0+(i+1)=i0+1+i by omega]
theorem qve (h:qkp ops.toList es=true) {i j:Nat} {e f:Ef} (hi:es[i]? = some e) (hj:es[j]? = some f) (hlt:i<j) :
  ((xi [] ops.toList).getD j 0).testBit i=true∨qg6 e f=true:=by
 unfold qkp at h;simp only at h;have:=List.all_eq_true.1 h j (List.mem_range.2 (List.getElem?_eq_some_iff.1 hj).1);rw [hj] at this;cases hm:(xi [] ops.toList)[j]? with
 |none=>rw [hm] at this; cases this
 |some m=>
  rw [hm] at this;have:=qvi es 0 this i e hi (by omega);rw [ua6,hm];simpa using this
theorem zqe (hΓ:qhd P Γ) {s':St} (hst:StatOK s'.n ops) (hneed:∀ e∈es,qr e.need) (hord:qkp ops.toList es=true) (Q:Exit->Act->World->Prop)
  (hQ:∀ a w,qt7 P E Γ b ops es s' [] a w->Q .normal a w) :
  (fuel:Nat)->∀ (rem:List Nat) (listed:Array Bool) (a:Act) (w:World),rem.length<=fuel->rem.Pairwise (· < ·)->listed.size=ops.size->(∀ i,i<ops.size->(listed.getD i true=false↔i∈rem))->(∀ i∈rem,i<ops.size) ->
   (∀ k,k<ops.size->k ∉ rem->∀ i,((xi [] ops.toList).getD k 0).testBit i=true->i ∉ rem)->qt7 P E Γ b ops es s' rem a w->wpAny P .any ops Q fuel listed a w
 |fuel,[],listed,a,w,_,_,hsz,hl,_,_,hi=>by
  have hnil:Region.ready .any ops listed=[]:=by
   apply List.eq_nil_iff_forall_not_mem.2;intro i hmem;obtain ⟨h1,o,ho,_⟩:=ue2.1 hmem;have hlt:=(uaa.1 ho).1;simpa using (hl i hlt).1 h1
  cases fuel with
  |zero=>exact ⟨hnil,hQ a w hi⟩
  |succ fuel=>exact ⟨fun _=>hQ a w hi,fun i hmem=>by rw [hnil] at hmem; simp at hmem⟩
 |0,i::r,_,_,_,hlen,_,_,_,_,_,_=>by simp at hlen
 |fuel+1,i::r,listed,a,w,hlen,hp,hsz,hl,hlt,hmask,hi=>by
  have hready:i∈Region.ready .any ops listed:=by
   have hio:=hlt i (by simp);refine ue2.2 ⟨(hl i hio).2 (by simp),ops[i],by simp [hio],fun e he hb=>?_⟩;have hback:=hst.back i ops[i] (by simp [hio]) e he hb;have hnot:e.on ∉ i::r:=fun hh=>by
    rcases ua2.1 hh with h|h
    ·omega
    ·have:=(ub2.1 hp).1 _ h;omega
   have h1:¬ listed.getD e.on true=false:=fun h=>hnot ((hl e.on (by omega)).1 h);have hsz':e.on<listed.size:=by omega
   simp only [ubh,ubg hsz',ucv] at h1 ⊢;simpa using h1
  refine ⟨fun hnil=>by rw [hnil] at hready; simp at hready,fun j hj=>?_⟩;obtain ⟨hj1,o,ho,hjall⟩:=ue2.1 hj;have hjlt:=(uaa.1 ho).1;have hjrem:=(hl j hjlt).1 hj1;have hlisted:∀ b,listed.getD b false=true->b<ops.size/\b ∉ i::r:=fun b hb=>by
   have hbs:b<listed.size:=by
    rcases uar b listed.size with h|h
    ·exact h
    ·simp [uel h] at hb
   refine ⟨by omega,fun hmem=>?_⟩;have:=(hl b (by omega)).2 hmem;simp only [ubh,ubg hbs,ucv] at hb this;rw [hb] at this;cases this
  obtain ⟨m,hm1,hm2⟩:=(qqn ops.toList []).2 j o (by simpa using ho);simp only [ub9,uai] at hm1;have hmj:∀ b,((xi [] ops.toList).getD j 0).testBit b=true->b ∉ i::r:=fun b hb=>by
   rw [ua6,hm1] at hb;obtain ⟨e,he,hb',hor⟩:=hm2 b hb;obtain ⟨h1,h2⟩:=hlisted e.on (hjall e he hb');rcases hor with rfl|h
   ·exact h2
   ·exact hmask e.on h1 h2 b h
  have hnd:(i::r).Nodup:=qht hp;refine zl8 hΓ hi hjrem hp (fun k hk hkj e f he hf=>?_) (fun o' j' want ho' hg hmem=>?_) hst hneed _ Q (fun a' w' h'=>?_)
  ·exact (qve hord he hf hkj).resolve_left fun h=>hmj k h hk
  ·obtain ⟨_,e,he,heq,hb⟩:=hst.guard j o' j' want ho' hg;rw [ho] at ho';cases ho';have:=(hlisted e.on (hjall e he hb)).2;rw [heq] at this;exact this hmem
  ·refine zqe hΓ hst hneed hord Q hQ fuel _ (listed.setIfInBounds j true) a' w' ?_ (qro hp j) (by simpa using hsz) (fun k hk=>?_) (fun k hk=>hlt k (ug1 hk)) (fun k hk hkr b hb=>?_) h'
   ·rw [List.length_erase_of_mem hjrem];omega
   ·rw [hnd.mem_erase_iff];by_cases hkj:j=k
    ·subst hkj;simp [hsz,hjlt]
    ·simp only [ubh,uew hkj];rw [← ubh,hl k hk];constructor
     ·exact fun h=>⟨Ne.symm hkj,h⟩
     ·exact fun h=>h.2
   ·rw [hnd.mem_erase_iff] at hkr ⊢;rintro ⟨h1,h2⟩;by_cases hkj:k=j
    ·subst hkj;exact hmj b hb h2
    ·exact hmask k hk (fun hh=>hkr ⟨hkj,hh⟩) b hb h2
end
end Go.Ab

namespace Go.Ab
open Go Go.RowKit
section
variable {P:Program} {w w':World} {E:Env} {F F':Nat->Prop} {bs:Nat} {γ γ' γ0:Nat->Value} {Γ:Gm} {es:List Ef} {R:Nat->Value->Prop}
def I (P:Program) (E:Env) (s:St) (a:Act) (w:World):Prop:=∃ F γ,InvG P E s a w [] F γ
theorem zlb {st:St} {a:Act} {W:List Tmp} (h:InvG P E st a w W F γ):InvG P E st a { w with drawn:=w.drawn+1 } W F γ:=by
 obtain ⟨h1,h2,⟨γ0,h3⟩,h4,h5,h6,h7⟩:=h;refine ⟨h1,h2,⟨γ0,⟨h3.hF,h3.hw,h3.hR,h3.old,h3.os,h3.tape,h3.output,h3.size,h3.bd,h3.new⟩⟩,⟨fun id o ho=>?_,h4.apart⟩,fun t=>?_,h6,fun t=>qz.mono (w:=w) (w':={ w with drawn:=w.drawn+1 }) (fun _ h=>h) (fun _ _=>rfl) (fun _ _ h=>h) _ (h7 t)⟩
 ·refine (h4.ob id o ho).keep (fun _ h=>h) (fun _ _=>rfl) (fun _ _ h=>h) (fun b hb=>⟨rfl,?_⟩);exact (qgc (h4.ob id o ho) hb).2.1
 ·exact vz.mono (w:=w) (w':={ w with drawn:=w.drawn+1 }) (F':=F) (R':=qp st.mem γ) (fun _ h=>h) (fun _ _=>rfl) (fun _ _ h=>h) (h5 t)
theorem qit {st:St} {a:Act} {W:List Tmp} (h:InvG P E st a w W F γ):InvG P E (qid st) a w [] F γ:=by
 obtain ⟨h1,h2,h3,h4,h5,h6,h7⟩:=h;refine ⟨h1,h2,h3,h4,fun t=>?_,fun t g want v ht=>?_,h7⟩
 ·have:=h5 t;show vz P w F _ _ (clr st.sl t) _;unfold clr;split
  ·trivial
  ·exact this
 ·exfalso;have ht':clr st.sl t = .maybe g want v:=ht;unfold clr at ht';split at ht'
  ·cases ht'
  ·rename_i hne;exact hne _ _ _ ht'
theorem zy7 {ops:List Oper} {s':St}:(l:List Oper)->(s:St)->(fs:List Ef)->qvs P Γ bs ops l s=some (fs,s')->s'.n=s.n
 |[],s,fs,h=>by
  simp only [qvs,ua0,ua9] at h;rw [h.2]
 |o::r,s,fs,h=>by
  simp only [qvs] at h;split at h<;>try trivial
  split at h<;>try trivial
  rename_i es' s2 hr;cases h;have:=zy7 r _ es' hr;exact this
def Tr.sat (Q:XE->St->Prop):Tr->Prop
 |.leaf e s=>Q e s
 |.br b x y=>(b=true->x.sat Q)/\(b=false->y.sat Q)
 |.need p x=>p/\x.sat Q
 |.two p x y=>(p->x.sat Q)/\y.sat Q
theorem Tr.sat_mono {Q Q':XE->St->Prop} (h:∀ e s,Q e s->Q' e s):{t:Tr}->t.sat Q->t.sat Q'
 |.leaf _ _,hq=>h _ _ hq
 |.br _ _ _,hq=>⟨fun hb=>Tr.sat_mono h (hq.1 hb),fun hb=>Tr.sat_mono h (hq.2 hb)⟩
 |.need _ _,hq=>⟨hq.1,Tr.sat_mono h hq.2⟩
 |.two _ _ _,hq=>⟨fun hb=>Tr.sat_mono h (hq.1 hb),Tr.sat_mono h hq.2⟩
theorem qa0 {Q:XE->St->Prop} {t:Tr}:(ns:List Prop)->(needL ns t).sat Q->qr ns/\t.sat Q
 |[],h=>⟨trivial,h⟩
 |p::ns,h=>by
  have h':p/\(needL ns t).sat Q:=h;obtain ⟨h1,h2⟩:=qa0 ns h'.2;exact ⟨xz.2 ⟨h'.1,h1⟩,h2⟩
theorem qvc {Q:XE->St->Prop} {t:Tr}:(es:List Ef)->(zhl es t).sat Q->(∀ e∈es,qr e.need)/\t.sat Q
 |[],h=>⟨fun _ he=>by simp at he,h⟩
 |e::es,h=>by
  have h':qr e.need/\(zhl es t).sat Q:=qa0 _ h;obtain ⟨h1,h2⟩:=qvc es h'.2;exact ⟨fun x hx=>by
   rcases ua2.1 hx with rfl|hx
   ·exact h'.1
   ·exact h1 x hx,h2⟩
def XE.ex:XE->Exit
 |.normal=>.normal
 |.exit id=>.exit id
 |.ret=>.ret
 |.panic p=>.panic [{ v:=p.val,recovered:=false }]
 |.val _=>.goto 0
 |.jump l=>.goto l
def qa8 (P:Program) (E:Env) (Q:XE->St->Prop) (e:Exit) (a:Act) (w:World):Prop:=∃ x s,x.ex=e/\I P E s a w/\Q x s
def yak (P:Program) (E:Env) (a:Act) (Q:XE->St->Prop) (e:Ending) (w':World):Prop:=
 ∃ x s' F' γ',Q x s'/\InvG P E s' a w' [] F' γ'/\match x with
  |.val v=>∃ u,e = .returned u/\qz P w' F' (qp s'.mem γ') v u
  |.panic p=>e = .panicked [{ v:=p.val,recovered:=false }]
  |_=>False
def qhy (P:Program) (K:Nat->FuncId->List AV->St->Option Tr):Prop:=
 ∀ d f args s t,K d f args s=some t->(∀ args w,(callFunc f args).run P w = .ok (.enter f args) w) /\
  ∀ (E:Env) (a:Act) (w:World) (F:Nat->Prop) (γ:Nat->Value) (vs:List Value) (Q:XE->St->Prop),InvG P E s a w [] F γ->zr P w F (qp s.mem γ) args vs->t.sat Q->Calls P f vs.toArray w (yak P E a Q)
structure CxOK (P:Program) (C:Cx):Prop where
 mo:P.follows .mixedOrders=true
 ct:qhd P C.Γ
 pc:∀ f pc,C.Pi f=some pc->qdl P f pc
 kk:qhy P C.K
theorem InvG.weaken {st:St} {a:Act} (h:InvG P E st a w [] F γ) (W:List Tmp):InvG P E st a w W F γ:=
 ⟨h.n,h.df,h.step,h.mem,h.sl,fun t g want v ht=>absurd (h.hg t g want v ht) (by simp),h.gh⟩
theorem qld {tm:Tmp->Value}:{xs:List AV} -> {vs:List Value}->qox P w F R tm xs vs->xs.all nmA=true->zr P w F R xs vs
 |[],[],_,_=>trivial
 |x::xs,v::vs,h,hn=>by
  simp only [uc8,ua1] at hn;exact ⟨h.1.plain hn.1,qld h.2 hn.2⟩
theorem zd9 {caps:List AC} {arr:Array Value} (h1:arr.size=caps.length) (h2:qu P w F R caps (fun j u=>arr[j]? = some u)):zr P w F R (caps.map .c) arr.toList:=by
 have:∀ (caps:List AC) (l:List Value),l.length=caps.length->qu P w F R caps (fun j u=>l[j]? = some u)->zr P w F R (caps.map .c) l:=by
  intro caps
  induction caps with
  |nil=>
   intro l hl _;cases l with
   |nil=>trivial
   |cons _ _=>simp at hl
  |cons c r ih=>
   intro l hl h;cases l with
   |nil=>simp at hl
   |cons v l=>
    obtain ⟨⟨u,h1,h2,h3⟩,h4⟩:=h;simp only [ubn,ua0] at h1;subst h1;exact ⟨⟨h2,h3⟩,ih l (by simpa using hl) (by simpa using h4)⟩
 exact this caps arr.toList (by simpa using h1) (by simpa using h2)
theorem qle:{xs ys:List AV} -> {vs us:List Value}->zr P w F R xs vs->zr P w F R ys us->zr P w F R (xs++ys) (vs++us)
 |[],_,[],_,_,h=>h
 |_::_,_,_::_,_,h,k=>⟨h.1,qle h.2 k⟩
theorem qtf {tm:Tmp->Value}:{x:AV} -> {u:Value}->qz P w F R x u->vz P w F R tm x u
 |.dead,_,h=>h
 |.c _,_,h=>h
 |.agg _,_,h=>h
 |.tup _,_,h=>h
 |.optr _ _ _ _,_,h=>h
 |.aptr _ _ _,_,h=>h
 |.maybe _ _ _,_,h=>h.elim
theorem Tr.sat.turn {Q Q':XE->St->Prop} {t:Tr} (h:t.sat Q) (hq:∀ e s,Q e s->Q' e s):t.sat Q':=Tr.sat_mono hq h
theorem ql1 {A:Option Addr} {n c d:Nat} {el t:TypeId} (hu:P.underlying t=some (.slice el)):(Op.equalIn (d+1) t (.slice A n c) (.slice none 0 0)).run P w = .ok A.isNone w:=by
 cases A<;>simp [Op.equalIn,uah hu]
theorem yj5 {A:Option Addr} {n c:Nat} {el t:TypeId} (hu:P.underlying t=some (.slice el)) (x y:Operand) :
  (do eqGuard .eql t x y (.slice A n c) (.slice none 0 0); binOp .eql t (.slice A n c) (.slice none 0 0):Sem Value).run P w = .ok (.bool A.isNone) w:=by
 have h1:binOp .eql t (.slice A n c) (.slice none 0 0)=(do pure (.bool (← Op.equal t (.slice A n c) (.slice none 0 0)))):=rfl;have h2:Op.equal t (.slice A n c) (.slice none 0 0)=Op.equalIn (9999+1) t (.slice A n c) (.slice none 0 0):=rfl;have h3:=ql1 (w:=w) (A:=A) (n:=n) (c:=c) (d:=9999) hu;rw [h1,h2];simp [eqGuard,h3]
theorem zbz {C:Cx} (hC:CxOK P C) {o:Oper} {st:St} {a:Act} {W:List Tmp} {t:Tr} {b:Nat} (hi:InvG P E st a w W F γ) (h:zmo P C b o st=some t) (K:Act->World->Prop) (Q:Exit->Act->World->Prop)
  (hq:t.sat fun x s'=>match x with
   |.val v=>∀ u w' F' γ',InvG P E s' a w' [] F' γ'->qz P w' F' (qp s'.mem γ') v u->K (a.put o.dst u) w'
   |.panic p=>∀ w',I P E s' a w'->Q (.panic [{ v:=p.val,recovered:=false }]) a w'
   |_=>True):o.guard=none/\o.wp P a w K Q:=by
 have hcl:=qit hi;unfold zmo at h;split at h<;>try trivial
 rotate_left
 ·rename_i t0 x0 y0 yt T l hg ho hvs;split at h<;>try (simp at h; done)
  rename_i el hu;simp only [if_true,ua0] at h;subst h;refine ⟨hg,?_⟩;have hev:=qkc hi.sl o.op.operands.toList;rw [hvs] at hev;have hops:o.op.operands.toList.map a.eval=[a.eval x0,a.eval y0]:=by simp [ho,Op.operands]
  rw [hops] at hev;obtain ⟨⟨_,A,c,e1,e2,e3,e4⟩,⟨_,e5⟩,_⟩:=hev;have e1':a.eval x0 = .slice A l.length c:=e1.symm;have e5':a.eval y0 = .slice none 0 0:=e5;have hrun:(execOp a.eval o).run P w = .ok (.value (.bool A.isNone)) w:=by
   refine kv (S:=do eqGuard .eql t0 x0 y0 (a.eval x0) (a.eval y0); binOp .eql t0 (a.eval x0) (a.eval y0)) (by unfold execOp; rw [ho]) ?_;rw [e1',e5'];exact yj5 hu x0 y0
  unfold Oper.wp;rw [hrun];cases A with
  |none=>
   have hl:l=[]:=by
    cases l with
    |nil=>rfl
    |cons x r=>obtain ⟨ad,h,_⟩:=e4 0 x rfl; cases h
   exact hq.1 hl _ w F γ hcl ⟨rfl,rfl⟩
  |some ad=>exact hq.2 _ w F γ hcl ⟨rfl,rfl⟩
 rename_i f0 cargs ts f caps args hg ho hvs;refine ⟨hg,?_⟩;have hev:=qkc hi.sl o.op.operands.toList;rw [hvs] at hev;have hops:o.op.operands.toList.map a.eval=a.eval f0::(cargs.map a.eval).toList:=by simp [ho,Op.operands,Call.operands]
 rw [hops] at hev;obtain ⟨⟨_,hfv⟩,hargs⟩:=hev;obtain ⟨cv,e1,e2,e3⟩:=hfv;have hcaps:=zd9 e2 e3;have hrun:(∀ args w,(callFunc f args).run P w = .ok (.enter f args) w)->(execOp a.eval o).run P w = .ok (.enter f (cargs.map a.eval++cv)) w:=fun hen=>by
  unfold execOp;rw [ho];simp [resolve,e1,Deferred.ofValue,invoke,hen]
 have harr:((cargs.map a.eval).toList++cv.toList).toArray=cargs.map a.eval++cv:=by simp
 split at h
 ·rename_i pc hpc;split at h<;>try trivial
  rename_i xs u hrs;split at h<;>try trivial
  rename_i x n hdec;cases h;obtain ⟨hn,hq⟩:=qa0 _ hq;obtain ⟨hn1,hn2⟩:=xl.1 hn;have hall:(args++caps.map AV.c).all nmA=true:=by
   have:∀ (l:List AV) (u:List Value),(∃ xs u',qcj st.mem l=some (xs,u'))->l.all nmA=true:=by
    intro l
    induction l with
    |nil=>intros; rfl
    |cons y l ih=>
     rintro us ⟨xs,u',hx⟩;simp only [qcj] at hx;split at hx<;>try trivial
     rename_i h1 h2;simp only [uc8,ua1];refine ⟨?_,ih [] ⟨_,_,h2⟩⟩;cases y<;>first|rfl|(simp [rsA] at h1)
   exact this _ [] ⟨_,_,hrs⟩
  have hargs':zr P w F (qp st.mem γ) (args++caps.map AV.c) ((cargs.map a.eval).toList++cv.toList):=by
   refine qle (qld hargs ?_) hcaps;rw [ufv,ua1] at hall;exact hall.1
  obtain ⟨F1,s1,m1,_,r1⟩:=wv hi.mem (kj hi) (qa6.of fun _ _ h=>h) hrs hargs';have hps:=qf9 hC.ct hdec hn1 r1;obtain ⟨hen,hcalls⟩:=hC.pc f pc hpc;have hc:=hcalls w F1 x _ s1.bd hps hn2;unfold Oper.wp;rw [hrun hen];show Calls P f (cargs.map a.eval++cv) w _;rw [harr] at hc;have hstate:∀ w2 F2,(∀ b,F1 b->F2 b)->(∀ b,F2 b->(F1 b∨w.heap.size<=b)/\b<w2.heap.size)->Below w.heap.size w w2->InvG P E (qid ⟨st.n,st.sl,qx st.mem u,st.gs⟩) a w2 [] F2 γ:=fun w2 F2 hF2 hF2' hbel=>by
   obtain ⟨s2,m2⟩:=Step.below m1 (Step.size' hi) s1.bd hbel hF2 hF2';have s3:=s1.trans s2;refine qit (W:=W) ⟨hi.n,hi.df,?_,m2,fun t=>(hi.sl t).mono s3.hF s3.hw s3.hR,hi.hg,fun t=>s3.repA (hi.gh t)⟩;obtain ⟨γ0,h0⟩:=hi.step;exact ⟨γ0,h0.trans s3⟩
  refine hc.mono fun e w2 hp=>?_;rcases hp with ⟨hbad,v2,F2,rfl,hbel,hF2,hF2',hrep⟩|⟨hbad,rfl,hbel⟩
  ·exact hq.2 hbad v2 w2 F2 γ (hstate w2 F2 hF2 hF2' hbel) (qsg hrep)
  ·exact hq.1 hbad w2 ⟨F1,γ,hstate w2 F1 (fun _ h=>h) (fun b hb=>⟨.inl hb,ubj (s1.bd b hb) hbel.size⟩) hbel⟩
 ·
  split at h<;>try trivial
  rename_i hall;obtain ⟨hen,hcalls⟩:=hC.kk _ _ _ _ _ h;have hargs':zr P w F (qp st.mem γ) (args++caps.map AV.c) ((cargs.map a.eval).toList++cv.toList):=qle (qld hargs hall) hcaps;have hc:=hcalls E a w F γ _ _ hcl hargs' hq;unfold Oper.wp;rw [hrun hen];show Calls P f (cargs.map a.eval++cv) w _;rw [harr] at hc;refine hc.mono fun e w2 hp=>?_;obtain ⟨x,s',F',γ',hx,hinv,hend⟩:=hp;cases x with
  |val v=>
   obtain ⟨u,rfl,hu⟩:=hend;exact hx u w2 F' γ' hinv hu
  |panic p=>
   have he:e = .panicked [{ v:=p.val,recovered:=false }]:=hend;subst he;exact hx w2 ⟨F',γ',hinv⟩
  |normal=>exact hend.elim
  |exit _=>exact hend.elim
  |ret=>exact hend.elim
  |jump _=>exact hend.elim
theorem Tr.sat_bindV {f:AV->St->Option Tr} {Q:XE->St->Prop}:{t t':Tr}->t.bindV f=some t'->t'.sat Q->t.sat fun e s=>match e with
  |.val v=>∃ u,f v s=some u/\u.sat Q
  |.panic p=>Q (.panic p) s
  |_=>False
 |.leaf e s,t',h,hq=>by
  cases e with
  |val v=>exact ⟨t',h,hq⟩
  |panic p=>
   simp only [Tr.bindV,ua0] at h;subst h;exact hq
  |normal=>simp [Tr.bindV] at h
  |exit _=>simp [Tr.bindV] at h
  |ret=>simp [Tr.bindV] at h
  |jump _=>simp [Tr.bindV] at h
 |.br b x y,t',h,hq=>by
  simp only [Tr.bindV] at h;split at h<;>try trivial
  rename_i x' y' hx hy;cases h;exact ⟨fun hb=>Tr.sat_bindV hx (hq.1 hb),fun hb=>Tr.sat_bindV hy (hq.2 hb)⟩
 |.need p x,t',h,hq=>by
  simp only [Tr.bindV] at h;split at h<;>try trivial
  rename_i x' hx;cases h;exact ⟨hq.1,Tr.sat_bindV hx hq.2⟩
 |.two p x y,t',h,hq=>by
  simp only [Tr.bindV] at h;split at h<;>try trivial
  rename_i x' y' hx hy;cases h;exact ⟨fun hb=>Tr.sat_bindV hx (hq.1 hb),Tr.sat_bindV hy hq.2⟩
theorem qs1 {C:Cx} (hC:CxOK P C) {ops:Array Oper} {n:Nat} (hst:StatOK n ops) {Q:XE->St->Prop}:(l:List Oper)->(k:Nat)->(∀ i o,l[i]? = some o->ops[k+i]? = some o)->∀ (st:St) (a:Act) (w:World) (W:List Tmp) (F:Nat->Prop) (γ:Nat->Value) (t:Tr),
  InvG P E st a w W F γ->st.n=n->(∀ x,x∈W↔∃ i o,i<k/\ops[i]? = some o/\o.dst=some x)->zdm P C bs ops.toList l st=some t->t.sat Q->wpOps P ops (qa8 P E Q) (List.range' k l.length) a w
 |[],k,_,st,a,w,W,F,γ,t,hi,hn,hW,h,hq=>by
  simp only [zdm,ua0] at h;subst h;exact ⟨.normal,_,rfl,⟨F,γ,qit hi⟩,hq⟩
 |o::r,k,hl,st,a,w,W,F,γ,t,hi,hn,hW,h,hq=>by
  have hok:ops[k]? = some o:=by simpa using hl 0 o rfl
  have hl':∀ i o,r[i]? = some o->ops[k+1+i]? = some o:=fun i o' hi'=>by
   have:=hl (i+1) o' (by simpa using hi')
   rwa [show k+1+i=k+(i+1) by omega]
  have hd:∀ x,o.dst=some x->x<st.n/\x ∉ W:=fun x hx=>⟨by rw [hn]; exact hst.lt k o x hok hx,fun hxW=>by
   obtain ⟨i,oi,hik,hoi,hdi⟩:=(hW x).1 hxW;have:=hst.once k i o oi x hok hoi hx hdi;omega⟩
  have hW':∀ x,x∈o.dst.toList++W↔∃ i oi,i<k+1/\ops[i]? = some oi/\oi.dst=some x:=fun x=>by
   rw [ubc,hW];constructor
   ·rintro (h|⟨i,oi,h1,h2,h3⟩)
    ·exact ⟨k,o,by omega,hok,by simpa using h⟩
    ·exact ⟨i,oi,by omega,h2,h3⟩
   ·rintro ⟨i,oi,h1,h2,h3⟩;by_cases hik:i=k
    ·subst hik;rw [hok] at h2;cases h2;exact .inl (by simp [h3])
    ·exact .inr ⟨i,oi,by omega,h2,h3⟩
  rw [List.length_cons,List.range'_succ,wpOps_cons];unfold wpOp;rw [hok];simp only;simp only [zdm] at h;split at h
  ·rename_i e he;split at h<;>try trivial
   rename_i t' ht';cases h;obtain ⟨hne,hq⟩:=qa0 _ hq;have key:=zdl hC.ct (ops:=ops) hi he hne hd (fun j want g hg hdj=>by
    have hj:=(hst.guard k o j want hok hg).1;cases ho':ops[j]? with
    |none=>rw [ho'] at hdj; cases hdj
    |some o'=>
     rw [ho'] at hdj;exact (hW g).2 ⟨j,o',hj,ho',hdj⟩) (wpOps P ops (qa8 P E Q) (List.range' (k+1) r.length)) (qa8 P E Q)
    (fun a' w' F' γ' hinv=>qs1 hC hst r (k+1) hl' _ a' w' _ F' γ' t' hinv hn hW' ht' hq)
   split
   ·rename_i hw;rw [if_pos hw] at key;exact .inl key
   ·rename_i hw;rw [if_neg hw] at key;exact key
  ·split at h<;>try trivial
   rename_i t1 ht1;have hsat:=Tr.sat_bindV h hq;obtain ⟨hg,hwp⟩:=zbz hC hi ht1 (wpOps P ops (qa8 P E Q) (List.range' (k+1) r.length)) (qa8 P E Q) (hsat.turn fun x s' hx=>by
    cases x with
    |val v=>
     obtain ⟨u,hu,hqu⟩:=hx;intro v2 w2 F2 γ2 hinv hrep;have hn2:s'.n=n:=by
      have h1:=hinv.n;have h2:=hi.n;omega
     have hput:=qfn (d:=o.dst) (v:=v) (wr:=[]) (hinv.weaken W) (fun x hx=>⟨by rw [hn2]; exact hst.lt k o x hok hx,(hd x hx).2⟩) (Step.refl (kj hinv)) hinv.mem (qtf hrep) (fun g want y hv=>by
      subst hv;exact hrep.elim)
     exact qs1 hC hst r (k+1) hl' _ _ w2 _ F2 γ2 u hput hn2 hW' hu hqu
    |panic p=>exact fun w2 hinv=>⟨.panic p,s',rfl,hinv,hx⟩
    |normal=>trivial
    |exit _=>trivial
    |ret=>trivial
    |jump _=>trivial)
   have hw:Region.wanted o (yielded ops a.tmps)=true:=by simp [Region.wanted,hg]
   rw [if_pos hw];exact .inl hwp
theorem yo6 (hΓ:qhd P Γ) {o:Oper} {ops:Array Oper} {st:St} {a:Act} {W:List Tmp} {e:Ef} (hg:o.guard=none) (hi:InvG P E st a w W F γ) (he:qal P Γ bs ops.toList o st.sl st.mem=some e) (hn:qr e.need)
  (hd:∀ x,o.dst=some x->x<st.n/\x ∉ W) (K:Act->World->Prop) (Q:Exit->Act->World->Prop)
  (hK:∀ u w' F' γ',InvG P E (e.go st) (a.put o.dst u) w' (o.dst.toList++W) F' γ'->K (a.put o.dst u) w'):o.wp P a w K Q:=by
 have hrest:∀ (ks:List Nat) (i:Nat) (y:Ob),qg8 ks st.mem i=some y->st.mem i=some y:=by
  intro ks i y h;unfold qg8 at h;split at h
  ·exact h
  ·cases h
 have hrd:∀ (ks:List Nat) (d:Nat),qg8 (d::ks) st.mem d=none->st.mem d=none:=by
  intro ks d h;unfold qg8 at h;simpa using h
 unfold qal at he;rw [hg] at he;simp only at he;split at he<;>try trivial
 rename_i ef hcore;cases he;have howes:=qsa (a:=a) hΓ rfl hi.mem (kj hi) (Step.size' hi) (hrest _) (hrd _ _) hcore hn (qkc hi.sl _);refine howes K Q fun u w' F' γ' hs hm ha=>hK u w' F' γ' ?_;have hnm:nmA ef.v=true:=by
  cases hv:ef.v with
  |maybe _ _ _=>rw [hv] at ha; exact ha.elim
  |_=>rfl
 refine qfn hi hd hs hm ?_ (fun g want y hv=>by have hv':ef.v=_:=hv; rw [hv'] at hnm; cases hnm);cases hv:ef.v with
 |maybe _ _ _=>rw [hv] at hnm; cases hnm
 |_=>rw [hv] at ha; exact ha
def qmc (a:Act) (W:List Tmp) (kn:List (Tmp×Bool)):Prop:=∀ x∈kn,x.1∈W/\a.tmps.getD x.1 undef = .bool x.2
theorem zdd:{kn:List (Tmp×Bool)} -> {t:Tmp} -> {v:Bool}->knA kn t=some v->(t,v)∈kn
 |[],_,_,h=>by simp [knA] at h
 |(x,c)::r,t,v,h=>by
  simp only [knA] at h;split at h
  ·rename_i hx;injection h with h
   subst hx;subst h;exact ubk
  ·exact ua8 _ (zdd h)
theorem qmt {a:Act} {W:List Tmp} {kn:List (Tmp×Bool)} (hk:qmc a W kn) {x:Operand} {c:Bool} (h:zgz kn x=some c):a.eval x = .bool c:=by
 unfold zgz at h;split at h
 ·exact (hk _ (zdd h)).2
 ·cases h;rfl
 ·cases h
theorem yja {a:Act} {W:List Tmp} {kn:List (Tmp×Bool)} (hk:qmc a W kn) {o:Oper} {x:Operand} (h:ycq kn o.op=some x):(execOp a.eval o).run P w = .ok (.value (a.eval x)) w:=by
 unfold ycq at h;split at h
 ·rename_i y ho;cases h;unfold execOp;rw [ho];simp
 ·rename_i c y z ho;split at h
  ·rename_i hc;cases h;have hv:=qmt hk hc;unfold execOp;rw [ho];simp [hv,asBool]
  ·rename_i hc;cases h;have hv:=qmt hk hc;unfold execOp;rw [ho];simp [hv,asBool]
  ·cases h
 ·cases h
theorem qmc.put {a:Act} {W:List Tmp} {kn:List (Tmp×Bool)} {d:Option Tmp} {u:Value} (hk:qmc a W kn) (hd:∀ x,d=some x->x<a.tmps.size/\x ∉ W):qmc (a.put d u) (d.toList++W) kn:=fun x hx=>by
 obtain ⟨h1,h2⟩:=hk x hx;refine ⟨ubq _ h1,?_⟩;rw [qtd a d u x.1 (fun y hy=>(hd y hy).1),if_neg (fun he=>(hd x.1 he).2 h1)];exact h2
theorem yi7 {o:Oper} {a:Act} {K:Act->World->Prop} {Q:Exit->Act->World->Prop} (h:(zky o).wp P a w K Q):o.wp P a w K Q:=by
 cases o;exact h
theorem zt5 {C:Cx} (hC:CxOK P C) {ops:Array Oper} {n:Nat} {Q:XE->St->Prop} {o:Oper} {kn:List (Tmp×Bool)} {st:St} {a:Act} {W:List Tmp} {kf:List (Tmp×Bool)->St->Option Tr} {t:Tr} (K:Act->World->Prop)
  (hi:InvG P E st a w W F γ) (hk:qmc a W kn) (hn:st.n=n) (hd:∀ x,o.dst=some x->x<st.n/\x ∉ W) (h:zdk P C bs ops.toList kn o st kf=some t) (hq:t.sat Q)
  (hcont:∀ kn' st' a' w' F' γ' t',kf kn' st'=some t'->t'.sat Q->InvG P E st' a' w' (o.dst.toList++W) F' γ'->qmc a' (o.dst.toList++W) kn'->st'.n=n->K a' w'):o.wp P a w K (qa8 P E Q):=by
 have hsz:∀ x,o.dst=some x->x<a.tmps.size/\x ∉ W:=fun x hx=>by rw [hi.n]; exact hd x hx
 have hother:∀ t,(match qal P C.Γ bs ops.toList (zky o) st.sl st.mem with
   |some e=>match kf kn (e.go st) with
    |some t=>some (needL e.need t)
    |none=>none
   |none=>match zmo P C bs (zky o) st with
    |some t=>t.bindV fun v s'=>kf kn ⟨s'.n,qdj s'.sl o.dst v,s'.mem,s'.gs⟩
    |none=>none)=some t->t.sat Q->o.wp P a w K (qa8 P E Q):=by
  intro t h hq;refine yi7 ?_;split at h
  ·rename_i e he;split at h<;>try trivial
   rename_i t' ht';cases h;obtain ⟨hne,hq⟩:=qa0 _ hq;exact yo6 hC.ct rfl hi he hne hd K _ fun u w' F' γ' hinv=>hcont kn _ _ w' F' γ' t' ht' hq hinv (hk.put hsz) hn
  ·split at h<;>try trivial
   rename_i t1 ht1;have hsat:=Tr.sat_bindV h hq;refine (zbz hC hi ht1 K (qa8 P E Q) (hsat.turn fun x s' hx=>?_)).2;cases x with
   |val v=>
    obtain ⟨u,hu,hqu⟩:=hx;intro v2 w2 F2 γ2 hinv hrep;have hn2:s'.n=n:=by
     have h1:=hinv.n;have h2:=hi.n;omega
    have hput:=qfn (d:=o.dst) (v:=v) (wr:=[]) (hinv.weaken W) (fun x hx=>⟨by rw [hn2,← hn]; exact (hd x hx).1,(hd x hx).2⟩) (Step.refl (kj hinv)) hinv.mem (qtf hrep) (fun g want y hv=>by
     subst hv;exact hrep.elim)
    exact hcont kn _ _ w2 F2 γ2 u hu hqu hput (hk.put hsz) hn2
   |panic p=>exact fun w2 hinv=>⟨.panic p,s',rfl,hinv,hx⟩
   |normal=>trivial
   |exit _=>trivial
   |ret=>trivial
   |jump _=>trivial
 unfold zdk at h;split at h
 ·rename_i x d hx hdst;have hrun:=yja (P:=P) (w:=w) hk hx;have hwp:K (a.put o.dst (a.eval x)) w->o.wp P a w K (qa8 P E Q):=fun hK=>by
   unfold Oper.wp;rw [hrun];exact hK
  have hx1:qh8 P w F (qp st.mem γ) (fun g=>a.tmps.getD g undef) (evA st.sl x) (a.eval x):=qwt hi.sl x;split at h
  ·rename_i c hc;refine hwp (hcont _ _ _ w F γ t h hq ?_ ?_ hn)
   ·have hv:=qmt hk hc;rw [hv,← hdst];exact qfn (wr:=[]) hi hd (Step.refl (kj hi)) hi.mem (show vz P w F _ _ (AV.c (.bool c)) (.bool c) from ⟨rfl,rfl⟩) (fun g want y hv=>by cases hv)
   ·intro y hy;rcases ua2.1 hy with rfl|hy
    ·refine ⟨by simp [hdst],?_⟩;rw [qtd a o.dst _ d (fun y hy=>(hsz y hy).1),if_pos hdst];exact qmt hk hc
    ·exact hk.put hsz y hy
  ·split at h
   ·cases h
   ·rename_i v hnm;refine hwp (hcont _ _ _ w F γ t h hq ?_ (hk.put hsz) hn);have hnv:nmA (evA st.sl x)=true:=by
     cases hv:evA st.sl x with
     |maybe g want y=>exact absurd hv (hnm g want y)
     |_=>rfl
    rw [← hdst];exact qfn (wr:=[]) hi hd (Step.refl (kj hi)) hi.mem (qtf (hx1.plain hnv)) (fun g want y hv=>by rw [hv] at hnv; cases hnv)
 ·exact hother t h hq
theorem qs2 {C:Cx} (hC:CxOK P C) {ops:Array Oper} {n:Nat} (hst:StatOK n ops) {Q:XE->St->Prop}:(l:List Oper)->(k:Nat)->(∀ i o,l[i]? = some o->ops[k+i]? = some o)->∀ (kn:List (Tmp×Bool)) (st:St) (a:Act) (w:World) (W:List Tmp) (F:Nat->Prop) (γ:Nat->Value) (t:Tr),
  InvG P E st a w W F γ->qmc a W kn->st.n=n->(∀ x,x∈W↔∃ i o,i<k/\ops[i]? = some o/\o.dst=some x)->qog P C bs ops.toList kn l st=some t->t.sat Q->wpOps P ops (qa8 P E Q) (List.range' k l.length) a w
 |[],k,_,kn,st,a,w,W,F,γ,t,hi,hk,hn,hW,h,hq=>by
  simp only [qog,ua0] at h;subst h;exact ⟨.normal,_,rfl,⟨F,γ,qit hi⟩,hq⟩
 |o::r,k,hl,kn,st,a,w,W,F,γ,t,hi,hk,hn,hW,h,hq=>by
  have hok:ops[k]? = some o:=by simpa using hl 0 o rfl
  have hl':∀ i o,r[i]? = some o->ops[k+1+i]? = some o:=fun i o' hi'=>by
   have:=hl (i+1) o' (by simpa using hi')
   rwa [show k+1+i=k+(i+1) by omega]
  have hd:∀ x,o.dst=some x->x<st.n/\x ∉ W:=fun x hx=>⟨by rw [hn]; exact hst.lt k o x hok hx,fun hxW=>by
   obtain ⟨i,oi,hik,hoi,hdi⟩:=(hW x).1 hxW;have:=hst.once k i o oi x hok hoi hx hdi;omega⟩
  have hW':∀ x,x∈o.dst.toList++W↔∃ i oi,i<k+1/\ops[i]? = some oi/\oi.dst=some x:=fun x=>by
   rw [ubc,hW];constructor
   ·rintro (h|⟨i,oi,h1,h2,h3⟩)
    ·exact ⟨k,o,by omega,hok,by simpa using h⟩
    ·exact ⟨i,oi,by omega,h2,h3⟩
   ·rintro ⟨i,oi,h1,h2,h3⟩;by_cases hik:i=k
    ·subst hik;rw [hok] at h2;cases h2;exact .inl (by simp [h3])
    ·exact .inr ⟨i,oi,by omega,h2,h3⟩
  have hon:∀ kn' t',qmc a W kn'->zdk P C bs ops.toList kn' o st (fun kn s=>qog P C bs ops.toList kn r s)=some t'->t'.sat Q->o.wp P a w (wpOps P ops (qa8 P E Q) (List.range' (k+1) r.length)) (qa8 P E Q):=fun kn' t' hk' h' hq'=>
   zt5 hC (wpOps P ops (qa8 P E Q) (List.range' (k+1) r.length)) hi hk' hn hd h' hq' fun kn2 st2 a2 w2 F2 γ2 t2 h2 hq2 hi2 hk2 hn2=>qs2 hC hst r (k+1) hl' kn2 st2 a2 w2 _ F2 γ2 t2 hi2 hk2 hn2 hW' h2 hq2
  have hsz:∀ x,o.dst=some x->x<a.tmps.size/\x ∉ W:=fun x hx=>by rw [hi.n]; exact hd x hx
  have hoff:∀ kn' t',qmc a W kn'->qog P C bs ops.toList kn' r ⟨st.n,qdj st.sl o.dst .dead,st.mem,st.gs⟩=some t'->t'.sat Q->wpOps P ops (qa8 P E Q) (List.range' (k+1) r.length) (a.put o.dst undef) w:=fun kn' t' hk' h' hq'=>
   qs2 hC hst r (k+1) hl' kn' _ _ w _ F γ t' (qfn (wr:=[]) (v:=.dead) (u:=undef) hi hd (Step.refl (kj hi)) hi.mem trivial (fun g want y hv=>by cases hv)) (hk'.put hsz) hn hW' h' hq'
  rw [List.length_cons,List.range'_succ,wpOps_cons];unfold wpOp;rw [hok];simp only;simp only [qog] at h;split at h
  ·rename_i hg;have hw:Region.wanted o (yielded ops a.tmps)=true:=by simp [Region.wanted,hg]
   rw [if_pos hw];exact .inl (hon kn t hk h hq)
  ·rename_i j want hgd;split at h<;>try trivial
   rename_i g hg;have hgj:(ops[j]?).bind (·.dst)=some g:=by simpa using hg
   have hgW:g∈W:=by
    have hj:=(hst.guard k o j want hok hgd).1;cases ho':ops[j]? with
    |none=>rw [ho'] at hgj; cases hgj
    |some o'=>
     rw [ho'] at hgj;exact (hW g).2 ⟨j,o',hj,ho',hgj⟩
   have hyield:Region.wanted o (yielded ops a.tmps)=true↔a.tmps.getD g undef = .bool want:=by
    have:(yielded ops a.tmps j==some want)=true↔a.tmps.getD g undef = .bool want:=by
     unfold yielded;rw [hgj];simp only [Option.bind_some];cases hx:a.tmps[g]? with
     |none=>simp [ubh,hx,undef]
     |some y=>
      simp only [ubh,hx,ucv];cases y<;>simp
    simpa [Region.wanted,hgd] using this
   have hval:∀ v,a.tmps.getD g undef = .bool v->∀ kn',qmc a W kn'->qmc a W ((g,v)::kn'):=fun v hv kn' hk' y hy=>by
    rcases ua2.1 hy with rfl|hy
    ·exact ⟨hgW,hv⟩
    ·exact hk' y hy
   split at h
   ·rename_i v hv;have hgv:=(hk _ (zdd hv)).2;split at h
    ·rename_i hvw;subst hvw;rw [if_pos (hyield.2 hgv)];exact .inl (hon kn t hk h hq)
    ·rename_i hvw;rw [if_neg (fun hw=>hvw (by have:=hyield.1 hw; rw [hgv] at this; cases this; rfl))];exact hoff kn t hk h hq
   ·split at h<;>try trivial
    rename_i p hsl;split at h<;>try trivial
    rename_i x y hx hy;cases h;have hs:=hi.sl g;rw [hsl] at hs;have hgp:a.tmps.getD g undef = .bool p:=hs.2;by_cases hpw:p=want
    ·subst hpw;rw [if_pos (hyield.2 hgp)];refine .inl (hon _ x (hval p hgp kn hk) hx ?_);cases p with
     |true=>exact hq.1 rfl
     |false=>exact hq.2 rfl
    ·rw [if_neg (fun hw=>hpw (by have:=hyield.1 hw; rw [hgp] at this; cases this; rfl))];have hpn:p = !want:=by cases p<;>cases want<;>first|rfl|exact absurd rfl hpw
     refine hoff _ y (hval (!want) (by rw [hgp,hpn]) kn hk) hy ?_;cases want with
     |true=>
      subst hpn;exact hq.2 rfl
     |false=>
      subst hpn;exact hq.1 rfl
theorem qvp {C:Cx} (hC:CxOK P C) {id:Nat} {ops:Array Oper} {draw:Bool} {s:St} {t:Tr} (h:qxa P C.Γ bs ops.toList draw s=some t) {Q:XE->St->Prop} (hq:t.sat Q) {a:Act}
  (hi:I P E s a w):(Code.region id ops draw).wp P (qa8 P E Q) a w:=by
 unfold qxa at h;split at h<;>try trivial
 rename_i hstat;split at h<;>try trivial
 rename_i es s' hrun;split at h<;>try trivial
 rename_i hord;cases h;obtain ⟨hneed,hq⟩:=qvc es hq;have hn:=zy7 _ _ _ hrun;have hst:StatOK s'.n ops:=by rw [hn]; exact qpx hstat
 have hruns:qeb P C.Γ bs ops es s' (List.range' 0 ops.size) s:=by
  have:=qvv (es:=es) ops.toList 0 s es hrun (fun i o hi=>by simpa using hi) (fun i e hi=>by simpa using hi);simpa using this
 obtain ⟨F,γ,hi⟩:=hi;have hend:∀ a' w',qt7 P E C.Γ bs ops es s' [] a' w'->qa8 P E Q .normal a' w':=by
  rintro a' w' ⟨st,W,F',γ',hinv,_,hr,_⟩;have hr':st=s':=hr;subst hr';exact ⟨.normal,_,rfl,⟨F',γ',qit hinv⟩,hq⟩
 have hstart:∀ w',InvG P E s a w' [] F γ->qt7 P E C.Γ bs ops es s' (List.range' 0 ops.size) a w':=fun w' hi'=>by
  refine ⟨s,[],F,γ,hi',fun t=>?_,hruns,hn.symm⟩;constructor
  ·intro hh; simp at hh
  ·rintro ⟨k,o,hk,hnot,_⟩;exfalso;apply hnot;rw [uck];have:=(uaa.1 hk).1;omega
 cases draw with
 |false=>
  refine ugq ?_;rw [ug2];exact zl9 hC.ct hst hneed _ hend _ 0 a w (hstart w hi)
 |true=>
  have hord':qkp ops.toList es=true:=by simpa using hord
  refine wp_region_any hC.mo ?_;refine zqe hC.ct hst hneed hord' _ hend ops.size (List.range' 0 ops.size) _ a _ (by simp) ug0 (by simp) (fun i hi'=>?_) (fun i hi'=>?_) (fun k hk hnot=>?_) (hstart _ (zlb hi))
  ·simp only [uck,ubh,uem,hi',if_true,ucv,true_iff];omega
  ·rw [uck] at hi';omega
  ·exfalso;apply hnot;rw [uck];omega
def qfb (P:Program) (E:Env) (c:Code) (f:St->Option Tr):Prop:=
 ∀ s t,f s=some t->∀ Q,t.sat Q->∀ a w,I P E s a w->(Code.loop c).wp P (qa8 P E Q) a w
def jw (P:Program) (E:Env) (Λ:Nat->St->Option Tr):Code->Nat->Prop
 |.seq a b,k=>jw P E Λ a k/\jw P E Λ b (k+zq a)
 |.cond _ a b,k=>jw P E Λ a k/\jw P E Λ b (k+zq a)
 |.block _ c,k=>jw P E Λ c k
 |.scope c,k=>jw P E Λ c k
 |.loop c,k=>qfb P E c (Λ k)
 |_,_=>True
theorem Tr.sat_bind {f:St->Option Tr} {Q:XE->St->Prop}:{t t':Tr}->t.bind f=some t'->t'.sat Q->t.sat fun e s=>match e with
  |.normal=>∃ u,f s=some u/\u.sat Q
  |e=>Q e s
 |.leaf e s,t',h,hq=>by
  cases e with
  |normal=>exact ⟨t',h,hq⟩
  |exit i=>
   simp only [Tr.bind,ua0] at h;subst h;exact hq
  |ret=>
   simp only [Tr.bind,ua0] at h;subst h;exact hq
  |panic p=>
   simp only [Tr.bind,ua0] at h;subst h;exact hq
  |val v=>
   simp only [Tr.bind,ua0] at h;subst h;exact hq
  |jump l=>
   simp only [Tr.bind,ua0] at h;subst h;exact hq
 |.br b x y,t',h,hq=>by
  simp only [Tr.bind] at h;split at h<;>try trivial
  rename_i x' y' hx hy;cases h;exact ⟨fun hb=>Tr.sat_bind hx (hq.1 hb),fun hb=>Tr.sat_bind hy (hq.2 hb)⟩
 |.need p x,t',h,hq=>by
  simp only [Tr.bind] at h;split at h<;>try trivial
  rename_i x' hx;cases h;exact ⟨hq.1,Tr.sat_bind hx hq.2⟩
 |.two p x y,t',h,hq=>by
  simp only [Tr.bind] at h;split at h<;>try trivial
  rename_i x' y' hx hy;cases h;exact ⟨fun hb=>Tr.sat_bind hx (hq.1 hb),Tr.sat_bind hy hq.2⟩
theorem Tr.sat_block {id:Nat} {Q:XE->St->Prop}:{t:Tr}->(t.block id).sat Q->t.sat fun e s=>match e with
  |.exit i=>if i=id then Q .normal s else Q (.exit i) s
  |e=>Q e s
 |.leaf e s,hq=>by
  cases e with
  |normal=>exact hq
  |exit i=>
   simp only [Tr.block] at hq;simp only [Tr.sat];split
   ·rename_i h;rw [if_pos h] at hq;exact hq
   ·rename_i h;rw [if_neg h] at hq;exact hq
  |ret=>exact hq
  |panic p=>exact hq
  |val v=>exact hq
  |jump l=>exact hq
 |.br b x y,hq=>⟨fun hb=>Tr.sat_block (hq.1 hb),fun hb=>Tr.sat_block (hq.2 hb)⟩
 |.need p x,hq=>⟨hq.1,Tr.sat_block hq.2⟩
 |.two p x y,hq=>⟨fun hb=>Tr.sat_block (hq.1 hb),Tr.sat_block hq.2⟩
theorem Tr.sat_scope {Q:XE->St->Prop}:{t:Tr}->t.scope.sat Q->t.sat fun e s=>match e with
  |.jump _=>False
  |.val _=>False
  |e=>Q e s
 |.leaf e s,hq=>by
  cases e with
  |normal=>exact hq
  |exit i=>exact hq
  |ret=>exact hq
  |panic p=>exact hq
  |val v=>exact hq.1
  |jump l=>exact hq.1
 |.br b x y,hq=>⟨fun hb=>Tr.sat_scope (hq.1 hb),fun hb=>Tr.sat_scope (hq.2 hb)⟩
 |.need p x,hq=>⟨hq.1,Tr.sat_scope hq.2⟩
 |.two p x y,hq=>⟨fun hb=>Tr.sat_scope (hq.1 hb),Tr.sat_scope hq.2⟩
theorem yb2 {s:St} {a:Act} {c:Operand} {p:Bool} (hi:InvG P E s a w [] F γ) (h:evA s.sl c = .c (.bool p)):a.eval c = .bool p:=by
 have:=qwt hi.sl c;rw [h] at this;exact this.2
theorem yi8 {st:St} {a:Act} {w:World} {F:Nat->Prop} {γ:Nat->Value} {m:Mem} (hi:InvG P E ⟨st.n,st.sl,m,st.gs⟩ a w [] F γ) (id:Nat):∃ F',InvG P E ⟨st.n,st.sl,ztd m id,st.gs⟩ a w [] F' γ:=by
 unfold ztd;split
 ·rename_i x u h;have h0:=h;have hne:∃ v,zn P w F (qp m γ) (.own id) v:=by
   unfold rsC at h;refine ⟨γ id,?_⟩;simp only [zn];unfold qp;split at h
   ·split at h
    ·rename_i heq _ _ _ _ hm;cases heq;simp [hm]
    ·rename_i heq _ _ _ hm;cases heq;simp [hm]
    ·cases h
   ·rename_i h1;exact absurd rfl (h1 _)
  obtain ⟨v,hv⟩:=hne;obtain ⟨F',s1,m1,_,_⟩:=qpt hi.mem (kj hi) (qa6.of fun _ _ h=>h) h0 hv;refine ⟨F',hi.n,hi.df,?_,m1,fun t=>(hi.sl t).mono s1.hF s1.hw s1.hR,hi.hg,fun t=>s1.repA (hi.gh t)⟩;obtain ⟨γ0,h0⟩:=hi.step;exact ⟨γ0,h0.trans s1⟩
 ·exact ⟨F,hi⟩
theorem zpr {st:St} {a:Act} {w:World} {γ:Nat->Value}:(ids:List Nat) -> {m:Mem} -> {F:Nat->Prop}->InvG P E ⟨st.n,st.sl,m,st.gs⟩ a w [] F γ->∃ F',InvG P E ⟨st.n,st.sl,ids.foldl ztd m,st.gs⟩ a w [] F' γ
 |[],_,F,hi=>⟨F,hi⟩
 |id::r,_,_,hi=>by
  obtain ⟨F1,h1⟩:=yi8 hi id;exact zpr r h1
theorem yx {C:Cx} (hC:CxOK P C) {Λ:Nat->St->Option Tr}:(c:Code)->(k:Nat)->jw P E Λ c k->∀ {s:St} {t:Tr},ja P C bs Λ c k s=some t ->
  ∀ {Q:XE->St->Prop},t.sat Q->∀ {a:Act} {w:World},I P E s a w->c.wp P (qa8 P E Q) a w
 |.skip,k,_,s,t,h,Q,hq,a,w,hi=>by
  simp only [ja,ua0] at h
  subst h
  exact wp_skip ⟨.normal,s,rfl,hi,hq⟩
 |.ret,k,_,s,t,h,Q,hq,a,w,hi=>by
  simp only [ja,ua0] at h
  subst h
  exact wp_ret ⟨.ret,s,rfl,hi,hq⟩
 |.exit id,k,_,s,t,h,Q,hq,a,w,hi=>by
  simp only [ja,ua0] at h
  subst h
  exact wp_exit ⟨.exit id,s,rfl,hi,hq⟩
 |.region id ops draw,k,_,s,t,h,Q,hq,a,w,hi=>by
  simp only [ja] at h
  split at h
  ·rename_i t' ht'
   simp only [ua0] at h
   subst h
   exact qvp hC ht' hq hi
  ·split at h
   ·rename_i t' ht'
    simp only [ua0] at h
    subst h
    split at ht'<;>try (cases ht'; done)
    rename_i hc
    obtain ⟨rfl,hstat⟩:=hc
    obtain ⟨F,γ,hinv⟩:=hi
    refine ugq ?_
    rw [ug2]
    have:=qs1 hC (qpx hstat) ops.toList 0 (fun i o hi=>by simpa using hi) s a w [] F γ t' hinv rfl (fun x=>⟨fun hh=>by simp at hh,fun ⟨i,_,hi,_⟩=>by omega⟩) ht' hq
    simpa using this
   ·split at h
    ·rename_i t' ht'
     simp only [ua0] at h
     subst h
     split at ht'<;>try (cases ht'; done)
     rename_i hc
     obtain ⟨rfl,hstat⟩:=hc
     obtain ⟨F,γ,hinv⟩:=hi
     refine ugq ?_
     rw [ug2]
     have:=qs2 hC (qpx hstat) ops.toList 0 (fun i o hi=>by simpa using hi) [] s a w [] F γ t' hinv (fun x hx=>by simp at hx) rfl (fun x=>⟨fun hh=>by simp at hh,fun ⟨i,_,hi,_⟩=>by omega⟩) ht' hq
     simpa using this
    ·split at h
     ·rename_i t' ht'
      simp only [ua0] at h
      subst h
      obtain ⟨F,γ,hinv⟩:=hi
      obtain ⟨F',h'⟩:=zpr (st:=s) _ hinv
      exact qvp hC ht' hq ⟨F',γ,h'⟩
     ·simp only [ua0] at h
      subst h
      exact hq.1.elim
 |.seq x y,k,hl,s,t,h,Q,hq,a,w,hi=>by
  simp only [ja] at h
  split at h<;>try (cases h; done)
  rename_i t1 h1
  refine wp_seq (wp_mono (yx hC x k hl.1 h1 (Tr.sat_bind h hq) hi) ?_)
  rintro e a' w' ⟨xe,s',rfl,hi',hq'⟩
  cases xe with
  |normal=>
   obtain ⟨u,hu,hqu⟩:=hq'
   exact yx hC y _ hl.2 hu hqu hi'
  |exit i=>exact ⟨.exit i,s',rfl,hi',hq'⟩
  |ret=>exact ⟨.ret,s',rfl,hi',hq'⟩
  |panic p=>exact ⟨.panic p,s',rfl,hi',hq'⟩
  |val v=>exact ⟨.val v,s',rfl,hi',hq'⟩
  |jump l=>exact ⟨.jump l,s',rfl,hi',hq'⟩
 |.cond c x y,k,hl,s,t,h,Q,hq,a,w,hi=>by
  simp only [ja] at h
  split at h<;>try (cases h; done)
  rename_i p hp
  split at h<;>try (cases h; done)
  rename_i x' y' hx hy
  simp only [ua0] at h
  subst h
  obtain ⟨F,γ,hinv⟩:=id hi
  exact wp_cond_split (yb2 hinv hp) (fun hb=>yx hC x _ hl.1 hx (hq.1 hb) hi) (fun hb=>yx hC y _ hl.2 hy (hq.2 hb) hi)
 |.block id c,k,hl,s,t,h,Q,hq,a,w,hi=>by
  simp only [ja] at h
  split at h<;>try (cases h; done)
  rename_i t1 h1
  simp only [ua0] at h
  subst h
  refine wp_block (wp_mono (yx hC c k hl h1 (Tr.sat_block hq) hi) ?_)
  rintro e a' w' ⟨xe,s',rfl,hi',hq'⟩
  cases xe with
  |normal=>exact ⟨.normal,s',rfl,hi',hq'⟩
  |exit i=>
   simp only at hq'
   show Exit.inBlock id _ (.exit i) a' w'
   unfold Exit.inBlock
   simp only
   split
   ·rename_i h
    rw [if_pos h] at hq'
    exact ⟨.normal,s',rfl,hi',hq'⟩
   ·rename_i h
    rw [if_neg h] at hq'
    exact ⟨.exit i,s',rfl,hi',hq'⟩
  |ret=>exact ⟨.ret,s',rfl,hi',hq'⟩
  |panic p=>exact ⟨.panic p,s',rfl,hi',hq'⟩
  |val v=>exact ⟨.val v,s',rfl,hi',hq'⟩
  |jump l=>exact ⟨.jump l,s',rfl,hi',hq'⟩
 |.loop c,k,hl,s,t,h,Q,hq,a,w,hi=>by
  simp only [ja] at h
  split at h
  ·rename_i t' ht'
   simp only [ua0] at h
   subst h
   exact hl s t' ht' Q hq a w hi
  ·simp only [ua0] at h
   subst h
   exact hq.1.elim
 |.label _,_,_,_,_,h,_,hq,_,_,hi=>by
  simp only [ja,ua0] at h
  subst h
  exact wp_label ⟨.normal,_,rfl,hi,hq⟩
 |.goto l,_,_,_,_,h,_,hq,_,_,hi=>by
  simp only [ja,ua0] at h
  subst h
  exact wp_goto ⟨.jump l,_,rfl,hi,hq⟩
 |.scope c,k,hl,s,t,h,Q,hq,a,w,hi=>by
  simp only [ja] at h
  split at h<;>try (cases h; done)
  rename_i t1 h1
  simp only [ua0] at h
  subst h
  refine wp_scope_straight (wp_mono (yx hC c k hl h1 (Tr.sat_scope hq) hi) ?_)
  rintro e a' w' ⟨xe,s',rfl,hi',hq'⟩
  cases xe with
  |normal=>exact ⟨.normal,s',rfl,hi',hq'⟩
  |exit i=>exact ⟨.exit i,s',rfl,hi',hq'⟩
  |ret=>exact ⟨.ret,s',rfl,hi',hq'⟩
  |panic p=>exact ⟨.panic p,s',rfl,hi',hq'⟩
  |val v=>exact hq'.elim
  |jump l=>exact hq'.elim
 |.rangeFunc ..,_,_,_,_,h,_,hq,_,_,_=>by
  simp only [ja,ua0] at h
  subst h
  exact hq.1.elim
 |.refuse _,_,_,_,_,h,_,hq,_,_,_=>by
  simp only [ja,ua0] at h
  subst h
  exact hq.1.elim
end
end Go.Ab

namespace Go.Ab
open Go Go.RowKit
abbrev YF:Type:=Option TypeId×Ty
inductive MI where
 |o (t:Tmp) (e:TypeId) (ty:Ty)
 |x (id:Nat) (e:TypeId) (ty:Ty)
 |r (t:Tmp) (id off:Nat)
 |y (id:Nat) (e:TypeId) (fs:List YF)
 |g (t:Tmp) (f:FuncId) (ids:List Nat)
 |al (t s:Tmp)
@[reducible] def qmg:List YF->Type
 |[]=>Unit
 |(some _,t)::r=>List t.den×qmg r
 |(none,t)::r=>t.den×qmg r
@[reducible] def jd:List MI->Type
 |[]=>Unit
 |.o _ _ ty::r=>List ty.den×jd r
 |.x _ _ ty::r=>ty.den×jd r
 |.r _ _ _::r=>jd r
 |.y _ _ fs::r=>qmg fs×jd r
 |.g _ _ _::r=>jd r
 |.al _ _::r=>jd r
def kid (id:Nat):Nat:=2000000000000000000000000000000+id*1000
def jm (cs:List AC) (j:Nat):Option Nat:=match cs[j]? with
 |some (.own k)=>some k
 |_=>none
def qe8 (id:Nat):(fs:List YF)->qmg fs->Nat->List AC
 |[],_,_=>[]
 |(some _,_)::r,x,j=>.own (kid id+j)::qe8 id r x.2 (j+1)
 |(none,t)::r,x,j=>(enc t x.1).headD .nil::qe8 id r x.2 (j+1)
def qmj:(fs:List YF)->qmg fs->Nat->Option Ob
 |[],_,_=>none
 |(some e,t)::_,x,0=>some (.arr e t x.1)
 |(none,_)::_,_,0=>none
 |(some _,_)::r,x,j+1=>qmj r x.2 j
 |(none,_)::r,x,j+1=>qmj r x.2 j
def qhg (m:Mem):(fs:List YF)->List AC->List Nat->Option (qmg fs×List Nat)
 |[],[],us=>some ((),us)
 |(some e,t)::r,c::cs,us=>match c with
  |.nil=>match qhg m r cs us with
   |some (y,us')=>some (([],y),us')
   |none=>none
  |.own k=>if us.contains k then none else match m k with
   |some (.arr e' ty' l)=>if h:ty'=t then if e'=e then match qhg m r cs (k::us) with
     |some (y,us')=>some ((kw h l,y),us')
     |none=>none
    else none else none
   |_=>none
  |_=>none
 |(none,t)::r,c::cs,us=>match dec t [c] with
  |some (x,[])=>match qhg m r cs us with
   |some (y,us')=>some ((x,y),us')
   |none=>none
  |_=>none
 |_,_,_=>none
def qyd (fs:List YF) (j:Nat):Prop:=∃ e t,fs[j]? = some (some e,t)
theorem qyd.lt {fs:List YF} {j:Nat} (h:qyd fs j):j<fs.length:=by
 obtain ⟨e,t,h⟩:=h;exact (uaj.1 h).1
theorem qjr (id:Nat):(fs:List YF)->(x:qmg fs)->(j:Nat)->(qe8 id fs x j).length=fs.length
 |[],_,_=>rfl
 |(some _,_)::r,x,j=>by simp [qe8,qjr id r x.2]
 |(none,_)::r,x,j=>by simp [qe8,qjr id r x.2]
theorem zcu {k:Nat}:(t:Ty) -> {cs:List AC} -> {x:t.den} -> {r:List AC}->dec t (.own k::cs)=some (x,r)->r = .own k::cs
 |.int _,_,_,_,h=>by simp [dec,zjb] at h
 |.bool,_,_,_,h=>by simp [dec,zja] at h
 |.str,_,_,_,h=>by simp [dec,zjd] at h
 |.sl _,_,_,_,h=>by simp [dec,zjc] at h
 |.unit,_,_,_,h=>by
  simp only [dec,ua0,ua9] at h;exact h.2.symm
 |.pair a b,cs,x,r,h=>by
  simp only [dec] at h;split at h<;>try trivial
  rename_i x1 r1 h1;split at h<;>try trivial
  rename_i x2 r2 h2;simp only [ua0,ua9] at h;obtain ⟨_,rfl⟩:=h;have e1:=zcu a h1;subst e1;exact zcu b h2
 |.fm _,_,_,_,h=>by simp [dec,zg9] at h
 |.ic _ _,_,_,_,h=>by simp [dec,zg8] at h
 |.fc _,_,_,_,h=>by simp [dec,zg7] at h
def yf8 (id:Nat) (fs:List YF) (cs:List AC) (j0 j:Nat) (c:AC):Prop:=
 (c = .own (kid id+(j0+j))/\qyd fs j) ∨ ∃ (t:Ty) (x:t.den) (c0:AC),cs[j]? = some c0/\dec t [c0]=some (x,[])/\[c]=enc t x
theorem qsi {m:Mem} {id:Nat}:{fs:List YF} -> {cs:List AC} -> {us us':List Nat} -> {y:qmg fs}->qhg m fs cs us=some (y,us')->∀ j0 j c,(qe8 id fs y j0)[j]? = some c->yf8 id fs cs j0 j c
 |[],[],_,_,_,_,j0,j,c,hc=>by simp [qe8] at hc
 |f::r,[],us,us',y,h,_,_,_,_=>by
  obtain ⟨o,t⟩:=f;cases o<;>simp [qhg] at h
 |[],c::cs,us,us',y,h,_,_,_,_=>by simp [qhg] at h
 |(some e,t)::r,c::cs,us,us',y,h,j0,j,c',hc=>by
  have key:∀ {us1 us2:List Nat} {y':qmg r},qhg m r cs us1=some (y',us2)->(qe8 id r y' (j0+1))[j-1]? = some c'->j≠0->yf8 id ((some e,t)::r) (c::cs) j0 j c':=by
   intro us1 us2 y' hy hcc hj;obtain ⟨i,rfl⟩:∃ i,j=i+1:=⟨j-1,by omega⟩;simp only [ueu] at hcc;rcases qsi hy (j0+1) i c' hcc with ⟨a,e1,t1,b⟩|⟨t1,x1,c0,a,b,d⟩
   ·exact .inl ⟨by rw [a]; congr 2; omega,e1,t1,by simpa using b⟩
   ·exact .inr ⟨t1,x1,c0,by simpa using a,b,d⟩
  simp only [qhg] at h;split at h<;>try trivial
  ·split at h<;>try trivial
   rename_i y' us2 hy;cases h;cases j with
   |zero=>
    simp only [qe8,ubn,ua0] at hc;exact .inl ⟨hc.symm,e,t,rfl⟩
   |succ i=>exact key hy (by simpa [qe8] using hc) (by omega)
  ·split at h<;>try trivial
   split at h<;>try trivial
   split at h<;>try trivial
   split at h<;>try trivial
   split at h<;>try trivial
   rename_i y' us2 hy;cases h;cases j with
   |zero=>
    simp only [qe8,ubn,ua0] at hc;exact .inl ⟨hc.symm,e,t,rfl⟩
   |succ i=>exact key hy (by simpa [qe8] using hc) (by omega)
 |(none,t)::r,c::cs,us,us',y,h,j0,j,c',hc=>by
  simp only [qhg] at h;split at h<;>try trivial
  rename_i x hx;split at h<;>try trivial
  rename_i y' us2 hy;cases h;cases j with
  |zero=>
   simp only [qe8,ubn,ua0] at hc;have hl:=qg1 t hx;have he:(enc t x).length=1:=by
    rw [qcq];simpa using hl.symm
   refine .inr ⟨t,x,c,rfl,hx,?_⟩
   match hq:enc t x,he with
   |[a],_=>
    rw [hq] at hc;rw [← hc];rfl
  |succ i=>
   rcases qsi hy (j0+1) i c' (by simpa [qe8] using hc) with ⟨a,e1,t1,b⟩|⟨t1,x1,c0,a,b,d⟩
   ·exact .inl ⟨by rw [a]; congr 2; omega,e1,t1,by simpa using b⟩
   ·exact .inr ⟨t1,x1,c0,by simpa using a,b,d⟩
def ql3 (ids:List Nat):List AC:=ids.map fun id=>.ptr id 0
def qvl:List AC->Option (List Nat)
 |[]=>some []
 |.ptr i 0::r=>match qvl r with
  |some l=>some (i::l)
  |none=>none
 |_=>none
theorem zfg:{cs:List AC} -> {ids:List Nat}->qvl cs=some ids->cs=ql3 ids
 |[],ids,h=>by
  simp only [qvl,ua0] at h
  subst h
  rfl
 |c::r,ids,h=>by
  unfold qvl at h
  split at h<;>try (cases h; done)
  ·rename_i heq
   cases heq
  ·rename_i i r' heq
   cases heq
   split at h<;>try (cases h; done)
   rename_i l hl
   simp only [ua0] at h
   subst h
   rw [zfg hl]
   rfl
def oid (t:Tmp):Nat:=1000000000000000000000000000000+t
def qjh (id:Nat):List MI->Bool
 |[]=>false
 |.x i _ _::r=>i==id || qjh id r
 |.y i _ _::r=>i==id || qjh id r
 |_::r=>qjh id r
def qkh (s:Tmp):List MI->Bool
 |[]=>false
 |.o t _ _::r=>t==s || qkh s r
 |_::r=>qkh s r
def yd (all:List MI) (sl:Nat->AV) (m:Mem):(L:List MI)->List Nat->Option (jd L)
 |[],_=>some ()
 |.o t e ty::r,us=>match sl t with
  |.c .nil=>match yd all sl m r us with
   |some y=>some ([],y)
   |none=>none
  |.c (.own id)=>if us.contains id then none else match m id with
   |some (.arr e' ty' l)=>if h:ty'=ty then if e'=e then match yd all sl m r (id::us) with
     |some y=>some (kw h l,y)
     |none=>none
    else none else none
   |_=>none
  |_=>none
 |.x id e ty::r,us=>match m id with
  |some (.box e' cs)=>if e'=e then match dec ty cs with
    |some (x,[])=>match yd all sl m r us with
     |some y=>some (x,y)
     |none=>none
    |_=>none
   else none
  |_=>none
 |.r t id off::r,us=>match sl t with
  |.c (.ptr i o)=>if i=id/\o=off/\qjh id all=true then yd all sl m r us else none
  |_=>none
 |.g t f ids::r,us=>match sl t with
  |.c (.fn f' cs)=>if f'=f/\qvl cs=some ids/\ids.all (fun id=>qjh id all)=true then yd all sl m r us else none
  |_=>none
 |.al t s::r,us=>match sl t,sl s with
  |.c (.own i),.c (.own j)=>if i=j/\qkh s all=true then yd all sl m r us else none
  |.c .nil,.c .nil=>if qkh s all=true then yd all sl m r us else none
  |_,_=>none
 |.y id e fs::r,us=>match m id with
  |some (.box e' cs)=>if e'=e then match qhg m fs cs us with
    |some (x,us')=>match yd all sl m r us' with
     |some y=>some (x,y)
     |none=>none
    |none=>none
   else none
  |_=>none
def yi:(L:List MI)->jd L->Mem
 |[],_=>fun _=>none
 |.o t e ty::r,x=>fun i=>if i=oid t then some (.arr e ty x.1) else yi r x.2 i
 |.x id e ty::r,x=>fun i=>if i=id then some (.box e (enc ty x.1)) else yi r x.2 i
 |.r _ _ _::r,x=>yi r x
 |.g _ _ _::r,x=>yi r x
 |.al _ _::r,x=>yi r x
 |.y id e fs::r,x=>fun i=>if i=id then some (.box e (qe8 id fs x.1 0)) else if kid id<=i/\i<kid id+fs.length then qmj fs x.1 (i-kid id) else yi r x.2 i
def slM:List MI->Nat->AV
 |[],_=>.dead
 |.o t _ _::r,i=>if i=t then .c (.own (oid t)) else slM r i
 |.x _ _ _::r,i=>slM r i
 |.r t id off::r,i=>if i=t then .c (.ptr id off) else slM r i
 |.y _ _ _::r,i=>slM r i
 |.g t f ids::r,i=>if i=t then .c (.fn f (ql3 ids)) else slM r i
 |.al t s::r,i=>if i=t then .c (.own (oid s)) else slM r i
def yby:(p:PT)->p.den->AV
 |.d t,x=>qga t x
 |.ptr t,x=>.c (.sptr (enc t x))
 |.fn ps rs,g=>.c (.fv ps rs g)
 |.pf ps rs,g=>.c (.pv ps rs g.1 g.2)
 |.pfn ps rs,g=>.c (.sptr [.fv ps rs g])
 |.pk f,_=>.c (.sptr [.fn f []])
def slV:(vs:List (Tmp×PT))->qn (vs.map (·.2))->(Nat->AV)->Nat->AV
 |[],_,f,i=>f i
 |(t,p)::r,x,f,i=>if i=t then yby p x.1 else slV r x.2 f i
def zhk (m:Mem):MI->Mem
 |.x id _ _=>match m id with
  |some (.box e cs)=>match rsL m cs with
   |some (cs',u)=>match qx m u id with
    |some (.box _ _)=>qx m (u++[(id,.box e cs')])
    |_=>m
   |none=>m
  |_=>m
 |_=>m
def zlk:List MI->Mem->Mem
 |[],m=>m
 |i::r,m=>zlk r (zhk m i)
structure LS where
 vs:List (Tmp×PT)
 ms:List MI
@[reducible] def LS.X (L:LS):Type:=qn (L.vs.map (·.2))×jd L.ms
def LS.ext (Γ:Gm) (L:LS) (s:St):Option (L.X×List Prop):=
 match qcj s.mem (L.vs.map fun v=>s.at v.1) with
 |some (xs,u)=>match qjd Γ (L.vs.map (·.2)) xs with
  |some (x,n)=>match yd L.ms s.at (zlk L.ms (qx s.mem u)) L.ms [] with
   |some y=>some ((x,y),n)
   |none=>none
  |none=>none
 |none=>none
def LS.tpl (L:LS) (n:Nat) (x:L.X):St:=⟨n,fun i=>if i<10000 then slV L.vs x.1 (slM L.ms) i else .dead,yi L.ms x.2,fun i=>slV L.vs x.1 (slM L.ms) (i+10000)⟩
section
variable {P:Program} {B:Nat} {w w':World} {E:Env} {F F':Nat->Prop} {γ γ' γ0:Nat->Value} {Γ:Gm} {M m:Mem} {R:Nat->Value->Prop}
theorem zjh:{p:PT} -> {x:p.den} -> {v:Value}->yav P w F p x v->qz P w F R (yby p x) v
 |.d t,x,v,h=>qbi h
 |.ptr t,x,v,h=>by
  obtain ⟨ad,rfl,h2,h3⟩:=h;exact ⟨rfl,ad,rfl,h2,qs.enc t x h3⟩
 |.fn ps rs,g,v,h=>by
  have h':qgv P w F ps rs g v:=h;obtain ⟨f,caps,rfl,_⟩:=id h';exact ⟨rfl,h'⟩
 |.pf ps rs,g,v,h=>by
  have h':qi5 P w F ps rs g.1 g.2 v:=h;obtain ⟨f,caps,rfl,_⟩:=id h';exact ⟨rfl,h'⟩
 |.pfn ps rs,g,v,h=>by
  obtain ⟨ad,u,rfl,h2,h3,h4⟩:=h;have h5:u.oneCell'=true:=by
   obtain ⟨f,caps,rfl,_⟩:=id h4;rfl
  exact ⟨rfl,ad,rfl,h2,⟨u,h3,h5,by simp only [zn]; exact h4⟩,trivial⟩
 |.pk f,_,v,h=>by
  obtain ⟨ad,rfl,h2,h3⟩:=h;exact ⟨rfl,ad,rfl,h2,⟨_,h3,rfl,by simp only [zn]; exact ⟨#[],rfl,rfl,trivial⟩⟩,trivial⟩
def zz (sl:Nat->AV) (m:Mem):List MI->Nat->Option Nat
 |[],_=>none
 |.o t _ _::r,i=>if i=oid t then (match sl t with
  |.c (.own id)=>some id
  |_=>none) else zz sl m r i
 |.x id _ _::r,i=>if i=id then some id else zz sl m r i
 |.r _ _ _::r,i=>zz sl m r i
 |.g _ _ _::r,i=>zz sl m r i
 |.al _ _::r,i=>zz sl m r i
 |.y id _ fs::r,i=>if i=id then some id else if kid id<=i/\i<kid id+fs.length then (match m id with
  |some (.box _ cs)=>jm cs (i-kid id)
  |_=>none) else zz sl m r i
def yr (γ:Nat->Value) (sl:Nat->AV) (m:Mem) (L:List MI) (i:Nat):Value:=match zz sl m L i with
 |some k=>γ k
 |none=>.slice none 0 0
theorem qgd:{fs:List YF} -> {cs:List AC} -> {us us':List Nat} -> {y:qmg fs}->qhg m fs cs us=some (y,us') ->
  cs.length=fs.length/\(∀ k,k∈us->k∈us')/\(∀ j k,jm cs j=some k->k ∉ us/\k∈us'/\∃ e t l,m k=some (.arr e t l)) /\
  (∀ i j k,jm cs i=some k->jm cs j=some k->i=j)/\∀ j o,qmj fs y j=some o->(cs[j]? = some .nil/\∃ e t,o = .arr e t []) ∨ ∃ k,cs[j]? = some (.own k)/\m k=some o
 |[],[],us,us',y,h=>by
  simp only [qhg,ua0,ua9] at h;refine ⟨rfl,fun k hk=>h.2 ▸ hk,fun j k hj=>by simp [jm] at hj,fun i j k hi=>by simp [jm] at hi,fun j o hj=>by simp [qmj] at hj⟩
 |f::r,[],us,us',y,h=>by
  obtain ⟨o,t⟩:=f;cases o<;>simp [qhg] at h
 |[],c::cs,us,us',y,h=>by simp [qhg] at h
 |(some e,t)::r,c::cs,us,us',y,h=>by
  simp only [qhg] at h;split at h<;>try trivial
  ·split at h<;>try trivial
   rename_i y' us2 hy;cases h;obtain ⟨h1,h2,h3,h4,h5⟩:=qgd hy;refine ⟨by simp [h1],h2,fun j k hj=>?_,fun i j k hi hj=>?_,fun j o hj=>?_⟩
   ·cases j with
    |zero=>simp [jm] at hj
    |succ j=>exact h3 j k (by simpa [jm] using hj)
   ·cases i with
    |zero=>simp [jm] at hi
    |succ i=>
     cases j with
     |zero=>simp [jm] at hj
     |succ j=>rw [h4 i j k (by simpa [jm] using hi) (by simpa [jm] using hj)]
   ·cases j with
    |zero=>
     simp only [qmj,ua0] at hj;exact .inl ⟨rfl,e,t,hj.symm⟩
    |succ j=>
     rcases h5 j o (by simpa [qmj] using hj) with ⟨a,e',t',c⟩|⟨k,a,b⟩
     ·exact .inl ⟨by simpa using a,e',t',c⟩
     ·exact .inr ⟨k,by simpa using a,b⟩
  ·rename_i k0;split at h<;>try trivial
   rename_i hus;split at h<;>try trivial
   rename_i e' ty' l hm;split at h<;>try trivial
   rename_i hty;split at h<;>try trivial
   rename_i hee;split at h<;>try trivial
   rename_i y' us2 hy;cases h;obtain ⟨h1,h2,h3,h4,h5⟩:=qgd hy;have hk0:k0 ∉ us:=by simpa using hus
   refine ⟨by simp [h1],fun k hk=>h2 k (ua8 _ hk),fun j k hj=>?_,fun i j k hi hj=>?_,fun j o hj=>?_⟩
   ·cases j with
    |zero=>
     simp only [jm,ubn,ua0] at hj;subst hj;exact ⟨hk0,h2 _ (by simp),e',ty',l,hm⟩
    |succ j=>
     obtain ⟨a,b,c⟩:=h3 j k (by simpa [jm] using hj);exact ⟨fun hh=>a (ua8 _ hh),b,c⟩
   ·cases i with
    |zero=>
     simp only [jm,ubn,ua0] at hi;subst hi;cases j with
     |zero=>rfl
     |succ j=>exact absurd (by simp) (h3 j k0 (by simpa [jm] using hj)).1
    |succ i=>
     cases j with
     |zero=>
      simp only [jm,ubn,ua0] at hj;subst hj;exact absurd (by simp) (h3 i k0 (by simpa [jm] using hi)).1
     |succ j=>rw [h4 i j k (by simpa [jm] using hi) (by simpa [jm] using hj)]
   ·cases j with
    |zero=>
     simp only [qmj,ua0] at hj;refine .inr ⟨k0,rfl,?_⟩;rw [hm,← hj];subst hee;subst hty;rfl
    |succ j=>
     rcases h5 j o (by simpa [qmj] using hj) with ⟨a,e',t',c⟩|⟨k,a,b⟩
     ·exact .inl ⟨by simpa using a,e',t',c⟩
     ·exact .inr ⟨k,by simpa using a,b⟩
 |(none,t)::r,c::cs,us,us',y,h=>by
  simp only [qhg] at h;split at h<;>try trivial
  rename_i x hx;split at h<;>try trivial
  rename_i y' us2 hy;cases h;obtain ⟨h1,h2,h3,h4,h5⟩:=qgd hy;have hno:∀ k,jm (c::cs) 0=some k->False:=fun k hk=>by
   simp only [jm,ubn] at hk;split at hk<;>try trivial
   rename_i k' hc;cases hc;have:=zcu t hx;cases this
  refine ⟨by simp [h1],h2,fun j k hj=>?_,fun i j k hi hj=>?_,fun j o hj=>?_⟩
  ·cases j with
   |zero=>exact (hno k hj).elim
   |succ j=>exact h3 j k (by simpa [jm] using hj)
  ·cases i with
   |zero=>exact (hno k hi).elim
   |succ i=>
    cases j with
    |zero=>exact (hno k hj).elim
    |succ j=>rw [h4 i j k (by simpa [jm] using hi) (by simpa [jm] using hj)]
  ·cases j with
   |zero=>simp [qmj] at hj
   |succ j=>
    rcases h5 j o (by simpa [qmj] using hj) with ⟨a,e',t',c⟩|⟨k,a,b⟩
    ·exact .inl ⟨by simpa using a,e',t',c⟩
    ·exact .inr ⟨k,by simpa using a,b⟩
theorem qcz {all:List MI} {sl:Nat->AV}:{L:List MI} -> {us:List Nat} -> {y:jd L}->yd all sl m L us=some y->∀ i k,zz sl m L i=some k ->
  (i=k/\∃ e cs,m k=some (.box e cs))∨(k ∉ us/\∃ e t l,m k=some (.arr e t l))
 |[],_,_,_,i,k,hs=>by simp [zz] at hs
 |.o t e ty::r,us,y,h,i,k,hs=>by
  simp only [yd] at h;split at h<;>try trivial
  ·rename_i hsl;split at h<;>try trivial
   rename_i y' hy;simp only [zz,hsl] at hs;split at hs
   ·cases hs
   ·exact qcz hy i k hs
  ·rename_i id hsl;split at h<;>try trivial
   rename_i hus;split at h<;>try trivial
   rename_i e' ty' l hm;split at h<;>try trivial
   split at h<;>try trivial
   split at h<;>try trivial
   rename_i y' hy;simp only [zz,hsl] at hs;split at hs
   ·cases hs;exact .inr ⟨by simpa using hus,e',ty',l,hm⟩
   ·rcases qcz hy i k hs with h1|⟨h1,h2⟩
    ·exact .inl h1
    ·exact .inr ⟨fun hh=>h1 (ua8 _ hh),h2⟩
 |.x id e ty::r,us,y,h,i,k,hs=>by
  simp only [yd] at h;split at h<;>try trivial
  rename_i e' cs hm;split at h<;>try trivial
  split at h<;>try trivial
  split at h<;>try trivial
  rename_i y' hy;simp only [zz] at hs;split at hs
  ·rename_i hi;cases hs;exact .inl ⟨hi,e',cs,hm⟩
  ·exact qcz hy i k hs
 |.r t id off::r,us,y,h,i,k,hs=>by
  simp only [yd] at h;split at h<;>try trivial
  split at h<;>try trivial
  exact qcz h i k hs
 |.g t f id::r,us,y,h,i,k,hs=>by
  simp only [yd] at h;split at h<;>try trivial
  split at h<;>try trivial
  exact qcz h i k hs
 |.al t s0::r,us,y,h,i,k,hs=>by
  simp only [yd] at h;split at h<;>try trivial
  all_goals (split at h<;>try trivial)
  all_goals exact qcz h i k hs
 |.y id e fs::r,us,y,h,i,k,hs=>by
  simp only [yd] at h;split at h<;>try trivial
  rename_i e' cs hm;split at h<;>try trivial
  split at h<;>try trivial
  rename_i x us' hx;split at h<;>try trivial
  rename_i y' hy;obtain ⟨g1,g2,g3,g4,g5⟩:=qgd hx;simp only [zz,hm] at hs;split at hs
  ·rename_i hi;cases hs;exact .inl ⟨hi,e',cs,hm⟩
  ·split at hs
   ·obtain ⟨a,_,c⟩:=g3 _ k hs;exact .inr ⟨a,c⟩
   ·rcases qcz hy i k hs with h1|⟨h1,h2⟩
    ·exact .inl h1
    ·exact .inr ⟨fun hh=>h1 (g2 k hh),h2⟩
theorem qio {all:List MI} {sl:Nat->AV}:{L:List MI} -> {us:List Nat} -> {y:jd L}->yd all sl m L us=some y->∀ i j k,zz sl m L i=some k->zz sl m L j=some k->i=j
 |[],_,_,_,i,j,k,hs,_=>by simp [zz] at hs
 |.o t e ty::r,us,y,h,i,j,k,hi,hj=>by
  simp only [yd] at h;split at h<;>try trivial
  ·rename_i hsl;split at h<;>try trivial
   rename_i y' hy;simp only [zz,hsl] at hi hj;split at hi
   ·cases hi
   ·split at hj
    ·cases hj
    ·exact qio hy i j k hi hj
  ·rename_i id hsl;split at h<;>try trivial
   rename_i hus;split at h<;>try trivial
   rename_i e' ty' l hm;split at h<;>try trivial
   split at h<;>try trivial
   split at h<;>try trivial
   rename_i y' hy;have hno:∀ q,zz sl m r q=some id->False:=fun q hq=>by
    rcases qcz hy q id hq with ⟨_,e2,cs,h2⟩|⟨h1,_⟩
    ·rw [hm] at h2; cases h2
    ·exact h1 (by simp)
   simp only [zz,hsl] at hi hj;split at hi
   ·rename_i hie;split at hj
    ·rename_i hje;rw [hie,hje]
    ·cases hi;exact (hno j hj).elim
   ·split at hj
    ·cases hj;exact (hno i hi).elim
    ·exact qio hy i j k hi hj
 |.x id e ty::r,us,y,h,i,j,k,hi,hj=>by
  simp only [yd] at h;split at h<;>try trivial
  rename_i e' cs hm;split at h<;>try trivial
  split at h<;>try trivial
  split at h<;>try trivial
  rename_i y' hy;have hno:∀ q,zz sl m r q=some id->q=id:=fun q hq=>by
   rcases qcz hy q id hq with ⟨h1,_⟩|⟨_,e2,t2,l2,h2⟩
   ·exact h1
   ·rw [hm] at h2; cases h2
  simp only [zz] at hi hj;split at hi
  ·rename_i hie;cases hi;split at hj
   ·rename_i hje;rw [hie,hje]
   ·rw [hie,hno j hj]
  ·split at hj
   ·rename_i hje;cases hj;rw [hje,hno i hi]
   ·exact qio hy i j k hi hj
 |.r t id off::r,us,y,h,i,j,k,hi,hj=>by
  simp only [yd] at h;split at h<;>try trivial
  split at h<;>try trivial
  exact qio h i j k hi hj
 |.g t f id::r,us,y,h,i,j,k,hi,hj=>by
  simp only [yd] at h;split at h<;>try trivial
  split at h<;>try trivial
  exact qio h i j k hi hj
 |.al t s0::r,us,y,h,i,j,k,hi,hj=>by
  simp only [yd] at h;split at h<;>try trivial
  all_goals (split at h<;>try trivial)
  all_goals exact qio h i j k hi hj
 |.y id e fs::r,us,y,h,i,j,k,hi,hj=>by
  simp only [yd] at h;split at h<;>try trivial
  rename_i e' cs hm;split at h<;>try trivial
  split at h<;>try trivial
  rename_i x us' hx;split at h<;>try trivial
  rename_i y' hy;obtain ⟨g1,g2,g3,g4,g5⟩:=qgd hx;have hno1:∀ q,zz sl m r q=some id->q=id:=fun q hq=>by
   rcases qcz hy q id hq with ⟨h1,_⟩|⟨_,e2,t2,l2,h2⟩
   ·exact h1
   ·rw [hm] at h2; cases h2
  have hno2:∀ p q k,jm cs p=some k->zz sl m r q=some k->False:=fun p q k hp hq=>by
   obtain ⟨_,b,e2,t2,l2,c⟩:=g3 p k hp;rcases qcz hy q k hq with ⟨_,e3,cs3,h2⟩|⟨h1,_⟩
   ·rw [c] at h2; cases h2
   ·exact h1 b
  have hno3:∀ p,jm cs p=some id->False:=fun p hp=>by
   obtain ⟨_,b,e2,t2,l2,c⟩:=g3 p id hp;rw [hm] at c; cases c
  simp only [zz,hm] at hi hj;split at hi
  ·rename_i hie;cases hi;split at hj
   ·rename_i hje;rw [hie,hje]
   ·split at hj
    ·exact (hno3 _ hj).elim
    ·rw [hie,hno1 j hj]
  ·split at hi
   ·rename_i hik;split at hj
    ·cases hj;exact (hno3 _ hi).elim
    ·split at hj
     ·rename_i hjk;have:=g4 _ _ k hi hj;omega
     ·exact (hno2 _ _ k hi hj).elim
   ·split at hj
    ·rename_i hje;cases hj;rw [hje,hno1 i hi]
    ·split at hj
     ·exact (hno2 _ _ k hj hi).elim
     ·exact qio hy i j k hi hj
def zh3 (w:World) (v:Value) (j:Nat) (u:Value):Prop:=∃ b arr ty,v = .pointer (some ⟨b,0,none⟩)/\w.heap[b]? = some (.cells arr ty (0,0))/\arr[j]? = some u
theorem qls {all:List MI} {sl:Nat->AV} (hm:MemOK P B w F γ m):{L:List MI} -> {us:List Nat} -> {y:jd L}->yd all sl m L us=some y->∀ i o,yi L y i=some o ->
  ∀ R':Nat->Value->Prop,(∀ id e fs,MI.y id e fs∈L->∀ j u,qyd fs j->zh3 w (γ id) j u->R' (kid id+j) u)->qnu P B w F R' (yr γ sl m L i) o/\((∃ k o0,zz sl m L i=some k/\m k=some o0/\exB o0 (γ k)=exB o (yr γ sl m L i))∨exB o (yr γ sl m L i)=none)
 |[],_,_,_,i,o,ho=>by simp [yi] at ho
 |.o t e ty::r,us,y,h,i,o,ho=>by
  intro R' HR;simp only [yd] at h;split at h<;>try trivial
  ·rename_i hsl;split at h<;>try trivial
   rename_i y' hy;cases h;by_cases hi:i=oid t
   ·simp only [yi,if_pos hi,ua0] at ho;subst ho;simp only [yr,zz,if_pos hi,hsl];exact ⟨⟨[],by simpa using ucz w B e ty.size,fun g hg=>by simp [Value.ownBlock] at hg,fun i x hx=>by simp at hx,fun u hu=>by simp at hu⟩,.inr (by simp [exB,Value.ownBlock])⟩
   ·simp only [yi,if_neg hi] at ho;have:=qls hm hy i o ho R' (fun id e fs hmem=>HR id e fs (ua8 _ hmem));simp only [yr,zz,if_neg hi] at this ⊢;exact this
  ·rename_i id hsl;split at h<;>try trivial
   rename_i hus;split at h<;>try trivial
   rename_i e' ty' l hmm;split at h<;>try trivial
   rename_i hty;split at h<;>try trivial
   rename_i hee;split at h<;>try trivial
   rename_i y' hy;cases h;by_cases hi:i=oid t
   ·simp only [yi,if_pos hi,ua0] at ho;subst ho;simp only [yr,zz,if_pos hi,hsl];subst hty;subst hee;have hob:=hm.ob id _ hmm;exact ⟨hob,.inl ⟨id,_,rfl,hmm,rfl⟩⟩
   ·simp only [yi,if_neg hi] at ho;have:=qls hm hy i o ho R' (fun id e fs hmem=>HR id e fs (ua8 _ hmem));simp only [yr,zz,if_neg hi] at this ⊢;exact this
 |.x id e ty::r,us,y,h,i,o,ho=>by
  intro R' HR;simp only [yd] at h;split at h<;>try trivial
  rename_i e' cs hmm;split at h<;>try trivial
  rename_i hee;split at h<;>try trivial
  rename_i x hx;split at h<;>try trivial
  rename_i y' hy;cases h;by_cases hi:i=id
  ·simp only [yi,if_pos hi,ua0] at ho;subst ho;simp only [yr,zz,if_pos hi];subst hee;obtain ⟨b,arr,h1,h2,h3,h4,h5,h6⟩:=hm.ob id _ hmm;have hlen:=qg1 ty hx;refine ⟨⟨b,arr,h1,h2,h3,h4,?_,qs.enc ty x (qs.dec ty hx h6).1⟩,.inl ⟨id,_,rfl,hmm,?_⟩⟩
   ·rw [qcq,h5,hlen];simp
   ·rw [h1];rfl
  ·simp only [yi,if_neg hi] at ho;have:=qls hm hy i o ho R' (fun id e fs hmem=>HR id e fs (ua8 _ hmem));simp only [yr,zz,if_neg hi] at this ⊢;exact this
 |.r t id off::r,us,y,h,i,o,ho=>by
  intro R' HR;simp only [yd] at h;split at h<;>try trivial
  split at h<;>try trivial
  exact qls hm h i o ho R' (fun id e fs hmem=>HR id e fs (ua8 _ hmem))
 |.g t f id::r,us,y,h,i,o,ho=>by
  intro R' HR;simp only [yd] at h;split at h<;>try trivial
  split at h<;>try trivial
  exact qls hm h i o ho R' (fun id e fs hmem=>HR id e fs (ua8 _ hmem))
 |.al t s0::r,us,y,h,i,o,ho=>by
  intro R' HR;simp only [yd] at h;split at h<;>try trivial
  all_goals (split at h<;>try trivial)
  all_goals exact qls hm h i o ho R' (fun id e fs hmem=>HR id e fs (ua8 _ hmem))
 |.y id e fs::r,us,y,h,i,o,ho=>by
  intro R' HR;simp only [yd] at h;split at h<;>try trivial
  rename_i e' cs hmm;split at h<;>try trivial
  rename_i hee;split at h<;>try trivial
  rename_i x us' hx;split at h<;>try trivial
  rename_i y' hy;cases h;subst hee;obtain ⟨g1,g2,g3,g4,g5⟩:=qgd hx;by_cases hi:i=id
  ·simp only [yi,if_pos hi,ua0] at ho;subst ho;simp only [yr,zz,if_pos hi];obtain ⟨b,arr,h1,h2,h3,h4,h5,h6⟩:=hm.ob id _ hmm;refine ⟨⟨b,arr,h1,h2,h3,h4,?_,?_⟩,.inl ⟨id,_,rfl,hmm,?_⟩⟩
   ·rw [h5,g1,qjr]
   ·refine qu.of_at _ fun j c hc=>?_;have hj:j<fs.length:=by
     have:=(uaj.1 hc).1;rw [qjr] at this;exact this
    have hjc:j<cs.length:=by omega
    rcases qsi hx 0 j c hc with ⟨rfl,hown⟩|⟨t0,x0,c0,q1,q2,q3⟩
    ·obtain ⟨u,p1,p2,_⟩:=qu.at_ h6 (ua7 hjc);refine ⟨u,p1,p2,?_⟩;rw [uai];exact HR id _ fs ubk j u hown ⟨b,arr,_,h1,h2,p1⟩
    ·obtain ⟨u,p1,p2⟩:=qu.at_ h6 q1;have hr1:qu P w F (qp m γ) [c0] (fun i v=>i=0/\v=u):=⟨⟨u,⟨rfl,rfl⟩,p2⟩,trivial⟩;have hr2:=qs.enc (P:=P) (R:=R') t0 x0 (qs.dec t0 q2 hr1).1;rw [← q3] at hr2;obtain ⟨⟨u',⟨_,rfl⟩,p3⟩,_⟩:=hr2;exact ⟨u',p1,p3⟩
   ·rw [h1];rfl
  ·by_cases hk:kid id<=i/\i<kid id+fs.length
   ·simp only [yi,if_neg hi,if_pos hk] at ho;simp only [yr,zz,if_neg hi,if_pos hk,hmm];rcases g5 _ o ho with ⟨a,e0,t0,rfl⟩|⟨k,a,b⟩
    ·have hown:jm cs (i-kid id)=none:=by simp [jm,a]
     rw [hown];exact ⟨⟨[],by simpa using ucz w B e0 t0.size,fun g hg=>by simp [Value.ownBlock] at hg,fun i x hx=>by simp at hx,fun u hu=>by simp at hu⟩,.inr (by simp [exB,Value.ownBlock])⟩
    ·have hown:jm cs (i-kid id)=some k:=by simp [jm,a]
     rw [hown];have hkm:m k=some o:=b;obtain ⟨_,_,e2,t2,l2,hc⟩:=g3 _ k hown;rw [hc] at hkm;cases hkm;exact ⟨hm.ob k _ hc,.inl ⟨k,_,rfl,hc,rfl⟩⟩
   ·simp only [yi,if_neg hi,if_neg hk] at ho;have:=qls hm hy i o ho R' (fun id e fs hmem=>HR id e fs (ua8 _ hmem));simp only [yr,zz,if_neg hi,if_neg hk] at this ⊢;exact this
theorem qmy {all:List MI} {sl:Nat->AV} {id:Nat}:{L:List MI} -> {us:List Nat} -> {y:jd L}->yd all sl m L us=some y->qjh id L=true->(∀ t e ty,MI.o t e ty∈L->oid t≠id)->id<1000000000000000000000000000000->∃ o,yi L y id=some o/\zz sl m L id=some id
 |[],_,_,_,h,_,_=>by simp [qjh] at h
 |.o t e ty::r,us,y,h,hx,hno,hlt=>by
  have hne:¬ id=oid t:=fun hh=>hno t e ty (by simp) hh.symm;simp only [yd] at h;split at h<;>try trivial
  ·split at h<;>try trivial
   rename_i y' hy;cases h;simp only [yi,zz,if_neg hne];exact qmy hy hx (fun t' e' ty' hm=>hno t' e' ty' (ua8 _ hm)) hlt
  ·split at h<;>try trivial
   split at h<;>try trivial
   split at h<;>try trivial
   split at h<;>try trivial
   split at h<;>try trivial
   rename_i y' hy;cases h;simp only [yi,zz,if_neg hne];exact qmy hy hx (fun t' e' ty' hm=>hno t' e' ty' (ua8 _ hm)) hlt
 |.x i e ty::r,us,y,h,hx,hno,hlt=>by
  simp only [yd] at h;split at h<;>try trivial
  split at h<;>try trivial
  split at h<;>try trivial
  split at h<;>try trivial
  rename_i y' hy;cases h;by_cases hi:id=i
  ·simp only [yi,zz,if_pos hi];exact ⟨_,rfl,by rw [hi]⟩
  ·simp only [yi,zz,if_neg hi];simp only [qjh,uca,ubu] at hx;exact qmy hy (hx.resolve_left (fun h=>hi h.symm)) (fun t' e' ty' hm=>hno t' e' ty' (ua8 _ hm)) hlt
 |.r t i off::r,us,y,h,hx,hno,hlt=>by
  simp only [yd] at h;split at h<;>try trivial
  split at h<;>try trivial
  exact qmy (L:=r) (y:=y) h hx (fun t' e' ty' hm=>hno t' e' ty' (ua8 _ hm)) hlt
 |.g t f i::r,us,y,h,hx,hno,hlt=>by
  simp only [yd] at h;split at h<;>try trivial
  split at h<;>try trivial
  exact qmy (L:=r) (y:=y) h hx (fun t' e' ty' hm=>hno t' e' ty' (ua8 _ hm)) hlt
 |.al t s0::r,us,y,h,hx,hno,hlt=>by
  simp only [yd] at h;split at h<;>try trivial
  all_goals (split at h<;>try trivial)
  all_goals exact qmy (L:=r) (y:=y) h hx (fun t' e' ty' hm=>hno t' e' ty' (ua8 _ hm)) hlt
 |.y i e fs::r,us,y,h,hx,hno,hlt=>by
  simp only [yd] at h;split at h<;>try trivial
  rename_i e' cs hmm;split at h<;>try trivial
  split at h<;>try trivial
  split at h<;>try trivial
  rename_i y' hy;cases h;by_cases hi:id=i
  ·simp only [yi,zz,if_pos hi];exact ⟨_,rfl,by rw [hi]⟩
  ·have hk:¬ (kid i<=id/\id<kid i+fs.length):=fun hh=>by
    have:=hh.1;unfold kid at this;omega
   simp only [yi,zz,if_neg hi,if_neg hk];simp only [qjh,uca,ubu] at hx;exact qmy hy (hx.resolve_left (fun h=>hi h.symm)) (fun t' e' ty' hm=>hno t' e' ty' (ua8 _ hm)) hlt
end
end Go.Ab

namespace Go.Ab
open Go Go.RowKit
def zm9:List MI->List Nat
 |[]=>[]
 |.y id _ _::r=>id::zm9 r
 |_::r=>zm9 r
def zw:List MI->Bool
 |[]=>true
 |.o t _ _::r=>decide (t<1000000000000000000000000000000)&&zw r
 |.x id _ _::r=>decide (id<1000000000000000000000000000000)&&zw r
 |.r _ id _::r=>decide (id<1000000000000000000000000000000)&&zw r
 |.g _ _ ids::r=>ids.all (fun id=>decide (id<1000000000000000000000000000000))&&zw r
 |.al _ _::r=>zw r
 |.y id _ fs::r=>decide (id<1000000000000000000000000000000)&&(decide (fs.length<=1000)&&(!(zm9 r).contains id&&zw r))
def LS.low (L:LS):Bool:=zw L.ms
section
variable {P:Program} {B:Nat} {w w':World} {E:Env} {F F':Nat->Prop} {γ γ' γ0:Nat->Value} {Γ:Gm} {M m:Mem} {R:Nat->Value->Prop}
theorem qpo {id:Nat} {t:Tmp} {off:Nat}:{ms:List MI}->zw ms=true -> .r t id off∈ms->id<1000000000000000000000000000000
 |[],_,h=>by simp at h
 |.o _ _ _::r,h,hm=>by
  simp only [zw,ua1] at h;rcases ua2.1 hm with h1|h1
  ·cases h1
  ·exact qpo h.2 h1
 |.x _ _ _::r,h,hm=>by
  simp only [zw,ua1] at h;rcases ua2.1 hm with h1|h1
  ·cases h1
  ·exact qpo h.2 h1
 |.r _ _ _::r,h,hm=>by
  simp only [zw,ua1,uab] at h;rcases ua2.1 hm with h1|h1
  ·cases h1; exact h.1
  ·exact qpo h.2 h1
 |.g _ _ _::r,h,hm=>by
  simp only [zw,ua1] at h;rcases ua2.1 hm with h1|h1
  ·cases h1
  ·exact qpo h.2 h1
 |.al _ _::r,h,hm=>by
  simp only [zw] at h;rcases ua2.1 hm with h1|h1
  ·cases h1
  ·exact qpo h h1
 |.y _ _ _::r,h,hm=>by
  simp only [zw,ua1] at h;rcases ua2.1 hm with h1|h1
  ·cases h1
  ·exact qpo h.2.2.2 h1
theorem qsw {ids:List Nat} {t:Tmp} {f:FuncId}:{ms:List MI}->zw ms=true -> .g t f ids∈ms->∀ id∈ids,id<1000000000000000000000000000000
 |[],_,h=>by simp at h
 |.o _ _ _::r,h,hm=>by
  simp only [zw,ua1] at h;rcases ua2.1 hm with h1|h1
  ·cases h1
  ·exact qsw h.2 h1
 |.x _ _ _::r,h,hm=>by
  simp only [zw,ua1] at h;rcases ua2.1 hm with h1|h1
  ·cases h1
  ·exact qsw h.2 h1
 |.r _ _ _::r,h,hm=>by
  simp only [zw,ua1] at h;rcases ua2.1 hm with h1|h1
  ·cases h1
  ·exact qsw h.2 h1
 |.g _ _ _::r,h,hm=>by
  simp only [zw,ua1] at h;rcases ua2.1 hm with h1|h1
  ·cases h1; exact fun id hid=>ua5 (ucj.1 h.1 id hid)
  ·exact qsw h.2 h1
 |.al _ _::r,h,hm=>by
  simp only [zw] at h;rcases ua2.1 hm with h1|h1
  ·cases h1
  ·exact qsw h h1
 |.y _ _ _::r,h,hm=>by
  simp only [zw,ua1] at h;rcases ua2.1 hm with h1|h1
  ·cases h1
  ·exact qsw h.2.2.2 h1
theorem yrg {ms:List MI} (h:zw ms=true) {id:Nat} {t:Tmp} {off:Nat} (hm : .r t id off∈ms):∀ t':Tmp,oid t'≠id:=by
 have:=qpo h hm;intro t';unfold oid;omega
theorem qpi:{fs:List YF}->(y:qmg fs) -> {j:Nat}->qyd fs j->∃ e t l,qmj fs y j=some (.arr e t l)
 |[],_,_,⟨_,_,h⟩=>by simp at h
 |(some e,t)::_,y,0,_=>⟨e,t,y.1,rfl⟩
 |(none,_)::_,_,0,⟨_,_,h⟩=>by simp at h
 |(some _,_)::r,y,j+1,⟨e,t,h⟩=>qpi (fs:=r) y.2 ⟨e,t,by simpa using h⟩
 |(none,_)::r,y,j+1,⟨e,t,h⟩=>qpi (fs:=r) y.2 ⟨e,t,by simpa using h⟩
theorem qil {id:Nat} {e:TypeId} {fs:List YF}:{L:List MI} -> .y id e fs∈L->id∈zm9 L
 |[],h=>by simp at h
 |.o _ _ _::r,h=>by
  rcases ua2.1 h with h1|h1
  ·cases h1
  ·exact qil (L:=r) h1
 |.x _ _ _::r,h=>by
  rcases ua2.1 h with h1|h1
  ·cases h1
  ·exact qil (L:=r) h1
 |.r _ _ _::r,h=>by
  rcases ua2.1 h with h1|h1
  ·cases h1
  ·exact qil (L:=r) h1
 |.g _ _ _::r,h=>by
  rcases ua2.1 h with h1|h1
  ·cases h1
  ·exact qil (L:=r) h1
 |.al _ _::r,h=>by
  rcases ua2.1 h with h1|h1
  ·cases h1
  ·exact qil (L:=r) h1
 |.y _ _ _::r,h=>by
  rcases ua2.1 h with h1|h1
  ·cases h1;simp [zm9]
  ·exact ua8 _ (qil (L:=r) h1)
theorem qip {all:List MI} {sl:Nat->AV} (hm:MemOK P B w F γ m) {id:Nat} {e:TypeId} {fs:List YF} {j:Nat} {u:Value} (hj:qyd fs j) (hc:zh3 w (γ id) j u) :
  {L:List MI} -> {us:List Nat} -> {y:jd L}->yd all sl m L us=some y->zw L=true -> .y id e fs∈L->id<1000000000000000000000000000000->fs.length<=1000 ->
  (∃ e t l,yi L y (kid id+j)=some (.arr e t l))/\yr γ sl m L (kid id+j)=u
 |[],_,_,_,_,h,_,_=>by simp at h
 |.o t e' ty::r,us,y,h,hlow,hmem,hid,hfs=>by
  simp only [zw,Bool.and_eq_true,decide_eq_true_eq] at hlow;have key:∀ t':Nat,t'<1000000000000000000000000000000->¬ kid id+j=1000000000000000000000000000000+t':=fun t' h=>by unfold kid; omega
  have hne:¬ kid id+j=oid t:=key t hlow.1;have hmem':MI.y id e fs∈r:=by
   rcases ua2.1 hmem with h1|h1
   ·cases h1
   ·exact h1
  simp only [yd] at h;split at h<;>try trivial
  ·split at h<;>try trivial
   rename_i y' hy;cases h;have:=qip hm hj hc hy hlow.2 hmem' hid hfs;simpa only [yi,yr,zz,if_neg hne] using this
  ·split at h<;>try trivial
   split at h<;>try trivial
   split at h<;>try trivial
   split at h<;>try trivial
   split at h<;>try trivial
   rename_i y' hy;cases h;have:=qip hm hj hc hy hlow.2 hmem' hid hfs;simpa only [yi,yr,zz,if_neg hne] using this
 |.x id' e' ty::r,us,y,h,hlow,hmem,hid,hfs=>by
  simp only [zw,Bool.and_eq_true,decide_eq_true_eq] at hlow;have hne:¬ kid id+j=id':=by have:=hlow.1; unfold kid; omega
  have hmem':MI.y id e fs∈r:=by
   rcases ua2.1 hmem with h1|h1
   ·cases h1
   ·exact h1
  simp only [yd] at h;split at h<;>try trivial
  split at h<;>try trivial
  split at h<;>try trivial
  split at h<;>try trivial
  rename_i y' hy;cases h;have:=qip hm hj hc hy hlow.2 hmem' hid hfs;simpa only [yi,yr,zz,if_neg hne] using this
 |.r t id' off::r,us,y,h,hlow,hmem,hid,hfs=>by
  simp only [zw,ua1] at hlow;have hmem':MI.y id e fs∈r:=by
   rcases ua2.1 hmem with h1|h1
   ·cases h1
   ·exact h1
  simp only [yd] at h;split at h<;>try trivial
  split at h<;>try trivial
  exact qip (L:=r) (y:=y) hm hj hc h hlow.2 hmem' hid hfs
 |.g t f' id'::r,us,y,h,hlow,hmem,hid,hfs=>by
  simp only [zw,ua1] at hlow;have hmem':MI.y id e fs∈r:=by
   rcases ua2.1 hmem with h1|h1
   ·cases h1
   ·exact h1
  simp only [yd] at h;split at h<;>try trivial
  split at h<;>try trivial
  exact qip (L:=r) (y:=y) hm hj hc h hlow.2 hmem' hid hfs
 |.al t s0::r,us,y,h,hlow,hmem,hid,hfs=>by
  simp only [zw] at hlow;have hmem':MI.y id e fs∈r:=by
   rcases ua2.1 hmem with h1|h1
   ·cases h1
   ·exact h1
  simp only [yd] at h;split at h<;>try trivial
  all_goals (split at h<;>try trivial)
  all_goals exact qip (L:=r) (y:=y) hm hj hc h hlow hmem' hid hfs
 |.y id' e' fs'::r,us,y,h,hlow,hmem,hid,hfs=>by
  simp only [zw,ua1,uab,uc9,List.contains_eq_mem,ubi] at hlow;obtain ⟨l1,l2,l3,l4⟩:=hlow;simp only [yd] at h;split at h<;>try trivial
  rename_i e2 cs hmm;split at h<;>try trivial
  split at h<;>try trivial
  rename_i x us' hx;split at h<;>try trivial
  rename_i y' hy;cases h;have hne:¬ kid id+j=id':=by unfold kid; omega
  by_cases hii:id=id'
  ·subst hii;have hhead:fs=fs':=by
    rcases ua2.1 hmem with h1|h1
    ·cases h1; rfl
    ·exact absurd (qil h1) l3
   subst hhead;have hjl:=hj.lt;have hk:kid id<=kid id+j/\kid id+j<kid id+fs.length:=⟨by omega,by omega⟩;simp only [yi,yr,zz,if_neg hne,if_pos hk,hmm,udn];refine ⟨qpi x hj,?_⟩;obtain ⟨g1,g2,g3,g4,g5⟩:=qgd hx;obtain ⟨ee,tt,ll,hget⟩:=qpi x hj;obtain ⟨b,arr,ty,q1,q2,q3⟩:=hc;obtain ⟨b',arr',p1,p2,_,_,p5,p6⟩:=hm.ob id _ hmm;rw [q1] at p1;cases p1;rw [q2] at p2;cases p2;rcases g5 j _ hget with ⟨a,_⟩|⟨k,a,hk2⟩
   ·have hown:jm cs j=none:=by simp [jm,a]
    rw [hown];obtain ⟨u',r1,_,r3⟩:=qu.at_ p6 a;rw [q3] at r1;cases r1;exact r3.symm
   ·have hown:jm cs j=some k:=by simp [jm,a]
    rw [hown];obtain ⟨u',r1,_,r3⟩:=qu.at_ p6 a;rw [q3] at r1;cases r1;have r4:qp m γ k u:=r3;simp only [qp,hk2] at r4;exact r4.symm
  ·have hmem':MI.y id e fs∈r:=by
    rcases ua2.1 hmem with h1|h1
    ·cases h1; exact absurd rfl hii
    ·exact h1
   have hjl:=hj.lt;have hk:¬ (kid id'<=kid id+j/\kid id+j<kid id'+fs'.length):=by unfold kid; omega
   have:=qip hm hj hc hy l4 hmem' hid hfs;simpa only [yi,yr,zz,if_neg hne,if_neg hk] using this
theorem qsx {id:Nat} {e:TypeId} {fs:List YF}:{ms:List MI}->zw ms=true -> .y id e fs∈ms->id<1000000000000000000000000000000/\fs.length<=1000
 |[],_,h=>by simp at h
 |.o _ _ _::r,h,hm=>by
  simp only [zw,ua1] at h;rcases ua2.1 hm with h1|h1
  ·cases h1
  ·exact qsx h.2 h1
 |.x _ _ _::r,h,hm=>by
  simp only [zw,ua1] at h;rcases ua2.1 hm with h1|h1
  ·cases h1
  ·exact qsx h.2 h1
 |.r _ _ _::r,h,hm=>by
  simp only [zw,ua1] at h;rcases ua2.1 hm with h1|h1
  ·cases h1
  ·exact qsx h.2 h1
 |.g _ _ _::r,h,hm=>by
  simp only [zw,ua1] at h;rcases ua2.1 hm with h1|h1
  ·cases h1
  ·exact qsx h.2 h1
 |.al _ _::r,h,hm=>by
  simp only [zw] at h;rcases ua2.1 hm with h1|h1
  ·cases h1
  ·exact qsx h h1
 |.y _ _ _::r,h,hm=>by
  simp only [zw,ua1,uab] at h;rcases ua2.1 hm with h1|h1
  ·cases h1; exact ⟨h.1,h.2.1⟩
  ·exact qsx h.2.2.2 h1
theorem qez {all:List MI} {sl:Nat->AV} {tm:Nat->Value} (hsl:∀ t,qh8 P w F (qp m γ) tm (sl t) (tm t)):{L:List MI} -> {us:List Nat} -> {y:jd L}->yd all sl m L us=some y->zw L=true->∀ i,
  slM L i = .dead∨(slM L i = .c (.own (oid i))/\(∃ e t l,yi L y (oid i)=some (.arr e t l))/\yr γ sl m L (oid i)=tm i/\(tm i).oneCell'=true/\i<1000000000000000000000000000000) ∨
  (∃ id off,slM L i = .c (.ptr id off)/\sl i = .c (.ptr id off)/\qjh id all=true/\∃ t,.r t id off∈L) ∨
  (∃ f ids,slM L i = .c (.fn f (ql3 ids))/\sl i = .c (.fn f (ql3 ids))/\(∀ id∈ids,qjh id all=true)/\∃ t,.g t f ids∈L) ∨
  ∃ s0,slM L i = .c (.own (oid s0))/\qkh s0 all=true/\((∃ k,sl i = .c (.own k)/\sl s0 = .c (.own k))∨(sl i = .c .nil/\sl s0 = .c .nil))
 |[],_,_,_,_,i=>.inl rfl
 |.o t e ty::r,us,y,h,hlow,i=>by
  have hlow':zw r=true:=by
   simp only [zw,ua1] at hlow;exact hlow.2
  have hti:t<1000000000000000000000000000000:=by
   simp only [zw,ua1,uab] at hlow;exact hlow.1
  have hs:=hsl t;simp only [yd] at h;split at h<;>try trivial
  ·rename_i hslt;split at h<;>try trivial
   rename_i y' hy;cases h;by_cases hi:i=t
   ·subst hi;refine .inr (.inl ⟨by simp [slM],⟨e,ty,[],by simp [yi]⟩,?_,?_,hti⟩)
    ·simp only [yr,zz,if_true,hslt];rw [hslt] at hs;exact hs.2.symm
    ·rw [hslt] at hs;exact hs.1
   ·have hne:¬ oid i=oid t:=fun hh=>hi (by unfold oid at hh; omega);rcases qez hsl hy hlow' i with h1|h1|⟨id,off,h1,h2,h3,t',h4⟩|⟨f2,id2,h1,h2,h3,t',h4⟩|⟨s5,h1,h5⟩
    ·exact .inl (by simpa only [slM,if_neg hi] using h1)
    ·exact .inr (.inl (by simpa only [slM,yi,yr,zz,if_neg hi,if_neg hne] using h1))
    ·exact .inr (.inr (.inl ⟨id,off,by simpa only [slM,if_neg hi] using h1,h2,h3,t',ua8 _ h4⟩))
    ·exact .inr (.inr (.inr (.inl ⟨f2,id2,by simpa only [slM,if_neg hi] using h1,h2,h3,t',ua8 _ h4⟩)))
    ·exact .inr (.inr (.inr (.inr ⟨s5,by simpa only [slM,if_neg hi] using h1,h5⟩)))
  ·rename_i id hslt;split at h<;>try trivial
   split at h<;>try trivial
   rename_i e' ty' l hmm;split at h<;>try trivial
   rename_i hty;split at h<;>try trivial
   split at h<;>try trivial
   rename_i y' hy;cases h;by_cases hi:i=t
   ·subst hi;rw [hslt] at hs;refine .inr (.inl ⟨by simp [slM],⟨e,ty,_,by simp [yi]; rfl⟩,?_,hs.1,hti⟩);simp only [yr,zz,if_true,hslt];have:=hs.2;simp only [zn,qp,hmm] at this;exact this.symm
   ·have hne:¬ oid i=oid t:=fun hh=>hi (by unfold oid at hh; omega);rcases qez hsl hy hlow' i with h1|h1|⟨id,off,h1,h2,h3,t',h4⟩|⟨f2,id2,h1,h2,h3,t',h4⟩|⟨s5,h1,h5⟩
    ·exact .inl (by simpa only [slM,if_neg hi] using h1)
    ·exact .inr (.inl (by simpa only [slM,yi,yr,zz,if_neg hi,if_neg hne] using h1))
    ·exact .inr (.inr (.inl ⟨id,off,by simpa only [slM,if_neg hi] using h1,h2,h3,t',ua8 _ h4⟩))
    ·exact .inr (.inr (.inr (.inl ⟨f2,id2,by simpa only [slM,if_neg hi] using h1,h2,h3,t',ua8 _ h4⟩)))
    ·exact .inr (.inr (.inr (.inr ⟨s5,by simpa only [slM,if_neg hi] using h1,h5⟩)))
 |.x id e ty::r,us,y,h,hlow,i=>by
  have hlow':zw r=true/\id<1000000000000000000000000000000:=by
   simp only [zw,ua1,uab] at hlow;exact ⟨hlow.2,hlow.1⟩
  simp only [yd] at h;split at h<;>try trivial
  split at h<;>try trivial
  split at h<;>try trivial
  split at h<;>try trivial
  rename_i y' hy;cases h;have hne:¬ oid i=id:=fun hh=>by
   have:=hlow'.2;unfold oid at hh;omega
  rcases qez hsl hy hlow'.1 i with h1|h1|⟨id',off,h1,h2,h3,t',h4⟩|⟨f2,id2,h1,h2,h3,t',h4⟩|⟨s5,h1,h5⟩
  ·exact .inl (by simpa only [slM] using h1)
  ·exact .inr (.inl (by simpa only [slM,yi,yr,zz,if_neg hne] using h1))
  ·exact .inr (.inr (.inl ⟨id',off,by simpa only [slM] using h1,h2,h3,t',ua8 _ h4⟩))
  ·exact .inr (.inr (.inr (.inl ⟨f2,id2,by simpa only [slM] using h1,h2,h3,t',ua8 _ h4⟩)))
  ·exact .inr (.inr (.inr (.inr ⟨s5,by simpa only [slM] using h1,h5⟩)))
 |.r t id off::r,us,y,h,hlow,i=>by
  have hlow':zw r=true:=by
   simp only [zw,ua1] at hlow;exact hlow.2
  simp only [yd] at h;split at h<;>try trivial
  rename_i i' o' hslt;split at h<;>try trivial
  rename_i hc;obtain ⟨rfl,rfl,hx⟩:=hc;by_cases hi:i=t
  ·subst hi;exact .inr (.inr (.inl ⟨i',o',by simp [slM],hslt,hx,i,by simp⟩))
  ·rcases qez (L:=r) (y:=y) hsl h hlow' i with h1|h1|⟨id',off,h1,h2,h3,t',h4⟩|⟨f2,id2,h1,h2,h3,t',h4⟩|⟨s5,h1,h5⟩
   ·exact .inl (by simpa only [slM,if_neg hi] using h1)
   ·exact .inr (.inl (by simpa only [yi,yr,zz,slM,if_neg hi] using h1))
   ·exact .inr (.inr (.inl ⟨id',off,by simpa only [slM,if_neg hi] using h1,h2,h3,t',ua8 _ h4⟩))
   ·exact .inr (.inr (.inr (.inl ⟨f2,id2,by simpa only [slM,if_neg hi] using h1,h2,h3,t',ua8 _ h4⟩)))
   ·exact .inr (.inr (.inr (.inr ⟨s5,by simpa only [slM,if_neg hi] using h1,h5⟩)))
 |.g t f id::r,us,y,h,hlow,i=>by
  have hlow':zw r=true:=by
   simp only [zw,ua1] at hlow;exact hlow.2
  simp only [yd] at h;split at h<;>try trivial
  rename_i f' cs hslt;split at h<;>try trivial
  rename_i hc;obtain ⟨rfl,hp,hx⟩:=hc;rw [zfg hp] at hslt;by_cases hi:i=t
  ·subst hi;exact .inr (.inr (.inr (.inl ⟨f',id,by simp [slM],hslt,fun j hj=>ucj.1 hx j hj,i,by simp⟩)))
  ·rcases qez (L:=r) (y:=y) hsl h hlow' i with h1|h1|⟨id',off,h1,h2,h3,t',h4⟩|⟨f2,id2,h1,h2,h3,t',h4⟩|⟨s5,h1,h5⟩
   ·exact .inl (by simpa only [slM,if_neg hi] using h1)
   ·exact .inr (.inl (by simpa only [yi,yr,zz,slM,if_neg hi] using h1))
   ·exact .inr (.inr (.inl ⟨id',off,by simpa only [slM,if_neg hi] using h1,h2,h3,t',ua8 _ h4⟩))
   ·exact .inr (.inr (.inr (.inl ⟨f2,id2,by simpa only [slM,if_neg hi] using h1,h2,h3,t',ua8 _ h4⟩)))
   ·exact .inr (.inr (.inr (.inr ⟨s5,by simpa only [slM,if_neg hi] using h1,h5⟩)))
 |.al t s0::r,us,y,h,hlow,i=>by
  have hlow':zw r=true:=by
   simp only [zw] at hlow;exact hlow
  have fin:yd all sl m r us=some y->qkh s0 all=true->((∃ k,sl t = .c (.own k)/\sl s0 = .c (.own k))∨(sl t = .c .nil/\sl s0 = .c .nil)) ->
    slM (.al t s0::r) i = .dead∨(slM (.al t s0::r) i = .c (.own (oid i))/\(∃ e t' l,yi (.al t s0::r) y (oid i)=some (.arr e t' l))/\yr γ sl m (.al t s0::r) (oid i)=tm i/\(tm i).oneCell'=true/\i<1000000000000000000000000000000) ∨
    (∃ id off,slM (.al t s0::r) i = .c (.ptr id off)/\sl i = .c (.ptr id off)/\qjh id all=true/\∃ t',.r t' id off∈(.al t s0::r:List MI)) ∨
    (∃ f ids,slM (.al t s0::r) i = .c (.fn f (ql3 ids))/\sl i = .c (.fn f (ql3 ids))/\(∀ id∈ids,qjh id all=true)/\∃ t',.g t' f ids∈(.al t s0::r:List MI)) ∨
    ∃ s1,slM (.al t s0::r) i = .c (.own (oid s1))/\qkh s1 all=true/\((∃ k,sl i = .c (.own k)/\sl s1 = .c (.own k))∨(sl i = .c .nil/\sl s1 = .c .nil)):=fun h hx hs0=>by
   by_cases hi:i=t
   ·subst hi;exact Or.inr (.inr (.inr (.inr ⟨s0,by simp [slM],hx,hs0⟩)))
   ·rcases qez (L:=r) (y:=y) hsl h hlow' i with h1|h1|⟨id',off,h1,h2,h3,t',h4⟩|⟨f2,id2,h1,h2,h3,t',h4⟩|⟨s5,h1,h5⟩
    ·exact .inl (by simpa only [slM,if_neg hi] using h1)
    ·exact .inr (.inl (by simpa only [yi,yr,zz,slM,if_neg hi] using h1))
    ·exact .inr (.inr (.inl ⟨id',off,by simpa only [slM,if_neg hi] using h1,h2,h3,t',ua8 _ h4⟩))
    ·exact .inr (.inr (.inr (.inl ⟨f2,id2,by simpa only [slM,if_neg hi] using h1,h2,h3,t',ua8 _ h4⟩)))
    ·exact .inr (.inr (.inr (.inr ⟨s5,by simpa only [slM,if_neg hi] using h1,h5⟩)))
  simp only [yd] at h;split at h<;>try trivial
  ·rename_i k1 k2 hs1 hs2;split at h<;>try trivial
   rename_i hc;obtain ⟨rfl,hx⟩:=hc;exact fin h hx (.inl ⟨k1,hs1,hs2⟩)
  ·rename_i hs1 hs2;split at h<;>try trivial
   rename_i hx;exact fin h hx (.inr ⟨hs1,hs2⟩)
 |.y id e fs::r,us,y,h,hlow,i=>by
  have hlow':zw r=true/\id<1000000000000000000000000000000:=by
   simp only [zw,ua1,uab] at hlow;exact ⟨hlow.2.2.2,hlow.1⟩
  simp only [yd] at h;split at h<;>try trivial
  split at h<;>try trivial
  split at h<;>try trivial
  split at h<;>try trivial
  rename_i y' hy;cases h;have hne:¬ oid i=id:=fun hh=>by
   have:=hlow'.2;unfold oid at hh;omega
  rcases qez hsl hy hlow'.1 i with h1|h1|⟨id',off,h1,h2,h3,t',h4⟩|⟨f2,id2,h1,h2,h3,t',h4⟩|⟨s5,h1,h5⟩
  ·exact .inl (by simpa only [slM] using h1)
  ·have hk:¬ (kid id<=oid i/\oid i<kid id+fs.length):=fun hh=>by
    have h5:=h1.2.2.2.2;have:=hh.1;unfold oid kid at this;omega
   exact .inr (.inl (by simpa only [slM,yi,yr,zz,if_neg hne,if_neg hk] using h1))
  ·exact .inr (.inr (.inl ⟨id',off,by simpa only [slM] using h1,h2,h3,t',ua8 _ h4⟩))
  ·exact .inr (.inr (.inr (.inl ⟨f2,id2,by simpa only [slM] using h1,h2,h3,t',ua8 _ h4⟩)))
  ·exact .inr (.inr (.inr (.inr ⟨s5,by simpa only [slM] using h1,h5⟩)))
theorem zp5 {a b:Nat} (h:oid a=oid b):a=b:=by
 unfold oid at h;omega
theorem yj8 {a id:Nat} (h:a<1000000000000000000000000000000):¬ kid id<=oid a:=by
 unfold oid kid;omega
theorem qih {s0:Tmp}:{L:List MI}->zw L=true->qkh s0 L=true->s0<1000000000000000000000000000000
 |[],_,h=>by simp [qkh] at h
 |.o t _ _::r,hl,h=>by
  simp only [zw,ua1,uab] at hl;simp only [qkh,uca,ubu] at h;rcases h with rfl|h
  ·exact hl.1
  ·exact qih hl.2 h
 |.x _ _ _::r,hl,h=>by
  simp only [zw,ua1] at hl;exact qih (L:=r) hl.2 h
 |.r _ _ _::r,hl,h=>by
  simp only [zw,ua1] at hl;exact qih (L:=r) hl.2 h
 |.g _ _ _::r,hl,h=>by
  simp only [zw,ua1] at hl;exact qih (L:=r) hl.2 h
 |.al _ _::r,hl,h=>by
  simp only [zw] at hl;exact qih (L:=r) hl h
 |.y _ _ _::r,hl,h=>by
  simp only [zw,ua1] at hl;exact qih (L:=r) hl.2.2.2 h
theorem qpa {all:List MI} {sl:Nat->AV} {s0:Tmp} (hs30:s0<1000000000000000000000000000000):{L:List MI} -> {us:List Nat} -> {y:jd L}->yd all sl m L us=some y->zw L=true->qkh s0 L=true ->
  (∃ e t l,yi L y (oid s0)=some (.arr e t l))/\((∃ k e t l,sl s0 = .c (.own k)/\m k=some (.arr e t l)/\yr γ sl m L (oid s0)=γ k)∨(sl s0 = .c .nil/\yr γ sl m L (oid s0) = .slice none 0 0))
 |[],_,_,_,_,h=>by simp [qkh] at h
 |.o t e ty::r,us,y,h,hlow,ho=>by
  simp only [zw,ua1,uab] at hlow;simp only [qkh,uca,ubu] at ho;simp only [yd] at h;split at h<;>try trivial
  ·rename_i hslt;split at h<;>try trivial
   rename_i y' hy;cases h;by_cases hi:t=s0
   ·subst hi;refine ⟨⟨e,ty,[],by simp [yi]⟩,.inr ⟨hslt,?_⟩⟩;simp only [yr,zz,if_true,hslt]
   ·have hne:¬ oid s0=oid t:=fun hh=>hi (zp5 hh).symm;have:=qpa hs30 hy hlow.2 (ho.resolve_left hi);simpa only [yi,yr,zz,if_neg hne] using this
  ·rename_i id hslt;split at h<;>try trivial
   split at h<;>try trivial
   rename_i e' ty' l hmm;split at h<;>try trivial
   rename_i hty;split at h<;>try trivial
   split at h<;>try trivial
   rename_i y' hy;cases h;by_cases hi:t=s0
   ·subst hi;refine ⟨⟨e,ty,_,by simp [yi]; rfl⟩,.inl ⟨id,e',ty',l,hslt,hmm,?_⟩⟩;simp only [yr,zz,if_true,hslt]
   ·have hne:¬ oid s0=oid t:=fun hh=>hi (zp5 hh).symm;have:=qpa hs30 hy hlow.2 (ho.resolve_left hi);simpa only [yi,yr,zz,if_neg hne] using this
 |.x id e ty::r,us,y,h,hlow,ho=>by
  simp only [zw,ua1,uab] at hlow;simp only [yd] at h;split at h<;>try trivial
  split at h<;>try trivial
  split at h<;>try trivial
  split at h<;>try trivial
  rename_i y' hy;cases h;have hne:¬ oid s0=id:=fun hh=>by
   have:=hlow.1;unfold oid at hh;omega
  have:=qpa hs30 hy hlow.2 ho;simpa only [yi,yr,zz,if_neg hne] using this
 |.r t id off::r,us,y,h,hlow,ho=>by
  simp only [zw,ua1] at hlow;simp only [yd] at h;split at h<;>try trivial
  split at h<;>try trivial
  exact qpa (L:=r) (y:=y) hs30 h hlow.2 ho
 |.g t f id::r,us,y,h,hlow,ho=>by
  simp only [zw,ua1] at hlow;simp only [yd] at h;split at h<;>try trivial
  split at h<;>try trivial
  exact qpa (L:=r) (y:=y) hs30 h hlow.2 ho
 |.al t s1::r,us,y,h,hlow,ho=>by
  simp only [zw] at hlow;simp only [yd] at h;split at h<;>try trivial
  all_goals (split at h<;>try trivial)
  all_goals exact qpa (L:=r) (y:=y) hs30 h hlow ho
 |.y id e fs::r,us,y,h,hlow,ho=>by
  simp only [zw,ua1,uab] at hlow;simp only [yd] at h;split at h<;>try trivial
  split at h<;>try trivial
  split at h<;>try trivial
  split at h<;>try trivial
  rename_i y' hy;cases h;have hne:¬ oid s0=id:=fun hh=>by
   have:=hlow.1;unfold oid at hh;omega
  have hk:¬ (kid id<=oid s0/\oid s0<kid id+fs.length):=fun hh=>yj8 hs30 hh.1;have:=qpa hs30 hy hlow.2.2.2 ho;simpa only [yi,yr,zz,if_neg hne,if_neg hk] using this
theorem zql {f:Nat->AV} {tm:Nat->Value}:{vs:List (Tmp×PT)} -> {x:qn (vs.map (·.2))}->wt P w F (vs.map (·.2)) x (vs.map fun v=>tm v.1)->(∀ i,qz P w F R (f i) (tm i))->∀ i,qz P w F R (slV vs x f i) (tm i)
 |[],_,_,hf,i=>hf i
 |(t,p)::r,x,h,hf,i=>by
  obtain ⟨v,vs',h1,h2,h3⟩:=h;simp only [ud0,uej] at h1;obtain ⟨rfl,rfl⟩:=h1;simp only [slV];split
  ·rename_i hi;subst hi;exact zjh h2
  ·exact zql h3 hf i
theorem ql5 {tm:Tmp->Value}:{x:AV} -> {u:Value}->qz P w F R x u->vz P w F R tm x u
 |.dead,_,h=>h
 |.c _,_,h=>h
 |.agg _,_,h=>h
 |.tup _,_,h=>h
 |.optr _ _ _ _,_,h=>h
 |.aptr _ _ _,_,h=>h
 |.maybe _ _ _,_,h=>h.elim
theorem zbl {sl:Nat->AV} {tm:Nat->Value} (h:∀ t,qz P w F R (sl t) (tm t)):(ts:List Nat)->zr P w F R (ts.map sl) (ts.map tm)
 |[]=>trivial
 |t::r=>⟨h t,zbl h r⟩
theorem qkl {s:St} {a:Act} (hi:InvG P E s a w [] F γ) (t:Tmp):qz P w F (qp s.mem γ) (s.sl t) (a.tmps.getD t undef):=by
 have:=hi.sl t;cases hs:s.sl t with
 |maybe g want v=>
  have:=hi.hg t g want v hs;simp at this
 |_=>rw [hs] at this; exact this
def tmA (a:Act) (E:Env) (t:Nat):Value:=if t<10000 then a.tmps.getD t undef else E.G (t-10000)
theorem zxw {s:St} {a:Act} (hi:InvG P E s a w [] F γ) (t:Nat):qz P w F (qp s.mem γ) (s.at t) (tmA a E t):=by
 unfold St.at tmA;split
 ·exact qkl hi t
 ·exact hi.gh _
theorem yrl {tm:Tmp->Value} {x:AV} {u:Value} (h:qz P w F R x u):qh8 P w F R tm x u:=by
 cases x<;>first|exact h|exact h.elim
theorem zoe {m:Mem} (hm:MemOK P B w F γ m) (hb:∀ b,F b->b<w.heap.size):(i:MI)->∃ F',Step B w F γ m w F' γ (zhk m i)/\MemOK P B w F' γ (zhk m i):=by
 intro i;unfold zhk;split<;>try exact ⟨F,Step.refl hb,hm⟩
 rename_i id e0 ty0;split<;>try exact ⟨F,Step.refl hb,hm⟩
 rename_i e cs hid;split<;>try exact ⟨F,Step.refl hb,hm⟩
 rename_i cs' u hrs;split<;>try exact ⟨F,Step.refl hb,hm⟩
 rename_i e2 cs2 hid2;obtain ⟨b,arr,e1,e2',e3,e4,e5,e6⟩:=hm.ob id _ hid;obtain ⟨F1,s1,m1,t1,l1,r1⟩:=ql7 hm hb (qa6.of fun _ _ h=>h) hrs e6;obtain ⟨b',arr',f1,f2,f3,f4,f5,f6⟩:=m1.ob id _ hid2;rw [e1] at f1;simp only [ucx,ua0,ue0,ud7] at f1;subst f1;have hR:∀ i v,qp (qx m u) γ i v->qp (upd (qx m u) id (.box e cs')) γ i v:=qey hid2 (by simp);have hst:Step B w F1 γ (qx m u) w F1 γ (upd (qx m u) id (.box e cs')):=
  ⟨fun c h=>h,fun _ _=>rfl,hR,fun _ _=>rfl,rfl,rfl,rfl,ua3 _,s1.bd,fun c h=>.inl h⟩
 have hmm:MemOK P B w F1 γ (upd (qx m u) id (.box e cs')):=by
  refine m1.change hid2 (by simp) hst.hF hst.hw (fun c h=>?_) (fun c _ _=>⟨rfl,fun h=>h⟩) ?_
  ·rw [e1] at h ⊢;exact h
  ·exact ⟨b,arr,e1,e2',f3,e4,by rw [e5,l1],hst.repCL r1⟩
 refine ⟨F1,?_,?_⟩
 ·rw [yz]; exact s1.trans hst
 ·rw [yz]; exact hmm
theorem za9:(L:List MI) -> {m:Mem} -> {F:Nat->Prop}->MemOK P B w F γ m->(∀ b,F b->b<w.heap.size)->∃ F',Step B w F γ m w F' γ (zlk L m)/\MemOK P B w F' γ (zlk L m)
 |[],m,F,hm,hb=>⟨F,Step.refl hb,hm⟩
 |i::r,m,F,hm,hb=>by
  obtain ⟨F1,s1,m1⟩:=zoe hm hb i;obtain ⟨F2,s2,m2⟩:=za9 r m1 s1.bd;exact ⟨F2,s1.trans s2,m2⟩
theorem qaz (hΓ:qhd P Γ) {L:LS} (hlow:L.low=true) {s:St} {a:Act} (hi:I P E s a w) {x:L.X} {n:List Prop} (h:L.ext Γ s=some (x,n)) (hn:qr n):I P E (L.tpl s.n x) a w:=by
 obtain ⟨F,γ,hi⟩:=hi;have hsl:=zxw hi;unfold LS.ext at h;split at h<;>try trivial
 rename_i xs u hrs;split at h<;>try trivial
 rename_i xv n' hdec;split at h<;>try trivial
 rename_i y hext;cases h;have hreps:zr P w F (qp s.mem γ) (L.vs.map fun v=>s.at v.1) (L.vs.map fun v=>tmA a E v.1):=by
  have:=zbl hsl (L.vs.map (·.1));simpa [List.map_map,Function.comp_def] using this
 obtain ⟨F0,hs0,hm0,_,hxs0⟩:=wv hi.mem (kj hi) (qa6.of fun _ _ h=>h) hrs hreps;obtain ⟨F',hs1,hm⟩:=za9 L.ms hm0 hs0.bd;have hs:=hs0.trans hs1;have hxs:=zr.mono_ hs1.hF hs1.hw hs1.hR hxs0;generalize zlk L.ms (qx s.mem u)=m2 at *;have hps:=qf9 hΓ hdec hn hxs;have hsl':∀ t,qz P w F' (qp m2 γ) (s.at t) (tmA a E t):=fun t=>qz.mono hs.hF hs.hw hs.hR _ (hsl t);have hcases:=qez (tm:=tmA a E) (fun t=>yrl (hsl' t)) hext hlow;have hob:=qls hm hext;have hHR:∀ id e fs,MI.y id e fs∈L.ms->∀ j v,qyd fs j->zh3 w (γ id) j v->qp (yi L.ms y) (yr γ s.at m2 L.ms) (kid id+j) v:=by
  intro id e fs hmem j v hj hc;obtain ⟨h30,hfs⟩:=qsx hlow hmem;obtain ⟨⟨e',t',l,h1⟩,h2⟩:=qip hm hj hc hext hlow hmem h30 hfs;unfold qp;rw [h1];exact h2.symm
 have hall:∀ t,qz P w F' (qp (yi L.ms y) (yr γ s.at m2 L.ms)) (slV L.vs xv (slM L.ms) t) (tmA a E t):=by
  refine zql (tm:=tmA a E) hps (fun i=>?_);rcases hcases i with h1|⟨h1,⟨e,t',l,h2⟩,h3,h4,_⟩|⟨id,off,h1,h2,h3,t',h4⟩|⟨f,id,h1,h2,h3,t',h4⟩|⟨s0,h1,hx,h5⟩
  ·rw [h1]; trivial
  ·rw [h1];refine ⟨h4,?_⟩;show qp (yi L.ms y) (yr γ s.at m2 L.ms) (oid i) (tmA a E i);unfold qp;rw [h2];exact h3.symm
  ·rw [h1];have hs':=hsl' i;rw [h2] at hs';obtain ⟨one,b,hR,hv⟩:=hs';refine ⟨one,b,?_,hv⟩;obtain ⟨o,hmo,hsrc⟩:=qmy hext h3 (fun t e ty _=>yrg hlow h4 t) (qpo hlow h4);have hg:yr γ s.at m2 L.ms id=γ id:=by unfold yr; rw [hsrc]
   have hv':(Value.pointer (some ⟨b,0,none⟩))=γ id:=by
    rcases qcz hext id id hsrc with ⟨_,e,cs,hb⟩|⟨_,e,t2,l2,hb⟩
    ·simpa [qp,hb] using hR
    ·simpa [qp,hb] using hR
   show qp (yi L.ms y) (yr γ s.at m2 L.ms) id _;unfold qp;rw [hmo];cases o<;>first|trivial|exact hv'.trans hg.symm
  ·rw [h1];have hs':=hsl' i;rw [h2] at hs';obtain ⟨one,arr,hv,hsz,hcl⟩:=hs';refine ⟨one,arr,hv,hsz,?_⟩;have hlow':=qsw hlow h4;clear h1 h2 h4 hsz;have key:∀ (ids:List Nat) (g:Nat->Value->Prop),(∀ id∈ids,qjh id L.ms=true)->(∀ id∈ids,id<1000000000000000000000000000000)->qu P w F' (qp m2 γ) (ql3 ids) g->qu P w F' (qp (yi L.ms y) (yr γ s.at m2 L.ms)) (ql3 ids) g:=by
    intro ids
    induction ids with
    |nil=>intro g _ _ _; trivial
    |cons id ids ih=>
     intro g h3 hl hr;obtain ⟨⟨u0,k1,k2,b,hR,k4⟩,hrest⟩:=hr;refine ⟨⟨u0,k1,k2,b,?_,k4⟩,ih _ (fun j hj=>h3 j (List.mem_cons_of_mem _ hj)) (fun j hj=>hl j (List.mem_cons_of_mem _ hj)) hrest⟩;obtain ⟨o,hmo,hsrc⟩:=qmy hext (h3 id (by simp)) (fun t e ty _=>by have:=hl id (by simp); unfold oid; omega) (hl id (by simp));have hg:yr γ s.at m2 L.ms id=γ id:=by unfold yr; rw [hsrc]
     have hv':(Value.pointer (some ⟨b,0,none⟩))=γ id:=by
      rcases qcz hext id id hsrc with ⟨_,e,cs,hb⟩|⟨_,e,t2,l2,hb⟩
      ·simpa [qp,hb] using hR
      ·simpa [qp,hb] using hR
     show qp (yi L.ms y) (yr γ s.at m2 L.ms) id _;unfold qp;rw [hmo];cases o<;>first|trivial|exact hv'.trans hg.symm
   exact key _ _ h3 hlow' hcl
  ·rw [h1];obtain ⟨⟨e,t',l,h2⟩,h6⟩:=qpa (γ:=γ) (qih hlow hx) hext hlow hx;have hs':=hsl' i;have key:tmA a E i=yr γ s.at m2 L.ms (oid s0)/\(tmA a E i).oneCell'=true:=by
    rcases h6 with ⟨k,e1,t1,l1,k1,k2,k3⟩|⟨k1,k2⟩
    ·rcases h5 with ⟨k',q1,q2⟩|⟨q1,q2⟩
     ·rw [q2] at k1;cases k1;rw [q1] at hs';have hv:qp m2 γ _ (tmA a E i):=hs'.2;simp only [qp,k2] at hv;exact ⟨hv.trans k3.symm,hs'.1⟩
     ·rw [q2] at k1;cases k1
    ·rcases h5 with ⟨k',q1,q2⟩|⟨q1,q2⟩
     ·rw [q2] at k1;cases k1
     ·rw [q1] at hs';exact ⟨hs'.2.trans k2.symm,hs'.1⟩
   refine ⟨key.2,?_⟩;show qp (yi L.ms y) (yr γ s.at m2 L.ms) (oid s0) (tmA a E i);unfold qp;rw [h2];exact key.1
 refine ⟨F',yr γ s.at m2 L.ms,hi.n,hi.df,?_,⟨fun id o ho=>(hob id o ho _ hHR).1,fun i j oi oj b hij hoi hoj hb hb'=>?_⟩,fun t=>?_,fun t g want v ht=>?_,fun t=>?_⟩
 ·obtain ⟨γ0,h0⟩:=hi.step;have:=h0.trans hs;exact ⟨γ0,this.hF,this.hw,fun _ _ hh=>hh.elim,this.old,this.os,this.tape,this.output,this.size,this.bd,this.new⟩
 ·rcases (hob i oi hoi _ hHR).2 with ⟨k,o0,s1,m1,e1⟩|e1
  ·rcases (hob j oj hoj _ hHR).2 with ⟨k',o0',s2,m2,e2⟩|e2
   ·by_cases hk:k=k'
    ·subst hk;exact hij (qio hext i j k s1 s2)
    ·exact hm.apart k k' o0 o0' b hk m1 m2 (e1.trans hb) (e2.trans hb')
   ·rw [e2] at hb'; cases hb'
  ·rw [e1] at hb; cases hb
 ·show vz P w F' _ _ (if t<10000 then slV L.vs xv (slM L.ms) t else .dead) _;split
  ·rename_i ht;have:=hall t;unfold tmA at this;rw [if_pos ht] at this;exact ql5 this
  ·trivial
 ·exfalso;have ht':(if t<10000 then slV L.vs xv (slM L.ms) t else .dead) = .maybe g want v:=ht;split at ht'
  ·have:=hall t;rw [ht'] at this;exact this
  ·cases ht'
 ·have:=hall (t+10000);unfold tmA at this;rw [if_neg (by omega),Nat.add_sub_cancel] at this;exact this
end
end Go.Ab
namespace Go.Ab
open Go Go.RowKit
inductive Fr (α:Type) where
 |val (x:α)
 |br (b:Bool) (x y:Fr α)
 |need (p:Prop) (x:Fr α)
def Fr.needL {α:Type} (ns:List Prop) (x:Fr α):Fr α:=ns.foldr (fun p t=>.need p t) x
def Fr.get {α:Type}:Fr α->α
 |.val x=>x
 |.br b x y=>if b=true then x.get else y.get
 |.need _ x=>x.get
def Fr.ok {α:Type}:Fr α->Prop
 |.val _=>True
 |.br b x y=>(b=true->x.ok)/\(b=false->y.ok)
 |.need p x=>p/\x.ok
def qa7 (P:Program) (rv:List ResultVar) (rs:List Ty) (s:St):Option (Fr (qi rs)):=
 match qdx P s rv with
 |some (vs,n)=>match qcj s.mem vs with
  |some (xs,_)=>match qe3 rs xs with
   |some y=>some (Fr.needL n (.val y))
   |none=>none
  |none=>none
 |none=>none
def qig (P:Program) (rv:List ResultVar) (rs:List Ty):Tr->Option (Fr (qi rs))
 |.leaf .ret s=>qa7 P rv rs s
 |.leaf .normal s=>qa7 P rv rs s
 |.leaf _ _=>none
 |.br b x y=>match qig P rv rs x,qig P rv rs y with
  |some x',some y'=>some (.br b x' y')
  |_,_=>none
 |.need p x=>match qig P rv rs x with
  |some x'=>some (.need p x')
  |none=>none
 |.two p x y=>match qig P rv rs x,qig P rv rs y with
  |some x',some y'=>some (.need (p->x'.ok/\x'.get=y'.get) y')
  |_,_=>none
def qg2:(ps:List PT)->qn ps->List AV
 |[],_=>[]
 |p::r,x=>yby p x.1::qg2 r x.2
def yeo (P:Program) (C:Cx) (Λ:Nat->St->Option Tr) (c:Code) (n:Nat) (rv:List ResultVar) (ps:List PT) (rs:List Ty) (xs:qn ps):Option (Fr (qi rs)):=
 match ja P C 0 Λ c 0 (qos n (qg2 ps xs)) with
 |some t=>qig P rv rs t
 |none=>none
section
variable {P:Program} {B:Nat} {w w':World} {E:Env} {F F':Nat->Prop} {bs:Nat} {γ γ' γ0:Nat->Value} {Γ:Gm} {M m:Mem} {R:Nat->Value->Prop}
def zbm (tmps:Array Value):ResultVar->Sem Value
 |.tmp t=>pure (tmps.getD t undef)
 |.cell a t=>do loadVar t (← asAddr (tmps.getD a undef))
def zbk (P:Program) (tmps:Array Value) (w:World):List ResultVar->List Value->Prop
 |[],[]=>True
 |r::rs,v::vs=>(zbm tmps r).run P w = .ok v w/\zbk P tmps w rs vs
 |_,_=>False
theorem zli {tmps:Array Value}:(l:List ResultVar)->(us:List Value)->zbk P tmps w l us->(l.mapM (m:=Sem) (zbm tmps)).run P w = .ok us w
 |[],[],_=>by simp
 |r::rs,v::vs,h=>by
  rw [List.mapM_cons];simp only [ub4,h.1,Result.andThen,zli rs vs h.2,ud4]
def qrr:List Value->Value
 |[v]=>v
 |vs=>.tuple vs.toArray
theorem qd3 {fn:Func} {tmps:Array Value} {vs:List Value} (h:zbk P tmps w fn.results.toList vs):(results fn tmps).run P w = .ok (qrr vs) w:=by
 have he:results fn tmps=(do
   let vs ← fn.results.mapM (zbm tmps)
   pure (if h:vs.size=1 then vs[0] else .tuple vs)):=by
  unfold results;congr 1
 rw [he,Array.mapM_eq_mapM_toList];simp only [ub4,map_eq_pure_bind,ud4,zli _ _ h,Result.andThen];cases vs with
 |nil=>simp [qrr]
 |cons v vs=>
  cases vs with
  |nil=>simp [qrr]
  |cons v' vs=>simp [qrr]
theorem qrq:{ts:List Ty} -> {x:qi ts} -> {vs:List Value}->qad w F ts x vs->qi6 w F ts x (qrr vs)
 |[],_,_,h=>by
  cases h;exact ⟨#[],rfl,rfl⟩
 |[t],x,vs,h=>by
  obtain ⟨v,vs',rfl,h2,h3⟩:=h;cases h3;exact h2
 |t::t'::r,x,vs,h=>by
  obtain ⟨v,vs',rfl,h2,h3⟩:=id h;obtain ⟨v',vs'',rfl,_,_⟩:=id h3;exact ⟨_,rfl,by simpa using h⟩
theorem qex:{ps:List PT} -> {xs:qn ps} -> {vs:List Value}->wt P w F ps xs vs->zr P w F R (qg2 ps xs) vs
 |[],_,_,h=>by cases h; trivial
 |_::_,_,_,⟨v,vs',h1,h2,h3⟩=>by subst h1; exact ⟨zjh h2,qex h3⟩
theorem qij:{xs:List AV} -> {vs:List Value}->zr P w F R xs vs->∀ i:Nat,qz P w F R (xs.getD i .dead) (vs.getD i undef)
 |[],[],_,i=>trivial
 |x::xs,v::vs,h,0=>h.1
 |x::xs,v::vs,h,i+1=>by
  have:=qij h.2 i;simpa using this
theorem qi3 {D:List Deferred} {n:Nat} {xs:List AV} {vs:List Value} (hb:∀ b,F b->b<w.heap.size) (h:∀ R,zr P w F R xs vs) (hn:vs.length<=n):I P ⟨w,F,fun _=>undef,D,w.heap.size,ua3 _⟩ (qos n xs) { tmps:=vs.toArray++Array.replicate (n-vs.length) undef,defers:=D } w:=by
 refine ⟨F,fun _=>undef,?_,rfl,⟨fun _=>undef,Step.refl hb⟩,⟨fun id o ho=>(nomatch ho),fun i j oi oj b _ ho=>(nomatch ho)⟩,fun t=>?_,fun t g want v ht=>?_,fun _=>trivial⟩
 ·show _=n;simp;omega
 ·have hg:(vs.toArray++Array.replicate (n-vs.length) undef).getD t undef=vs.getD t undef:=by
   simp only [ubh,ua6];rcases uar t vs.length with hlt|hge
   ·rw [ug3 (by simpa using hlt)];simp
   ·rw [ug4 (by simpa using hge),ucy hge];simp only [uem];split<;>rfl
  show vz P w F _ _ (xs.getD t .dead) ((vs.toArray++Array.replicate (n-vs.length) undef).getD t undef);rw [hg];exact ql5 (qij (h _) t)
 ·exfalso;have:=qij (h fun _ _=>True) t;have ht':xs.getD t .dead = .maybe g want v:=ht;rw [ht'] at this;exact this
theorem qof {α:Type} {x:Fr α}:(ns:List Prop)->(Fr.needL ns x).ok->qr ns/\x.ok
 |[],h=>⟨trivial,h⟩
 |p::ns,h=>by
  have h':p/\(Fr.needL ns x).ok:=h;obtain ⟨h1,h2⟩:=qof ns h'.2;exact ⟨xz.2 ⟨h'.1,h1⟩,h2⟩
theorem qlz {α:Type} {x:Fr α}:(ns:List Prop)->(Fr.needL ns x).get=x.get
 |[]=>rfl
 |_::ns=>qlz ns
theorem qoc {rv:List ResultVar} {rs:List Ty}:{t:Tr} -> {f:Fr (qi rs)}->qig P rv rs t=some f->f.ok->t.sat fun e s=>(e = .ret∨e = .normal)/\∃ n,qa7 P rv rs s=some (Fr.needL n (.val f.get))/\qr n
 |.leaf e s,f,h,hok=>by
  have key:qa7 P rv rs s=some f->∃ n,qa7 P rv rs s=some (Fr.needL n (.val f.get))/\qr n:=fun h=>by
   have h0:=h;unfold qa7 at h;split at h<;>try trivial
   split at h<;>try trivial
   split at h<;>try trivial
   rename_i y _;cases h;refine ⟨_,?_,(qof _ hok).1⟩;rw [qlz];exact h0
  cases e with
  |exit i=>simp [qig] at h
  |panic i=>simp [qig] at h
  |val i=>simp [qig] at h
  |jump i=>simp [qig] at h
  |normal=>exact ⟨.inr rfl,key h⟩
  |ret=>exact ⟨.inl rfl,key h⟩
 |.br b x y,f,h,hok=>by
  simp only [qig] at h;split at h<;>try trivial
  rename_i x' y' hx hy;cases h;refine ⟨fun hb=>?_,fun hb=>?_⟩
  ·have:=qoc hx (hok.1 hb);simpa only [Fr.get,hb,if_true] using this
  ·have:=qoc hy (hok.2 hb);simpa only [Fr.get,hb,ubt,ub3] using this
 |.need p x,f,h,hok=>by
  simp only [qig] at h;split at h<;>try trivial
  rename_i x' hx;cases h;have:=qoc hx hok.2;exact ⟨hok.1,this⟩
 |.two p x y,f,h,hok=>by
  simp only [qig] at h;split at h<;>try trivial
  rename_i x' y' hx hy;cases h;have h2:=qoc hy hok.2;refine ⟨fun hp=>?_,h2⟩;have:=qoc hx (hok.1 hp).1
  rwa [(hok.1 hp).2] at this
theorem qiw {s:St} {a:Act} (hi:InvG P E s a w [] F γ):{rv:List ResultVar} -> {vs:List AV} -> {n:List Prop}->qdx P s rv=some (vs,n)->qr n->∃ us,zbk P a.tmps w rv us/\zr P w F (qp s.mem γ) vs us
 |[],vs,n,h,hn=>by
  simp only [qdx,ua0,ua9] at h;obtain ⟨rfl,rfl⟩:=h;exact ⟨[],trivial,trivial⟩
 |r::rv,vs,n,h,hn=>by
  simp only [qdx] at h;split at h<;>try trivial
  rename_i v n1 vs' n2 h1 h2;cases h;obtain ⟨us,h3,h4⟩:=qiw hi h2 (xl.1 hn).2;have hn1:=(xl.1 hn).1;cases r with
  |tmp t=>
   simp only [yd7,ua0,ua9] at h1;obtain ⟨rfl,_⟩:=h1;exact ⟨a.tmps.getD t undef::us,⟨by simp [zbm],h3⟩,qkl hi t,h4⟩
  |cell ad t=>
   simp only [yd7] at h1;split at h1<;>try trivial
   rename_i id off hs;split at h1<;>try trivial
   rename_i e he;cases h1;have hr:=qkl hi ad;rw [hs] at hr;obtain ⟨_,u,hu,hru⟩:=za5 hi.mem (fun _ _ h=>h) he hn1 hr;obtain ⟨_,b,_,hv⟩:=hr;refine ⟨u::us,⟨?_,h3⟩,hru,h4⟩;have hv':a.tmps.getD ad undef = .pointer (some ⟨b,off,none⟩):=hv;rw [hv'] at hu;show (do loadVar t (← asAddr (a.tmps.getD ad undef)):Sem Value).run P w=_;rw [hv'];exact hu
theorem ql0 {α:Type} {x y:α}:{ns ms:List Prop}->Fr.needL ns (.val x)=Fr.needL ms (.val y)->qr ms->qr ns/\x=y
 |[],[],h,_=>by
  have h':Fr.val x=Fr.val y:=h;injection h' with h'
  exact ⟨trivial,h'⟩
 |[],_::_,h,_=>nomatch (show Fr.val x=Fr.need _ _ from h)
 |_::_,[],h,_=>nomatch (show Fr.need _ _=Fr.val y from h)
 |p::ns,q::ms,h,hm=>by
  have h':Fr.need p (Fr.needL ns (.val x))=Fr.need q (Fr.needL ms (.val y)):=h;injection h' with h1 h2
  subst h1;obtain ⟨a,b⟩:=xz.1 hm;obtain ⟨c,d⟩:=ql0 h2 b;exact ⟨xz.2 ⟨a,c⟩,d⟩
theorem zxn {C:Cx} (hC:CxOK P C) {Λ:Nat->St->Option Tr} {f:FuncId} {fn:Func} {c:Code} {ps:List PT} {rs:List Ty} {fr:qn ps->Fr (qi rs)}
  (hf:P.funcs[f]? = some fn) (hb:fn.body=some c) (hc:∀ args w,(callFunc f args).run P w = .ok (.enter f args) w) (hn:ps.length<=fn.ntmps) (hΛ:∀ E,jw P E Λ c 0)
  (hrun:∀ xs,yeo P C Λ c fn.ntmps fn.results.toList ps rs xs=some (fr xs)):qa P f ⟨ps,rs,fun xs=>(fr xs).get,fun xs=>[(fr xs).ok]⟩:=by
 refine ⟨hc,fun w F xs vs hbd hr hok=>calls_of_wp hf hb ?_⟩;have hr':=hrun xs;unfold yeo at hr';split at hr'<;>try (cases hr'; done)
 rename_i t ht;have hlen:vs.length=ps.length:=by
  have:∀ {ps:List PT} {xs:qn ps} {vs:List Value},wt P w F ps xs vs->vs.length=ps.length:=by
   intro ps
   induction ps with
   |nil=>intro xs vs h; cases h; rfl
   |cons p r ih=>
    intro xs vs h;obtain ⟨v,vs',rfl,_,h3⟩:=h;simp [ih h3]
  exact this hr
 have hstart:=qi3 (D:=[]) (n:=fn.ntmps) hbd (fun R=>qex (R:=R) hr) (by omega);have hwp:=yx hC c 0 (hΛ _) ht (qoc hr' hok) hstart;have hsz:(vs.toArray).size=vs.length:=by simp
 rw [hsz];refine wp_mono hwp ?_;rintro e a' w' ⟨xe,s,rfl,⟨F',γ',hi⟩,hxe,n,hend,hnn⟩;have hfin:a'.defers=[]/\∃ v,(results fn a'.tmps).run P w' = .ok v w'/\qd1 w F rs (fr xs).get (.returned v) w':=by
  unfold qa7 at hend;split at hend<;>try trivial
  rename_i avs n' hres;split at hend<;>try trivial
  rename_i axs u hrs;split at hend<;>try trivial
  rename_i y hdec;injection hend with hend
  obtain ⟨hn',hy⟩:=ql0 hend hnn;subst hy;obtain ⟨us,hran,hreps⟩:=qiw hi hres hn';obtain ⟨F'',hs,hm',_,hxs⟩:=wv hi.mem (kj hi) (qa6.of fun _ _ h=>h) hrs hreps;obtain ⟨γ0,h0⟩:=hi.step;have hst:=h0.trans hs;refine ⟨hi.df,_,qd3 hran,_,F'',rfl,⟨hst.os,hst.tape,hst.output,hst.size,hst.old⟩,hst.hF,fun b hb=>⟨hst.new b hb,hst.bd b hb⟩,qrq (qdv hdec hxs)⟩
 rcases hxe with rfl|rfl
 ·exact hfin
 ·exact hfin
theorem conv {f:FuncId} {ct:Ct} (h:qa P f ct) (g:qn ct.ps->qi ct.rs) (ok:qn ct.ps->List Prop) (hg:∀ w F xs vs,wt P w F ct.ps xs vs->qr (ok xs)->qr (ct.ok xs)/\ct.f xs=g xs):qa P f ⟨ct.ps,ct.rs,g,ok⟩:=by
 refine ⟨h.1,fun w F xs vs hb hr hok=>?_⟩;obtain ⟨h1,h2⟩:=hg w F xs vs hr hok;have:=h.2 w F xs vs hb hr h1;rw [h2] at this;exact this
theorem enters {f:FuncId} {fn:Func} {c:Code} (hf:P.funcs[f]? = some fn) (hb:fn.body=some c) (hn:(fn.name == "runtime.NumGoroutine")=false) (args:Array Value) (w:World):(callFunc f args).run P w = .ok (.enter f args) w:=by
 have hn':¬ fn.name = "runtime.NumGoroutine" := by simpa using hn
 simp [callFunc,hf,hb,hn']
def qxc (P:Program) (C:Cx) (Λ:Nat->St->Option Tr) (fn:Func) (ps:List PT) (rs:List Ty) (xs:qn ps):Option (Fr (qi rs)):=
 match fn.body with
 |some c=>if (fn.name == "runtime.NumGoroutine")=false/\ps.length<=fn.ntmps then yeo P C Λ c fn.ntmps fn.results.toList ps rs xs else none
 |none=>none
theorem qg {C:Cx} (hC:CxOK P C) {Λ:Nat->St->Option Tr} {f:FuncId} {fn:Func} {ps:List PT} {rs:List Ty} {fr:qn ps->Fr (qi rs)} (x0:qn ps)
  (hf:P.funcs[f]? = some fn) (hΛ:∀ c E,fn.body=some c->jw P E Λ c 0) (hrun:∀ xs,qxc P C Λ fn ps rs xs=some (fr xs)):qa P f ⟨ps,rs,fun xs=>(fr xs).get,fun xs=>[(fr xs).ok]⟩:=by
 have h0:=hrun x0;unfold qxc at h0;split at h0<;>try trivial
 rename_i c hb;split at h0<;>try trivial
 rename_i hc;refine zxn hC hf hb (enters hf hb hc.1) hc.2 (fun E=>hΛ c E hb) fun xs=>?_;have:=hrun xs;unfold qxc at this;simp only [hb,hc,and_self,if_true] at this;exact this
theorem zzn {s:St} {a:Act} {n:Nat} {xs:List AV} {vs:List Value} (hi:InvG P E s a w [] F γ) (h:zr P w F (qp s.mem γ) xs vs) (hn:vs.length<=n) :
  I P ⟨E.w0,E.F0,tmA a E,[],E.B,E.hB⟩ ⟨n,fun i=>xs.getD i .dead,s.mem,s.at⟩ { tmps:=vs.toArray++Array.replicate (n-vs.length) undef,defers:=[] } w:=by
 refine ⟨F,γ,?_,rfl,hi.step,hi.mem,fun t=>?_,fun t g want v ht=>?_,fun t=>zxw hi t⟩
 ·show _=n;simp;omega
 ·have hg:(vs.toArray++Array.replicate (n-vs.length) undef).getD t undef=vs.getD t undef:=by
   simp only [ubh,ua6];rcases uar t vs.length with hlt|hge
   ·rw [ug3 (by simpa using hlt)];simp
   ·rw [ug4 (by simpa using hge),ucy hge];simp only [uem];split<;>rfl
  show vz P w F _ _ (xs.getD t .dead) ((vs.toArray++Array.replicate (n-vs.length) undef).getD t undef);rw [hg];exact ql5 (qij h t)
 ·exfalso;have:=qij h t;have ht':xs.getD t .dead = .maybe g want v:=ht;rw [ht'] at this;exact this
theorem qsu {s s':St} {a a':Act} {w':World} (hi:InvG P E s a w [] F γ) (h:InvG P ⟨E.w0,E.F0,tmA a E,[],E.B,E.hB⟩ s' a' w' [] F' γ'):InvG P E (s'.back s.n) a w' [] F' γ':=by
 refine ⟨hi.n,hi.df,h.step,h.mem,fun t=>?_,fun t g want v ht=>?_,fun t=>?_⟩
 ·show vz P w' F' _ _ (if t<10000 then s'.gs t else .dead) _;split
  ·rename_i ht;have:=h.gh t;have he:tmA a E t=a.tmps.getD t undef:=by unfold tmA; rw [if_pos ht]
   have h2:qz P w' F' (qp s'.mem γ') (s'.gs t) (tmA a E t):=this;rw [he] at h2;exact ql5 h2
  ·trivial
 ·exfalso;have ht':(if t<10000 then s'.gs t else .dead) = .maybe g want v:=ht;split at ht'
  ·have:=h.gh t;rw [ht'] at this;exact this
  ·cases ht'
 ·have hk:∀ k,qz P w' F' (qp s'.mem γ') (s'.gs k) (tmA a E k):=fun k=>h.gh k;have hall:∀ k,k=t+10000->qz P w' F' (qp s'.mem γ') (s'.gs k) (E.G t):=fun k hkt=>by
   have h2:=hk k;unfold tmA at h2;rw [if_neg (by omega)] at h2;have he:k-10000=t:=by omega
   rw [he] at h2;exact h2
  exact hall _ rfl
theorem zma:{xs:List AV} -> {vs:List Value}->zr P w F R xs vs->qz P w F R (qzk xs) (qrr vs)
 |[],[],_=>⟨#[],rfl,rfl,trivial⟩
 |[_],[_],h=>h.1
 |x::y::r,v::u::s,h=>by
  refine ⟨_,rfl,?_,?_⟩
  ·have:∀ {xs:List AV} {vs:List Value},zr P w F R xs vs->vs.length=xs.length:=fun h=>h.length;simpa using this h
  ·have:∀ (xs:List AV) (vs:List Value),zr P w F R xs vs->qky P w F R xs (fun j u=>vs[j]? = some u):=by
    intro xs
    induction xs with
    |nil=>intros; trivial
    |cons x xs ih=>
     intro vs h;cases vs with
     |nil=>exact h.elim
     |cons v vs=>exact ⟨⟨v,rfl,h.1⟩,by simpa using ih vs h.2⟩
   simpa using this _ _ h
 |[],_::_,h=>h.elim
 |_::_,[],h=>h.elim
 |[_],_::_::_,h=>h.2.elim
 |_::_::_,[_],h=>h.2.elim
theorem qie {rv:List ResultVar} {n:Nat} {Q:XE->St->Prop}:{t t':Tr}->qgb P rv n t=some t'->t'.sat Q->t.sat fun e s=>match e with
  |.panic p=>Q (.panic p) (s.back n)
  |.ret=>∃ vs ns,qdx P s rv=some (vs,ns)/\qr ns/\Q (.val (qzk vs)) (s.back n)
  |.normal=>∃ vs ns,qdx P s rv=some (vs,ns)/\qr ns/\Q (.val (qzk vs)) (s.back n)
  |_=>False
 |.leaf e s,t',h,hq=>by
  cases e with
  |panic p=>
   simp only [qgb,ua0] at h;subst h;exact hq
  |ret=>
   simp only [qgb] at h;split at h<;>try trivial
   rename_i vs ns hr;cases h;obtain ⟨h1,h2⟩:=qa0 _ hq;exact ⟨vs,ns,hr,h1,h2⟩
  |normal=>
   simp only [qgb] at h;split at h<;>try trivial
   rename_i vs ns hr;cases h;obtain ⟨h1,h2⟩:=qa0 _ hq;exact ⟨vs,ns,hr,h1,h2⟩
  |exit _=>simp [qgb] at h
  |val _=>simp [qgb] at h
  |jump _=>simp [qgb] at h
 |.br b x y,t',h,hq=>by
  simp only [qgb] at h;split at h<;>try trivial
  rename_i x' y' hx hy;cases h;exact ⟨fun hb=>qie hx (hq.1 hb),fun hb=>qie hy (hq.2 hb)⟩
 |.need p x,t',h,hq=>by
  simp only [qgb] at h;split at h<;>try trivial
  rename_i x' hx;cases h;exact ⟨hq.1,qie hx hq.2⟩
 |.two p x y,t',h,hq=>by
  simp only [qgb] at h;split at h<;>try trivial
  rename_i x' y' hx hy;cases h;exact ⟨fun hb=>qie hx (hq.1 hb),qie hy hq.2⟩
theorem qis {C:Cx} (hC:CxOK P C) {Xi:FuncId->Option (Func×(Nat->St->Option Tr))} (hX:∀ f fn Λ,Xi f=some (fn,Λ)->P.funcs[f]? = some fn/\∀ c E,fn.body=some c->jw P E Λ c 0):qhy P (qql P C Xi):=by
 intro d f args s t h;unfold qql at h;split at h<;>try trivial
 rename_i fn Λ hxi;split at h<;>try trivial
 rename_i c hbody;split at h<;>try trivial
 rename_i hc;split at h<;>try trivial
 rename_i t1 ht1;obtain ⟨hf,hΛ⟩:=hX f fn Λ hxi;refine ⟨enters hf hbody hc.2,fun E a w F γ vs Q hi hr hq=>calls_of_wp hf hbody ?_⟩;have hlen:vs.length=args.length:=hr.length;have hstart:=zzn (n:=fn.ntmps) hi hr (by omega);have hsat:=qie h hq;have hwp:=yx hC c 0 (hΛ c _ hbody) ht1 hsat hstart;have hsz:(vs.toArray).size=vs.length:=by simp
 rw [hsz];refine wp_mono hwp ?_;rintro e a' w' ⟨xe,s',rfl,⟨F',γ',hi'⟩,hx⟩;have hfin:(∃ vs ns,qdx P s' fn.results.toList=some (vs,ns)/\qr ns/\Q (.val (qzk vs)) (s'.back s.n))->a'.defers=[]/\∃ v,(results fn a'.tmps).run P w' = .ok v w'/\yak P E a Q (.returned v) w':=by
  rintro ⟨vs,ns,hres,hns,hqv⟩;obtain ⟨us,hran,hreps⟩:=qiw hi' hres hns;exact ⟨hi'.df,_,qd3 hran,_,_,F',γ',hqv,qsu hi hi',_,rfl,zma hreps⟩
 cases xe with
 |panic p=>exact ⟨hi'.df,.panic p,_,F',γ',hx,qsu hi hi',rfl⟩
 |ret=>exact hfin hx
 |normal=>exact hfin hx
 |exit _=>exact hx.elim
 |val _=>exact hx.elim
 |jump _=>exact hx.elim
end
end Go.Ab

namespace Go.Ab
open Go Go.RowKit
theorem yg0 {p:Nat->Prop} (h:∃ n,p n):∃ n,p n/\∀ m,p m->n<=m:=by
 obtain ⟨n,hn⟩:=h
 induction n using Nat.strongRecOn with
 |_ n ih=>
  by_cases hm:∃ m,m<n/\p m
  ·obtain ⟨m,h1,h2⟩:=hm;exact ih m h1 h2
  ·refine ⟨n,hn,fun m hm'=>?_⟩;rcases uar m n with h|h
   ·exact absurd ⟨m,h,hm'⟩ hm
   ·exact h
noncomputable def qnn (p:Nat->Prop):Nat:=open Classical in if h:∃ n,p n then (yg0 h).choose else 0
theorem qek {p:Nat->Prop} (h:∃ n,p n):p (qnn p)/\∀ m,p m->qnn p<=m:=by
 unfold qnn;rw [dif_pos h];exact (yg0 h).choose_spec
theorem zvh {P:Program} {c:Code} {Q:Exit->Act->World->Prop} {a:Act} {w:World} (J:Nat->Act->World->Prop) (h0:∃ m,J m a w)
  (round:∀ m a w,J m a w->c.wp P (Exit.then (fun a' w'=>∃ m',m'<m/\J m' a' w') Q) a w):(Code.loop c).wp P Q a w:=by
 refine wp_loop (fun a w=>∃ m,J m a w) (fun a w=>qnn fun m=>J m a w) h0 fun a w h=>?_;obtain ⟨h1,h2⟩:=qek (p:=fun m=>J m a w) h;refine wp_mono (round _ a w h1) fun e a' w' he=>?_;cases e with
 |normal=>
  obtain ⟨m',h3,h4⟩:=he;exact ⟨⟨m',h4⟩,ug5 ((qek (p:=fun m=>J m a' w') ⟨m',h4⟩).2 m' h4) h3⟩
 |_=>exact he
def Fr.satP {α:Type} (Q:α->Prop):Fr α->Prop
 |.val x=>Q x
 |.br b x y=>(b=true->x.satP Q)/\(b=false->y.satP Q)
 |.need p x=>p/\x.satP Q
theorem Fr.satP_of {α:Type} {Q:α->Prop}:{f:Fr α}->f.ok->Q f.get->f.satP Q
 |.val _,_,h=>h
 |.br b x y,h,hq=>by
  refine ⟨fun hb=>Fr.satP_of (h.1 hb) ?_,fun hb=>Fr.satP_of (h.2 hb) ?_⟩
  ·simpa only [Fr.get,hb,if_true] using hq
  ·simpa only [Fr.get,hb,ubt,ub3] using hq
 |.need p x,h,hq=>⟨h.1,Fr.satP_of h.2 hq⟩
theorem Fr.satP_get {α:Type} {Q:α->Prop}:{f:Fr α}->f.satP Q->f.ok/\Q f.get
 |.val _,h=>⟨trivial,h⟩
 |.br b x y,h=>by
  cases b with
  |true=>
   have:=Fr.satP_get (h.1 rfl);exact ⟨⟨fun _=>this.1,fun hb=>by cases hb⟩,this.2⟩
  |false=>
   have:=Fr.satP_get (h.2 rfl);exact ⟨⟨fun hb=>(by cases hb),fun _=>this.1⟩,this.2⟩
 |.need p x,h=>⟨⟨h.1,(Fr.satP_get h.2).1⟩,(Fr.satP_get h.2).2⟩
theorem Fr.needL_satP {α:Type} {Q:α->Prop} {x:Fr α}:{ns:List Prop}->(Fr.needL ns x).satP Q->qr ns/\x.satP Q
 |[],h=>⟨trivial,h⟩
 |p::ns,h=>by
  have h':p/\(Fr.needL ns x).satP Q:=h;obtain ⟨h1,h2⟩:=Fr.needL_satP h'.2;exact ⟨xz.2 ⟨h'.1,h1⟩,h2⟩
inductive Rd (X Y Z:Type) where
 |next (x:X)
 |out (y:Y)
 |back (z:Z)
 |pan (p:PV)
structure Lp where
 n:Nat
 id:Nat
 L:LS
 E:LS
 R:LS
abbrev Lp.In (l:Lp):Type:=l.L.X
abbrev Lp.Out (l:Lp):Type:=Rd Unit l.E.X l.R.X
abbrev Lp.Round (l:Lp):Type:=Rd l.L.X l.E.X l.R.X
def Lp.rdOf (Γ:Gm) (l:Lp):Tr->Option (Fr l.Round)
 |.leaf .normal s=>if s.n=l.n then match l.L.ext Γ s with
   |some (x,n)=>some (Fr.needL n (.val (.next x)))
   |none=>none
  else none
 |.leaf (.exit i) s=>if i=l.id/\s.n=l.n then match l.E.ext Γ s with
   |some (x,n)=>some (Fr.needL n (.val (.out x)))
   |none=>none
  else none
 |.leaf .ret s=>if s.n=l.n then match l.R.ext Γ s with
   |some (x,n)=>some (Fr.needL n (.val (.back x)))
   |none=>none
  else none
 |.leaf (.panic p) s=>if s.n=l.n then some (.val (.pan p)) else none
 |.leaf (.val _) _=>none
 |.leaf (.jump _) _=>none
 |.br b x y=>match l.rdOf Γ x,l.rdOf Γ y with
  |some x',some y'=>some (.br b x' y')
  |_,_=>none
 |.need p x=>match l.rdOf Γ x with
  |some x'=>some (.need p x')
  |none=>none
 |.two p x y=>match l.rdOf Γ x,l.rdOf Γ y with
  |some x',some y'=>some (.need (p->x'.ok/\x'.get=y'.get) y')
  |_,_=>none
def Lp.round (P:Program) (C:Cx) (bs:Nat) (Λ:Nat->St->Option Tr) (c:Code) (l:Lp) (x:l.In):Option (Fr l.Round):=
 match ja P C bs Λ c 0 (l.L.tpl l.n x) with
 |some t=>l.rdOf C.Γ t
 |none=>none
def Lp.toTr (l:Lp):Fr l.Out->Tr
 |.val (.next _)=>.need False (.leaf .ret ⟨0,fun _=>.dead,fun _=>none,fun _=>.dead⟩)
 |.val (.out y)=>.leaf (.exit l.id) (l.E.tpl l.n y)
 |.val (.back z)=>.leaf .ret (l.R.tpl l.n z)
 |.val (.pan p)=>.leaf (.panic p) ⟨l.n,fun _=>.dead,fun _=>none,fun _=>.dead⟩
 |.br b x y=>.br b (l.toTr x) (l.toTr y)
 |.need p x=>.need p (l.toTr x)
def Lp.han (Γ:Gm) (l:Lp) (F:l.In->Fr l.Out) (s:St):Option Tr:=
 if s.n=l.n then match l.L.ext Γ s with
  |some (x,n)=>some (needL n (l.toTr (F x)))
  |none=>none
 else none
section
variable {P:Program} {B:Nat} {w w':World} {E:Env} {bs:Nat} {Γ:Gm}
theorem Lp.toTr_sat (l:Lp) {Q:XE->St->Prop}:{f:Fr l.Out}->(l.toTr f).sat Q->f.satP fun
  |.next _=>False
  |.out y=>Q (.exit l.id) (l.E.tpl l.n y)
  |.back z=>Q .ret (l.R.tpl l.n z)
  |.pan p=>Q (.panic p) ⟨l.n,fun _=>.dead,fun _=>none,fun _=>.dead⟩
 |.val (.next _),h=>h.1
 |.val (.out _y),h=>h
 |.val (.back _z),h=>h
 |.val (.pan _),h=>h
 |.br _b _x _y,h=>⟨fun hb=>l.toTr_sat (h.1 hb),fun hb=>l.toTr_sat (h.2 hb)⟩
 |.need _p _x,h=>⟨h.1,l.toTr_sat h.2⟩
theorem Lp.rd_sat (l:Lp) {Q:l.Round->Prop}:{t:Tr} -> {f:Fr l.Round}->l.rdOf Γ t=some f->f.satP Q->t.sat fun e s=>match e with
  |.normal=>s.n=l.n/\∃ x n,l.L.ext Γ s=some (x,n)/\qr n/\Q (.next x)
  |.exit i=>i=l.id/\s.n=l.n/\∃ x n,l.E.ext Γ s=some (x,n)/\qr n/\Q (.out x)
  |.ret=>s.n=l.n/\∃ x n,l.R.ext Γ s=some (x,n)/\qr n/\Q (.back x)
  |.panic p=>s.n=l.n/\Q (.pan p)
  |.val _=>False
  |.jump _=>False
 |.leaf .normal s,f,h,hq=>by
  simp only [Lp.rdOf] at h;split at h<;>try trivial
  rename_i hn;split at h<;>try trivial
  rename_i x n hx;cases h;obtain ⟨h1,h2⟩:=Fr.needL_satP hq;exact ⟨hn,x,n,hx,h1,h2⟩
 |.leaf (.exit i) s,f,h,hq=>by
  simp only [Lp.rdOf] at h;split at h<;>try trivial
  rename_i hn;split at h<;>try trivial
  rename_i x n hx;cases h;obtain ⟨h1,h2⟩:=Fr.needL_satP hq;exact ⟨hn.1,hn.2,x,n,hx,h1,h2⟩
 |.leaf .ret s,f,h,hq=>by
  simp only [Lp.rdOf] at h;split at h<;>try trivial
  rename_i hn;split at h<;>try trivial
  rename_i x n hx;cases h;obtain ⟨h1,h2⟩:=Fr.needL_satP hq;exact ⟨hn,x,n,hx,h1,h2⟩
 |.leaf (.panic p) s,f,h,hq=>by
  simp only [Lp.rdOf] at h;split at h<;>try trivial
  rename_i hn;cases h;exact ⟨hn,hq⟩
 |.leaf (.val _) s,f,h,hq=>by simp [Lp.rdOf] at h
 |.leaf (.jump _) s,f,h,hq=>by simp [Lp.rdOf] at h
 |.br b x y,f,h,hq=>by
  simp only [Lp.rdOf] at h;split at h<;>try trivial
  rename_i x' y' hx hy;cases h;exact ⟨fun hb=>l.rd_sat hx (hq.1 hb),fun hb=>l.rd_sat hy (hq.2 hb)⟩
 |.need p x,f,h,hq=>by
  simp only [Lp.rdOf] at h;split at h<;>try trivial
  rename_i x' hx;cases h;have:=l.rd_sat hx hq.2;exact ⟨hq.1,this⟩
 |.two p x y,f,h,hq=>by
  simp only [Lp.rdOf] at h;split at h<;>try trivial
  rename_i x' y' hx hy;cases h;refine ⟨fun hp=>l.rd_sat hx (Fr.satP_of (hq.1 hp).1 ?_),l.rd_sat hy hq.2⟩;rw [(hq.1 hp).2];exact (Fr.satP_get hq.2).2
end
end Go.Ab

namespace Go.Ab
open Go Go.RowKit
inductive Oc (α:Type) where
 |ok (x:α)
 |pan (p:PV)
def ygp:(ts:List Ty)->qi ts
 |[]=>()
 |t::r=>(t.dflt,ygp r)
def Oc.bad {α:Type}:Oc α->Bool
 |.ok _=>false
 |.pan _=>true
def Oc.pv {α:Type}:Oc α->PV
 |.ok _=>⟨0,.i64,0⟩
 |.pan p=>p
def Oc.val {ts:List Ty}:Oc (qi ts)->qi ts
 |.ok x=>x
 |.pan _=>ygp ts
def zsh (P:Program) (rv:List ResultVar) (rs:List Ty) (s:St):Option (Fr (Oc (qi rs))):=
 match qdx P s rv with
 |some (vs,n)=>match qcj s.mem vs with
  |some (xs,_)=>match qe3 rs xs with
   |some y=>some (Fr.needL n (.val (.ok y)))
   |none=>none
  |none=>none
 |none=>none
def frP (P:Program) (rv:List ResultVar) (rs:List Ty):Tr->Option (Fr (Oc (qi rs)))
 |.leaf .ret s=>zsh P rv rs s
 |.leaf .normal s=>zsh P rv rs s
 |.leaf (.panic p) _=>some (.val (.pan p))
 |.leaf _ _=>none
 |.br b x y=>match frP P rv rs x,frP P rv rs y with
  |some x',some y'=>some (.br b x' y')
  |_,_=>none
 |.need p x=>match frP P rv rs x with
  |some x'=>some (.need p x')
  |none=>none
 |.two p x y=>match frP P rv rs x,frP P rv rs y with
  |some x',some y'=>some (.need (p->x'.ok/\x'.get=y'.get) y')
  |_,_=>none
def zuu (P:Program) (C:Cx) (Λ:Nat->St->Option Tr) (fn:Func) (ps:List PT) (rs:List Ty) (xs:qn ps):Option (Fr (Oc (qi rs))):=
 match fn.body with
 |some c=>if (fn.name == "runtime.NumGoroutine")=false/\ps.length<=fn.ntmps then match ja P C 0 Λ c 0 (qos fn.ntmps (qg2 ps xs)) with
   |some t=>frP P fn.results.toList rs t
   |none=>none
  else none
 |none=>none
section
variable {P:Program} {w w':World} {E:Env} {F F':Nat->Prop} {γ γ':Nat->Value}
theorem qnk {rv:List ResultVar} {rs:List Ty}:{t:Tr} -> {f:Fr (Oc (qi rs))}->frP P rv rs t=some f->f.ok->t.sat fun e s=>match e with
  |.panic p=>f.get = .pan p
  |.ret=>∃ vs n xs u y,qdx P s rv=some (vs,n)/\qr n/\qcj s.mem vs=some (xs,u)/\qe3 rs xs=some y/\f.get = .ok y
  |.normal=>∃ vs n xs u y,qdx P s rv=some (vs,n)/\qr n/\qcj s.mem vs=some (xs,u)/\qe3 rs xs=some y/\f.get = .ok y
  |_=>False
 |.leaf e s,f,h,hok=>by
  have key:zsh P rv rs s=some f->∃ vs n xs u y,qdx P s rv=some (vs,n)/\qr n/\qcj s.mem vs=some (xs,u)/\qe3 rs xs=some y/\f.get = .ok y:=fun h=>by
   unfold zsh at h;split at h<;>try trivial
   rename_i vs n hr;split at h<;>try trivial
   rename_i xs u hx;split at h<;>try trivial
   rename_i y hy;cases h;exact ⟨vs,n,xs,u,y,hr,(qof _ hok).1,hx,hy,qlz _⟩
  cases e with
  |exit i=>simp [frP] at h
  |panic p=>
   simp only [frP,ua0] at h;subst h;rfl
  |val v=>simp [frP] at h
  |jump v=>simp [frP] at h
  |normal=>exact key h
  |ret=>exact key h
 |.br b x y,f,h,hok=>by
  simp only [frP] at h;split at h<;>try trivial
  rename_i x' y' hx hy;cases h;refine ⟨fun hb=>?_,fun hb=>?_⟩
  ·have:=qnk hx (hok.1 hb);simpa only [Fr.get,hb,if_true] using this
  ·have:=qnk hy (hok.2 hb);simpa only [Fr.get,hb,ubt,ub3] using this
 |.need p x,f,h,hok=>by
  simp only [frP] at h;split at h<;>try trivial
  rename_i x' hx;cases h;have:=qnk hx hok.2;exact ⟨hok.1,this⟩
 |.two p x y,f,h,hok=>by
  simp only [frP] at h;split at h<;>try trivial
  rename_i x' y' hx hy;cases h;have h2:=qnk hy hok.2;refine ⟨fun hp=>?_,h2⟩;have:=qnk hx (hok.1 hp).1
  rwa [(hok.1 hp).2] at this
theorem qiv:{ps:List PT} -> {xs:qn ps} -> {vs:List Value}->wt P w F ps xs vs->vs.length=ps.length
 |[],_,_,h=>by cases h; rfl
 |_::_,_,_,⟨_,_,h1,_,h3⟩=>by subst h1; simp [qiv h3]
theorem zka {C:Cx} (hC:CxOK P C) {Λ:Nat->St->Option Tr} {f:FuncId} {fn:Func} {ps:List PT} {rs:List Ty} {fr:qn ps->Fr (Oc (qi rs))} (x0:qn ps)
  (hf:P.funcs[f]? = some fn) (hΛ:∀ c E,fn.body=some c->jw P E Λ c 0) (hrun:∀ xs,zuu P C Λ fn ps rs xs=some (fr xs)) :
  qdl P f ⟨ps,rs,fun xs=>(fr xs).get.val,fun xs=>(fr xs).get.bad,fun xs=>(fr xs).get.pv,fun xs=>[(fr xs).ok]⟩:=by
 have h0:=hrun x0;unfold zuu at h0;split at h0<;>try trivial
 rename_i c hb;split at h0<;>try trivial
 rename_i hc;refine ⟨enters hf hb hc.1,fun w F xs vs hbd hr hok=>calls_of_wp hf hb ?_⟩;have hr':=hrun xs;unfold zuu at hr';simp only [hb,hc,and_self,if_true] at hr';split at hr'<;>try (cases hr'; done)
 rename_i t ht;have hlen:vs.length=ps.length:=qiv hr;have hstart:=qi3 (D:=[]) (n:=fn.ntmps) hbd (fun R=>qex (R:=R) hr) (by omega);have hwp:=yx hC c 0 (hΛ c _ hb) ht (qnk hr' hok) hstart;have hsz:(vs.toArray).size=vs.length:=by simp
 rw [hsz];refine wp_mono hwp ?_;rintro e a' w' ⟨xe,s,rfl,⟨F',γ',hi⟩,hx⟩;obtain ⟨γ0,h0⟩:=hi.step;have hfin:(∃ vs n xs' u y,qdx P s fn.results.toList=some (vs,n)/\qr n/\qcj s.mem vs=some (xs',u)/\qe3 rs xs'=some y/\(fr xs).get = .ok y) ->
   a'.defers=[]/\∃ v,(results fn a'.tmps).run P w' = .ok v w'/\(((fr xs).get.bad=false/\qd1 w F rs (fr xs).get.val (.returned v) w')∨((fr xs).get.bad=true/\Ending.returned v = .panicked [{ v:=(fr xs).get.pv.val,recovered:=false }]/\Below w.heap.size w w')):=by
  rintro ⟨vs,n,xs',u,y,hres,hn,hrs,hdec,hget⟩;obtain ⟨us,hran,hreps⟩:=qiw hi hres hn;obtain ⟨F'',hs,hm',_,hxs⟩:=wv hi.mem (kj hi) (qa6.of fun _ _ h=>h) hrs hreps;have hst:=h0.trans hs;refine ⟨hi.df,_,qd3 hran,.inl ⟨by rw [hget]; rfl,_,F'',rfl,⟨hst.os,hst.tape,hst.output,hst.size,hst.old⟩,hst.hF,fun b hb=>⟨hst.new b hb,hst.bd b hb⟩,?_⟩⟩;rw [hget];exact qrq (qdv hdec hxs)
 cases xe with
 |normal=>exact hfin hx
 |ret=>exact hfin hx
 |panic p=>
  have hx':(fr xs).get = .pan p:=hx;refine ⟨hi.df,.inr ⟨?_,?_,⟨h0.os,h0.tape,h0.output,h0.size,h0.old⟩⟩⟩
  ·show (fr xs).get.bad=true;rw [hx'];rfl
  ·show Ending.panicked _=Ending.panicked [{ v:=(fr xs).get.pv.val,recovered:=false }];rw [hx'];rfl
 |exit _=>exact hx.elim
 |val _=>exact hx.elim
 |jump _=>exact hx.elim
theorem ygk {f:FuncId} {ct:Pc} (h:qdl P f ct) (g:qn ct.ps->qi ct.rs) (bad:qn ct.ps->Bool) (pv:qn ct.ps->PV) (ok:qn ct.ps->List Prop)
  (hg:∀ w F xs vs,wt P w F ct.ps xs vs->qr (ok xs)->qr (ct.ok xs)/\ct.bad xs=bad xs/\(bad xs=false->ct.f xs=g xs)/\(bad xs=true->ct.pv xs=pv xs)):qdl P f ⟨ct.ps,ct.rs,g,bad,pv,ok⟩:=by
 refine ⟨h.1,fun w F xs vs hb hr hok=>?_⟩;obtain ⟨h1,h2,h3,h4⟩:=hg w F xs vs hr hok;refine (h.2 w F xs vs hb hr h1).mono fun e w' he=>?_;rcases he with ⟨b,hp⟩|⟨b,rfl,hbel⟩
 ·have hb':bad xs=false:=h2 ▸ b;refine .inl ⟨hb',?_⟩;show qd1 w F ct.rs (g xs) e w';rw [← h3 hb'];exact hp
 ·have hb':bad xs=true:=h2 ▸ b;refine .inr ⟨hb',?_,hbel⟩;show Ending.panicked [{ v:=(ct.pv xs).val,recovered:=false }]=Ending.panicked [{ v:=(pv xs).val,recovered:=false }];rw [h4 hb']
end
end Go.Ab

namespace Go.Ab
open Go Go.RowKit
structure Pt where
 n:Nat
 id:Nat
 M:LS
 E:LS
 R:LS
def Pt.lp (p:Pt):Lp:=⟨p.n,p.id,p.M,p.E,p.R⟩
abbrev Pt.Out (p:Pt):Type:=Rd p.M.X p.E.X p.R.X
def qqu (P:Program) (E:Env) (p:Pt) (Q:p.Out->Prop) (e:Exit) (a:Act) (w:World):Prop:=
 ∃ r,Q r/\match r with
  |.next m=>e = .normal/\I P E (p.M.tpl p.n m) a w
  |.out y=>e = .exit p.id/\I P E (p.E.tpl p.n y) a w
  |.back z=>e = .ret/\I P E (p.R.tpl p.n z) a w
  |.pan v=>e = .panic [{ v:=v.val,recovered:=false }]/\∃ s,s.n=p.n/\I P E s a w
def qf (P:Program) (c:Code) (L:LS) (p:Pt) (f:L.X->Fr p.Out):Prop:=
 ∀ (E:Env) (a:Act) (w:World) (x:L.X) (Q:p.Out->Prop),I P E (L.tpl p.n x) a w->(f x).satP Q->c.wp P (qqu P E p Q) a w
def zme (P:Program) (C:Cx) (bs:Nat) (Λ:Nat->St->Option Tr) (c:Code) (L:LS) (p:Pt) (x:L.X):Option (Fr p.Out):=
 match ja P C bs Λ c 0 (L.tpl p.n x) with
 |some t=>p.lp.rdOf C.Γ t
 |none=>none
def Fr.bindR {X Y Z W:Type} (k:X->Fr (Rd W Y Z)):Fr (Rd X Y Z)->Fr (Rd W Y Z)
 |.val (.next m)=>k m
 |.val (.out y)=>.val (.out y)
 |.val (.back z)=>.val (.back z)
 |.val (.pan p)=>.val (.pan p)
 |.br b x y=>.br b (x.bindR k) (y.bindR k)
 |.need p x=>.need p (x.bindR k)
def Fr.outR {Y Z W:Type}:Fr (Rd Y Y Z)->Fr (Rd Y W Z)
 |.val (.next m)=>.val (.next m)
 |.val (.out y)=>.val (.next y)
 |.val (.back z)=>.val (.back z)
 |.val (.pan p)=>.val (.pan p)
 |.br b x y=>.br b x.outR y.outR
 |.need p x=>.need p x.outR
section
variable {P:Program} {E:Env}
theorem Fr.bindR_sat {X Y Z W:Type} {k:X->Fr (Rd W Y Z)} {Q:Rd W Y Z->Prop}:{f:Fr (Rd X Y Z)}->(f.bindR k).satP Q->f.satP fun
  |.next m=>(k m).satP Q
  |.out y=>Q (.out y)
  |.back z=>Q (.back z)
  |.pan p=>Q (.pan p)
 |.val (.next _),h=>h
 |.val (.out _),h=>h
 |.val (.back _),h=>h
 |.val (.pan _),h=>h
 |.br _b _x _y,h=>⟨fun hb=>bindR_sat (h.1 hb),fun hb=>bindR_sat (h.2 hb)⟩
 |.need _p _x,h=>⟨h.1,bindR_sat h.2⟩
theorem Fr.outR_sat {Y Z W:Type} {Q:Rd Y W Z->Prop}:{f:Fr (Rd Y Y Z)}->f.outR.satP Q->f.satP fun
  |.next m=>Q (.next m)
  |.out y=>Q (.next y)
  |.back z=>Q (.back z)
  |.pan p=>Q (.pan p)
 |.val (.next _),h=>h
 |.val (.out _),h=>h
 |.val (.back _),h=>h
 |.val (.pan _),h=>h
 |.br _b _x _y,h=>⟨fun hb=>outR_sat (h.1 hb),fun hb=>outR_sat (h.2 hb)⟩
 |.need _p _x,h=>⟨h.1,outR_sat h.2⟩
theorem Fr.satP_mono {α:Type} {Q Q':α->Prop} (h:∀ x,Q x->Q' x):{f:Fr α}->f.satP Q->f.satP Q'
 |.val _,hq=>h _ hq
 |.br _ _ _,hq=>⟨fun hb=>satP_mono h (hq.1 hb),fun hb=>satP_mono h (hq.2 hb)⟩
 |.need _ _,hq=>⟨hq.1,satP_mono h hq.2⟩
theorem qf.of_run {C:Cx} (hC:CxOK P C) {bs:Nat} {Λ:Nat->St->Option Tr} {c:Code} {L:LS} {p:Pt} (hM:p.M.low=true) (hE:p.E.low=true) (hR:p.R.low=true) (hΛ:∀ E,jw P E Λ c 0) {f:L.X->Fr p.Out}
  (hr:∀ x,zme P C bs Λ c L p x=some (f x)):qf P c L p f:=by
 intro E a w x Q hi hq;have hrx:=hr x;unfold zme at hrx;split at hrx<;>try trivial
 rename_i t ht;have hsat:=p.lp.rd_sat hrx hq;refine wp_mono (yx hC c 0 (hΛ E) ht hsat hi) ?_;rintro e a' w' ⟨xe,s',rfl,his,hqs⟩;cases xe with
 |normal=>
  obtain ⟨hn',y,n',hy,hn,hqy⟩:=hqs;have:=qaz hC.ct hM his hy hn;rw [hn'] at this;exact ⟨.next y,hqy,rfl,this⟩
 |exit i=>
  obtain ⟨rfl,hn',y,n',hy,hn,hqy⟩:=hqs;have:=qaz hC.ct hE his hy hn;rw [hn'] at this;exact ⟨.out y,hqy,rfl,this⟩
 |ret=>
  obtain ⟨hn',y,n',hy,hn,hqy⟩:=hqs;have:=qaz hC.ct hR his hy hn;rw [hn'] at this;exact ⟨.back y,hqy,rfl,this⟩
 |panic v=>exact ⟨.pan v,hqs.2,rfl,s',hqs.1,his⟩
 |val _=>exact hqs.elim
 |jump _=>exact hqs.elim
theorem qf.conv {c:Code} {L:LS} {p:Pt} {f g:L.X->Fr p.Out} (h:qf P c L p f) (hg:∀ x Q,(g x).satP Q->(f x).satP Q):qf P c L p g:=
 fun E a w x Q hi hq=>h E a w x Q hi (hg x Q hq)
theorem qf.seq {a b:Code} {L M N Eo R:LS} {n id:Nat} {f:L.X->Fr (Rd M.X Eo.X R.X)} {g:M.X->Fr (Rd N.X Eo.X R.X)} (hf:qf P a L ⟨n,id,M,Eo,R⟩ f) (hg:qf P b M ⟨n,id,N,Eo,R⟩ g) :
  qf P (.seq a b) L ⟨n,id,N,Eo,R⟩ fun x=>(f x).bindR g:=by
 intro E ac w x Q hi hq;refine wp_seq (wp_mono (hf E ac w x _ hi (Fr.bindR_sat hq)) ?_);rintro e a' w' ⟨r,hr,hm⟩;cases r with
 |next m=>
  obtain ⟨rfl,hi'⟩:=hm;exact hg E a' w' m Q hi' hr
 |out y=>
  obtain ⟨rfl,hi'⟩:=hm;exact ⟨.out y,hr,rfl,hi'⟩
 |back z=>
  obtain ⟨rfl,hi'⟩:=hm;exact ⟨.back z,hr,rfl,hi'⟩
 |pan v=>
  obtain ⟨rfl,hi'⟩:=hm;exact ⟨.pan v,hr,rfl,hi'⟩
theorem qf.block {c:Code} {L M Eo R:LS} {n id id':Nat} {f:L.X->Fr (Rd M.X M.X R.X)} (h:qf P c L ⟨n,id,M,M,R⟩ f):qf P (.block id c) L ⟨n,id',M,Eo,R⟩ fun x=>(f x).outR:=by
 intro E ac w x Q hi hq;refine wp_block (wp_mono (h E ac w x _ hi (Fr.outR_sat hq)) ?_);rintro e a' w' ⟨r,hr,hm⟩;cases r with
 |next m=>
  obtain ⟨rfl,hi'⟩:=hm;exact ⟨.next m,hr,rfl,hi'⟩
 |out y=>
  obtain ⟨rfl,hi'⟩:=hm;show Exit.inBlock id _ (.exit id) a' w';unfold Exit.inBlock;simp only [if_true];exact ⟨.next y,hr,rfl,hi'⟩
 |back z=>
  obtain ⟨rfl,hi'⟩:=hm;exact ⟨.back z,hr,rfl,hi'⟩
 |pan v=>
  obtain ⟨rfl,hi'⟩:=hm;exact ⟨.pan v,hr,rfl,hi'⟩
theorem qf.loop {c:Code} {L N Eo R:LS} {n id:Nat} {f:L.X->Fr (Rd L.X Eo.X R.X)} (h:qf P c L ⟨n,id,L,Eo,R⟩ f) {F:L.X->Fr (Rd N.X Eo.X R.X)} {inv:L.X->Prop} {μ:L.X->Nat}
  (hlaw:∀ x,inv x->∀ Q:Rd N.X Eo.X R.X->Prop,(F x).satP Q->(f x).satP fun
   |.next x'=>inv x'/\μ x'<μ x/\(F x').satP Q
   |.out y=>Q (.out y)
   |.back z=>Q (.back z)
   |.pan p=>Q (.pan p)) (hinv:∀ x Q,(F x).satP Q->inv x):qf P (.loop c) L ⟨n,id,N,Eo,R⟩ F:=by
 intro E a w x Q hi hq;refine zvh (fun m a w=>∃ x,inv x/\μ x=m/\I P E (L.tpl n x) a w/\(F x).satP Q) ⟨μ x,x,hinv x Q hq,rfl,hi,hq⟩ ?_;rintro m a w ⟨x,hx,rfl,hix,hFx⟩;refine wp_mono (h E a w x _ hix (hlaw x hx Q hFx)) ?_;rintro e a' w' ⟨r,hr,hm⟩;cases r with
 |next x'=>
  obtain ⟨rfl,hi'⟩:=hm;exact ⟨μ x',hr.2.1,x',hr.1,rfl,hi',hr.2.2⟩
 |out y=>
  obtain ⟨rfl,hi'⟩:=hm;exact ⟨.out y,hr,rfl,hi'⟩
 |back z=>
  obtain ⟨rfl,hi'⟩:=hm;exact ⟨.back z,hr,rfl,hi'⟩
 |pan v=>
  obtain ⟨rfl,hi'⟩:=hm;exact ⟨.pan v,hr,rfl,hi'⟩
def Pt.toTr (p:Pt):Fr p.Out->Tr
 |.val (.next m)=>.leaf .normal (p.M.tpl p.n m)
 |.val (.out y)=>.leaf (.exit p.id) (p.E.tpl p.n y)
 |.val (.back z)=>.leaf .ret (p.R.tpl p.n z)
 |.val (.pan v)=>.leaf (.panic v) ⟨p.n,fun _=>.dead,fun _=>none,fun _=>.dead⟩
 |.br b x y=>.br b (p.toTr x) (p.toTr y)
 |.need q x=>.need q (p.toTr x)
def Pt.han (Γ:Gm) (L:LS) (p:Pt) (F:L.X->Fr p.Out) (s:St):Option Tr:=
 if s.n=p.n then match L.ext Γ s with
  |some (x,n)=>some (needL n (p.toTr (F x)))
  |none=>none
 else none
theorem Pt.toTr_sat (p:Pt) {Q:XE->St->Prop}:{f:Fr p.Out}->(p.toTr f).sat Q->f.satP fun
  |.next m=>Q .normal (p.M.tpl p.n m)
  |.out y=>Q (.exit p.id) (p.E.tpl p.n y)
  |.back z=>Q .ret (p.R.tpl p.n z)
  |.pan v=>Q (.panic v) ⟨p.n,fun _=>.dead,fun _=>none,fun _=>.dead⟩
 |.val (.next _),h=>h
 |.val (.out _),h=>h
 |.val (.back _),h=>h
 |.val (.pan _),h=>h
 |.br _b _x _y,h=>⟨fun hb=>p.toTr_sat (h.1 hb),fun hb=>p.toTr_sat (h.2 hb)⟩
 |.need _q _x,h=>⟨h.1,p.toTr_sat h.2⟩
theorem qf.han {C:Cx} (hC:CxOK P C) {c:Code} {L:LS} {p:Pt} {F:L.X->Fr p.Out} (hL:L.low=true) (h:qf P (.loop c) L p F):qfb P E c (p.han C.Γ L F):=by
 intro s t hs Q hq a w hi;unfold Pt.han at hs;split at hs<;>try trivial
 rename_i hsn;split at hs<;>try trivial
 rename_i x n hx;cases hs;obtain ⟨hq1,hq2⟩:=qa0 _ hq;have hi':=qaz hC.ct hL hi hx hq1;rw [hsn] at hi';refine wp_mono (h E a w x _ hi' (p.toTr_sat hq2)) ?_;rintro e a' w' ⟨r,hr,hm⟩;cases r with
 |next m=>
  obtain ⟨rfl,hi'⟩:=hm;exact ⟨.normal,_,rfl,hi',hr⟩
 |out y=>
  obtain ⟨rfl,hi'⟩:=hm;exact ⟨.exit p.id,_,rfl,hi',hr⟩
 |back z=>
  obtain ⟨rfl,hi'⟩:=hm;exact ⟨.ret,_,rfl,hi',hr⟩
 |pan v=>
  obtain ⟨rfl,s',hn',hi'⟩:=hm;have hdead:I P E ⟨p.n,fun _=>.dead,fun _=>none,fun _=>.dead⟩ a' w':=by
   have:=qaz hC.ct (L:=⟨[],[]⟩) rfl hi' (x:=((),())) (n:=[]) rfl trivial;rw [hn'] at this;obtain ⟨F',γ',h⟩:=this;exact ⟨F',γ',h.n,h.df,h.step,h.mem,fun t=>trivial,fun t g want v ht=>(nomatch ht),fun t=>trivial⟩
  exact ⟨.panic v,_,rfl,hdead,hr⟩
end
end Go.Ab

namespace Go.Ab
open Go Go.RowKit
def qam {α:Type}:List (FuncId×α)->FuncId->Option α
 |[],_=>none
 |(g,c)::r,f=>if f=g then some c else qam r f
def qms (P:Program):List (FuncId×Ct)->Prop
 |[]=>True
 |(f,c)::r=>qa P f c/\qms P r
def qrx (P:Program):List (FuncId×Pc)->Prop
 |[]=>True
 |(f,c)::r=>qdl P f c/\qrx P r
theorem qms.get {P:Program}:{l:List (FuncId×Ct)}->qms P l->∀ f c,qam l f=some c->qa P f c
 |[],_,f,c,h=>by simp [qam] at h
 |(g,c0)::r,ha,f,c,h=>by
  unfold qam at h;split at h
  ·rename_i hfg;injection h with h
   subst h hfg;exact ha.1
  ·exact qms.get ha.2 f c h
theorem qrx.get {P:Program}:{l:List (FuncId×Pc)}->qrx P l->∀ f c,qam l f=some c->qdl P f c
 |[],_,f,c,h=>by simp [qam] at h
 |(g,c0)::r,ha,f,c,h=>by
  unfold qam at h;split at h
  ·rename_i hfg;injection h with h
   subst h hfg;exact ha.1
  ·exact qrx.get ha.2 f c h
def cx (cs:List (FuncId×Ct)) (ps:List (FuncId×Pc)):Cx:=⟨qam cs,qam ps,fun _ _ _ _=>none⟩
def cxK (cs:List (FuncId×Ct)) (ps:List (FuncId×Pc)) (K:Nat->FuncId->List AV->St->Option Tr):Cx:=⟨qam cs,qam ps,K⟩
theorem zc {P:Program} (hm:P.follows .mixedOrders=true) {cs:List (FuncId×Ct)} {ps:List (FuncId×Pc)} (h:qms P cs) (k:qrx P ps):CxOK P (cx cs ps):=
 ⟨hm,⟨h.get,fun _ _ h=>(nomatch h)⟩,k.get,fun _ _ _ _ _ h=>(nomatch h)⟩
theorem qc4 {P:Program} (hm:P.follows .mixedOrders=true) {cs:List (FuncId×Ct)} {ps:List (FuncId×Pc)} {K:Nat->FuncId->List AV->St->Option Tr} (h:qms P cs) (k:qrx P ps) (hK:qhy P K):CxOK P (cxK cs ps K):=
 ⟨hm,⟨h.get,fun _ _ h=>(nomatch h)⟩,k.get,hK⟩
def qt3 (P:Program):List (FuncId×Row)->Prop
 |[]=>True
 |(f,r)::l=>zgr P f r/\qt3 P l
theorem qt3.get {P:Program}:{l:List (FuncId×Row)}->qt3 P l->∀ f c,qam l f=some c->zgr P f c
 |[],_,f,c,h=>by simp [qam] at h
 |(g,c0)::r,ha,f,c,h=>by
  simp only [qam] at h;split at h
  ·rename_i hf;subst hf;cases h;exact ha.1
  ·exact qt3.get ha.2 f c h
def cxR (cs:List (FuncId×Ct)) (ps:List (FuncId×Pc)) (rs:List (FuncId×Row)) (K:Nat->FuncId->List AV->St->Option Tr):Cx:=⟨⟨qam cs,qam rs⟩,qam ps,K⟩
theorem qul {P:Program} (hm:P.follows .mixedOrders=true) {cs:List (FuncId×Ct)} {ps:List (FuncId×Pc)} {rs:List (FuncId×Row)} {K:Nat->FuncId->List AV->St->Option Tr} (h:qms P cs) (k:qrx P ps) (l:qt3 P rs) (hK:qhy P K):CxOK P (cxR cs ps rs K):=
 ⟨hm,⟨h.get,l.get⟩,k.get,hK⟩
def qq:Nat->St->Option Tr:=fun _ _=>none
theorem qe {P:Program} {E:Env}:(c:Code)->(k:Nat)->jw P E qq c k
 |.seq a b,k=>⟨qe a k,qe b _⟩
 |.cond _ a b,k=>⟨qe a k,qe b _⟩
 |.block _ c,k=>qe c k
 |.scope c,k=>qe c k
 |.loop _,_=>fun _ _ h=>nomatch h
 |.skip,_=>trivial
 |.ret,_=>trivial
 |.exit _,_=>trivial
 |.region _ _ _,_=>trivial
 |.label _,_=>trivial
 |.goto _,_=>trivial
 |.rangeFunc _ _ _ _,_=>trivial
 |.refuse _,_=>trivial
def loopB:Code->Nat->Option Code
 |.loop c,0=>some c
 |.seq a b,k=>if k<zq a then loopB a k else loopB b (k-zq a)
 |.cond _ a b,k=>if k<zq a then loopB a k else loopB b (k-zq a)
 |.block _ c,k=>loopB c k
 |.scope c,k=>loopB c k
 |_,_=>none
def qo (f:Func) (k:Nat):Code:=(f.body.bind (loopB · k)).getD .skip
theorem loopB_lt:{c:Code} -> {k:Nat} -> {b:Code}->loopB c k=some b->k<zq c
 |.loop _,0,_,_=>ug6
 |.loop _,_+1,_,h=>by simp [loopB] at h
 |.seq x y,k,b,h=>by
  simp only [loopB] at h;simp only [zq];split at h
  ·omega
  ·have:=loopB_lt h;omega
 |.cond _ x y,k,b,h=>by
  simp only [loopB] at h;simp only [zq];split at h
  ·omega
  ·have:=loopB_lt h;omega
 |.block _ c,k,b,h=>loopB_lt (c:=c) h
 |.scope c,k,b,h=>loopB_lt (c:=c) h
 |.skip,_,_,h=>by simp [loopB] at h
 |.region _ _ _,_,_,h=>by simp [loopB] at h
 |.ret,_,_,h=>by simp [loopB] at h
 |.exit _,_,_,h=>by simp [loopB] at h
 |.label _,_,_,h=>by simp [loopB] at h
 |.goto _,_,_,h=>by simp [loopB] at h
 |.rangeFunc _ _ _ _,_,_,h=>by simp [loopB] at h
 |.refuse _,_,_,h=>by simp [loopB] at h
theorem lamAll {P:Program} {E:Env} {Λ:Nat->St->Option Tr}:(c:Code)->(k:Nat)->(∀ i b,loopB c i=some b->qfb P E b (Λ (k+i)))->jw P E Λ c k
 |.loop b,k,h=>h 0 b rfl
 |.seq x y,k,h=>⟨lamAll x k fun i b hb=>h i b (by simp only [loopB]; rw [if_pos (loopB_lt hb)]; exact hb),lamAll y _ fun i b hb=>by
   have:=h (zq x+i) b (by simp only [loopB]; rw [if_neg (by omega),udn]; exact hb)
   rwa [← uc4] at this⟩
 |.cond _ x y,k,h=>⟨lamAll x k fun i b hb=>h i b (by simp only [loopB]; rw [if_pos (loopB_lt hb)]; exact hb),lamAll y _ fun i b hb=>by
   have:=h (zq x+i) b (by simp only [loopB]; rw [if_neg (by omega),udn]; exact hb)
   rwa [← uc4] at this⟩
 |.block _ c,k,h=>lamAll c k h
 |.scope c,k,h=>lamAll c k h
 |.skip,_,_=>trivial
 |.ret,_,_=>trivial
 |.exit _,_,_=>trivial
 |.region _ _ _,_,_=>trivial
 |.label _,_,_=>trivial
 |.goto _,_,_=>trivial
 |.rangeFunc _ _ _ _,_,_=>trivial
 |.refuse _,_,_=>trivial
theorem ydd {P:Program} {E:Env} {Λ:Nat->St->Option Tr} {c b:Code} (hn:zq c=1) (hb:loopB c 0=some b) (h:qfb P E b (Λ 0)):jw P E Λ c 0:=by
 refine lamAll c 0 fun i b' hb'=>?_;have h1:=loopB_lt hb';have hi:i=0:=by omega
 subst hi;rw [hb] at hb';cases hb';exact h
theorem jb {P:Program} {E:Env} {Λ:Nat->St->Option Tr} {fn:Func} {c b:Code} (hc:fn.body=some c) (hn:(fn.body.map zq)=some 1) (hb:fn.body.bind (loopB · 0)=some b) (h:qfb P E b (Λ 0)):jw P E Λ c 0:=by
 rw [hc] at hn hb;exact ydd (by simpa using hn) (by simpa using hb) h
theorem zhf {P:Program} {E:Env} {Λ:Nat->St->Option Tr} {fn:Func} {c b0 b1:Code} (hc:fn.body=some c) (hn:(fn.body.map zq)=some 2) (hb0:fn.body.bind (loopB · 0)=some b0) (hb1:fn.body.bind (loopB · 1)=some b1)
  (h0:qfb P E b0 (Λ 0)) (h1:qfb P E b1 (Λ 1)):jw P E Λ c 0:=by
 rw [hc] at hn hb0 hb1;simp only [udj,ua0] at hn;simp only [uee] at hb0 hb1;refine lamAll c 0 fun i b' hb'=>?_;have hlt:=loopB_lt hb';have hi:i=0∨i=1:=by omega
 rcases hi with rfl|rfl
 ·rw [hb0] at hb';cases hb';exact h0
 ·rw [hb1] at hb';cases hb';exact h1
theorem flat {P:Program} {C:Cx} (hC:CxOK P C) {f:FuncId} {fn:Func} {ps:List PT} {rs:List Ty} {fr:qn ps->Fr (qi rs)} (x0:qn ps) (hf:P.funcs[f]? = some fn)
  (hrun:∀ xs,qxc P C qq fn ps rs xs=some (fr xs)) (g:qn ps->qi rs) (ok:qn ps->List Prop)
  (hg:∀ w F xs vs,wt P w F ps xs vs->qr (ok xs)->(fr xs).ok/\(fr xs).get=g xs):qa P f ⟨ps,rs,g,ok⟩:=
 conv (qg hC x0 hf (fun c _E _=>qe c 0) hrun) g ok hg
def ycx (P:Program) (Γ:Gm) (f:FuncId) (fn:Func) (L:LS) (p:Pt) (F:L.X->Fr p.Out) (_d:Nat) (g:FuncId) (args:List AV) (s:St):Option Tr:=
 if g=f/\args.length<=fn.ntmps/\p.n=fn.ntmps then
  match L.ext Γ ⟨fn.ntmps,fun i=>args.getD i .dead,s.mem,s.at⟩ with
  |some (x,n)=>match qgb P fn.results.toList s.n (p.toTr (F x)) with
   |some t=>some (needL n t)
   |none=>none
  |none=>none
 else none
theorem yjc {P:Program} {C:Cx} (hC:CxOK P C) {f:FuncId} {fn:Func} {c:Code} (hf:P.funcs[f]? = some fn) (hb:fn.body=some c) (hn:(fn.name == "runtime.NumGoroutine")=false) {L:LS} (hL:L.low=true) {p:Pt} {F:L.X->Fr p.Out} (h:qf P c L p F) :
  qhy P (ycx P C.Γ f fn L p F):=by
 intro d g args s t ht;unfold ycx at ht;split at ht<;>try trivial
 rename_i hcond;obtain ⟨rfl,hlen0,hpn⟩:=hcond;split at ht<;>try trivial
 rename_i x n hx;split at ht<;>try trivial
 rename_i t1 ht1;cases ht;refine ⟨enters hf hb hn,fun E a w F0 γ vs Q hi hr hq=>calls_of_wp hf hb ?_⟩;have hlen:vs.length=args.length:=hr.length;have hstart:=zzn (n:=fn.ntmps) hi hr (by omega);obtain ⟨hq1,hq2⟩:=qa0 _ hq;have hi':=qaz hC.ct hL hstart hx hq1;have hsat:=qie ht1 hq2;have hsz:(vs.toArray).size=vs.length:=by simp
 rw [hsz];have hi2:I P ⟨E.w0,E.F0,tmA a E,[],E.B,E.hB⟩ (L.tpl p.n x) { tmps:=vs.toArray++Array.replicate (fn.ntmps-vs.length) undef,defers:=[] } w:=by
  rw [hpn];exact hi'
 refine wp_mono (h _ _ w x _ hi2 (p.toTr_sat hsat)) ?_;rintro e a' w' ⟨r,hr',hm⟩;have hfin:∀ s':St,I P ⟨E.w0,E.F0,tmA a E,[],E.B,E.hB⟩ s' a' w'->(∃ vs ns,qdx P s' fn.results.toList=some (vs,ns)/\qr ns/\Q (.val (qzk vs)) (s'.back s.n))->a'.defers=[]/\∃ v,(results fn a'.tmps).run P w' = .ok v w'/\yak P E a Q (.returned v) w':=by
  rintro s' ⟨F',γ',hi'⟩ ⟨vs,ns,hres,hns,hqv⟩;obtain ⟨us,hran,hreps⟩:=qiw hi' hres hns;exact ⟨hi'.df,_,qd3 hran,_,_,F',γ',hqv,qsu hi hi',_,rfl,zma hreps⟩
 cases r with
 |next m=>
  obtain ⟨rfl,hi3⟩:=hm;exact hfin _ hi3 hr'
 |out y=>exact hr'.elim
 |back z=>
  obtain ⟨rfl,hi3⟩:=hm;exact hfin _ hi3 hr'
 |pan v=>
  obtain ⟨rfl,s',hn',hi3⟩:=hm;have hdead:I P ⟨E.w0,E.F0,tmA a E,[],E.B,E.hB⟩ ⟨p.n,fun _=>.dead,fun _=>none,fun _=>.dead⟩ a' w':=by
   have:=qaz hC.ct (L:=⟨[],[]⟩) rfl hi3 (x:=((),())) (n:=[]) rfl trivial;rw [hn'] at this;obtain ⟨F',γ',h⟩:=this;exact ⟨F',γ',h.n,h.df,h.step,h.mem,fun t=>trivial,fun t g want v ht=>(nomatch ht),fun t=>trivial⟩
  obtain ⟨F',γ',h4⟩:=hdead;exact ⟨h4.df,.panic v,_,F',γ',hr',qsu hi h4,rfl⟩
def orK (K K':Nat->FuncId->List AV->St->Option Tr) (d:Nat) (f:FuncId) (args:List AV) (s:St):Option Tr:=
 match K d f args s with
 |some t=>some t
 |none=>K' d f args s
theorem zlr {P:Program} {K K':Nat->FuncId->List AV->St->Option Tr} (h:qhy P K) (h':qhy P K'):qhy P (orK K K'):=by
 intro d f args s t ht;unfold orK at ht;split at ht
 ·rename_i t' hk;cases ht;exact h d f args s _ hk
 ·exact h' d f args s t ht
end Go.Ab

namespace Go.Ab
open Go Go.RowKit
structure TolOK (P:Program) (g:FuncId) (T:TypeId) (k:IntKind):Prop where
 enter:∀ args w,(callFunc g args).run P w = .ok (.enter g args) w
 idle:∀ (p:Addr) (w:World),CallsD P g #[.pointer (some p)] .returning w fun e u' w'=>(∃ v,e = .returned v)/\u' = .returning/\w'=w
 told:∀ (b:Nat) (ty:TypeId) (old:Value) (n:Int) (w:World),w.heap[b]? = some (.cells #[old] ty (0,0)) ->
  CallsD P g #[.pointer (some ⟨b,0,none⟩)] (.panicking [{ v:=.iface T (.int k n),recovered:=false }]) w fun e u' w'=>
   (∃ v,e = .returned v)/\u' = .panicking [{ v:=.iface T (.int k n),recovered:=true }]/\w'=w.setRow b #[.int k n]
def zhq (T:TypeId) (k:IntKind) (p:PV) (s:St):Option St:=
 match s.gs 0 with
 |.c (.ptr id 0)=>match s.mem id with
  |some (.box e [_])=>if p.ty=T/\p.k=k/\T<1000000 then some ⟨s.n,s.sl,upd s.mem id (.box e [.int k p.n]),s.gs⟩ else none
  |_=>none
 |_=>none
def frD (P:Program) (T:TypeId) (k:IntKind) (rv:List ResultVar) (rs:List Ty):Tr->Option (Fr (qi rs))
 |.leaf .ret s=>qa7 P rv rs s
 |.leaf .normal s=>qa7 P rv rs s
 |.leaf (.panic p) s=>match zhq T k p s with
  |some s'=>match qa7 P rv rs s' with
   |some f=>some (.need (inR k p.n) f)
   |none=>none
  |none=>none
 |.leaf _ _=>none
 |.br b x y=>match frD P T k rv rs x,frD P T k rv rs y with
  |some x',some y'=>some (.br b x' y')
  |_,_=>none
 |.need p x=>match frD P T k rv rs x with
  |some x'=>some (.need p x')
  |none=>none
 |.two p x y=>match frD P T k rv rs x,frD P T k rv rs y with
  |some x',some y'=>some (.need (p->x'.ok/\x'.get=y'.get) y')
  |_,_=>none
def zur (P:Program) (C:Cx) (Λ:Nat->St->Option Tr) (g:FuncId) (T:TypeId) (k:IntKind) (fn:Func) (ps:List PT) (rs:List Ty) (xs:qn ps):Option (Fr (qi rs)):=
 match fn.body with
 |some (.seq A (.seq (.region _ ops false) c))=>if (fn.name == "runtime.NumGoroutine")=false/\ps.length<=fn.ntmps then
   match ops.toList with
   |[⟨none,.defer ⟨.value (.func f),args,_⟩,_,_,_,none⟩]=>match args.toList with
    |[.tmp tp]=>if f=g then
      match ja P C 0 Λ A 0 (qos fn.ntmps (qg2 ps xs)) with
      |some (.leaf .normal s1)=>match s1.sl tp with
       |.c (.ptr id 0)=>match ja P C 0 Λ c (zq A) ⟨s1.n,s1.sl,s1.mem,fun t=>if t=0 then .c (.ptr id 0) else .dead⟩ with
        |some t=>frD P T k fn.results.toList rs t
        |none=>none
       |_=>none
      |_=>none
     else none
    |_=>none
   |_=>none
  else none
 |_=>none
section
variable {P:Program} {w w':World} {E:Env} {F F':Nat->Prop} {γ γ':Nat->Value}
theorem qkb {rv:List ResultVar} {rs:List Ty} {s:St} {f:Fr (qi rs)} (h:qa7 P rv rs s=some f) (hok:f.ok):∃ n,qa7 P rv rs s=some (Fr.needL n (.val f.get))/\qr n:=by
 have h0:=h;unfold qa7 at h;split at h<;>try trivial
 split at h<;>try trivial
 split at h<;>try trivial
 rename_i y _;cases h;refine ⟨_,?_,(qof _ hok).1⟩;rw [qlz];exact h0
theorem qke {T:TypeId} {k:IntKind} {rv:List ResultVar} {rs:List Ty}:{t:Tr} -> {f:Fr (qi rs)}->frD P T k rv rs t=some f->f.ok->t.sat fun e s=>match e with
  |.ret=>∃ n,qa7 P rv rs s=some (Fr.needL n (.val f.get))/\qr n
  |.normal=>∃ n,qa7 P rv rs s=some (Fr.needL n (.val f.get))/\qr n
  |.panic p=>∃ s' n,zhq T k p s=some s'/\inR k p.n/\qa7 P rv rs s'=some (Fr.needL n (.val f.get))/\qr n
  |_=>False
 |.leaf e s,f,h,hok=>by
  cases e with
  |exit i=>simp [frD] at h
  |val i=>simp [frD] at h
  |jump i=>simp [frD] at h
  |normal=>exact qkb h hok
  |ret=>exact qkb h hok
  |panic p=>
   simp only [frD] at h;split at h<;>try trivial
   rename_i s' hs';split at h<;>try trivial
   rename_i f' hf';cases h;obtain ⟨n,h1,h2⟩:=qkb hf' hok.2;exact ⟨s',n,hs',hok.1,h1,h2⟩
 |.br b x y,f,h,hok=>by
  simp only [frD] at h;split at h<;>try trivial
  rename_i x' y' hx hy;cases h;refine ⟨fun hb=>?_,fun hb=>?_⟩
  ·have:=qke hx (hok.1 hb);simpa only [Fr.get,hb,if_true] using this
  ·have:=qke hy (hok.2 hb);simpa only [Fr.get,hb,ubt,ub3] using this
 |.need p x,f,h,hok=>by
  simp only [frD] at h;split at h<;>try trivial
  rename_i x' hx;cases h;have:=qke hx hok.2;exact ⟨hok.1,this⟩
 |.two p x y,f,h,hok=>by
  simp only [frD] at h;split at h<;>try trivial
  rename_i x' y' hx hy;cases h;have h2:=qke hy hok.2;refine ⟨fun hp=>?_,h2⟩;have:=qke hx (hok.1 hp).1
  rwa [(hok.1 hp).2] at this
theorem qin {fn:Func} {rs:List Ty} {s:St} {a:Act} {y:qi rs} {n:List Prop} (hi:InvG P E s a w [] F γ) (hEB:E.B=E.w0.heap.size) (h:qa7 P fn.results.toList rs s=some (Fr.needL n (.val y))) (hn:qr n) :
  ∃ v,(results fn a.tmps).run P w = .ok v w/\qd1 E.w0 E.F0 rs y (.returned v) w:=by
 unfold qa7 at h;split at h<;>try trivial
 rename_i avs n' hres;split at h<;>try trivial
 rename_i axs u hrs;split at h<;>try trivial
 rename_i y' hdec;injection h with h
 obtain ⟨hn',hy⟩:=ql0 h hn;subst hy;obtain ⟨us,hran,hreps⟩:=qiw hi hres hn';obtain ⟨F'',hs,hm',_,hxs⟩:=wv hi.mem (kj hi) (qa6.of fun _ _ h=>h) hrs hreps;obtain ⟨γ0,h0⟩:=hi.step;rw [hEB] at hs h0;have hst:=h0.trans hs;exact ⟨_,qd3 hran,_,F'',rfl,⟨hst.os,hst.tape,hst.output,hst.size,hst.old⟩,hst.hF,fun b hb=>⟨hst.new b hb,hst.bd b hb⟩,qrq (qdv hdec hxs)⟩
theorem qqp {arr:Array Value} (h:arr.size=1):∃ v,arr = #[v]:=by
 refine ⟨arr[0]'(by omega),?_⟩;apply ud8
 ·simp [h]
 ·intro i h1 h2;have:i=0:=by omega
  subst this;rfl
theorem zmx {T:TypeId} {k:IntKind} {p:PV} {s s':St} {a:Act} (hi:InvG P E s a w [] F γ) (h:zhq T k p s=some s') (hr:inR k p.n) :
  p.ty=T/\p.k=k/\T<1000000/\∃ b ty old,E.G 0 = .pointer (some ⟨b,0,none⟩)/\w.heap[b]? = some (.cells #[old] ty (0,0))/\InvG P E s' a (w.setRow b #[.int k p.n]) [] F γ:=by
 unfold zhq at h;split at h<;>try trivial
 rename_i id hgs;split at h<;>try trivial
 rename_i e c0 hM;split at h<;>try trivial
 rename_i hp;cases h;have hg:=hi.gh 0;rw [hgs] at hg;obtain ⟨b,arr,e1,e2,e3,e4,e5,e6,e7⟩:=qi8 hi.mem hM hg.2;obtain ⟨old,rfl⟩:=qqp (by simpa using e6);have hov:ym #[old] 0 [.int k p.n] = #[.int k p.n]:=by simp [ym]
 obtain ⟨s1,s2⟩:=qix (off:=0) (cs':=[.int k p.n]) (vs:=[.int k p.n]) hi.mem (kj hi) hM e1 e3 e4 e5 (by simp) rfl ⟨⟨.int k p.n,by rw [hov]; rfl,rfl,rfl,hr⟩,trivial⟩;rw [hov] at s1 s2;refine ⟨hp.1,hp.2.1,hp.2.2,b,e,old,e2,e3,⟨hi.n,hi.df,?_,s2,fun t=>(hi.sl t).mono s1.hF s1.hw s1.hR,hi.hg,fun t=>s1.repA (hi.gh t)⟩⟩;obtain ⟨γ0,h0⟩:=hi.step;exact ⟨γ0,h0.trans s1⟩
theorem ybt {C:Cx} (hC:CxOK P C) {Λ:Nat->St->Option Tr} {f g:FuncId} {T:TypeId} {k:IntKind} {fn:Func} {ps:List PT} {rs:List Ty} {fr:qn ps->Fr (qi rs)} (x0:qn ps)
  (hf:P.funcs[f]? = some fn) (hT:TolOK P g T k) (hΛ:∀ c E,fn.body=some c->jw P E Λ c 0) (hrun:∀ xs,zur P C Λ g T k fn ps rs xs=some (fr xs)):qa P f ⟨ps,rs,fun xs=>(fr xs).get,fun xs=>[(fr xs).ok]⟩:=by
 have h0:=hrun x0;unfold zur at h0;split at h0<;>try trivial
 rename_i A rid ops c hb;split at h0<;>try trivial
 rename_i hc;refine ⟨enters hf hb hc.1,fun w F xs vs hbd hr hok=>calls_of_wp_defers hf hb ?_⟩;have hr':=hrun xs;unfold zur at hr';simp only [hb,hc,and_self,if_true] at hr';split at hr'<;>try (cases hr'; done)
 rename_i f0 args ats ty pos aft hops;split at hr'<;>try (cases hr'; done)
 rename_i tp hargs;split at hr'<;>try (cases hr'; done)
 rename_i hfg;subst hfg;split at hr'<;>try (cases hr'; done)
 rename_i s1 ht1;split at hr'<;>try (cases hr'; done)
 rename_i id hsl;split at hr'<;>try (cases hr'; done)
 rename_i t ht2;have hlam:=fun E=>hΛ _ E hb;have hlen:vs.length=ps.length:=qiv hr;have hstart:=qi3 (D:=[]) (n:=fn.ntmps) hbd (fun R=>qex (R:=R) hr) (by omega);have hsz:(vs.toArray).size=vs.length:=by simp
 rw [hsz];refine wp_seq (wp_mono (yx hC A 0 (hlam _).1 ht1 (Q:=fun e s=>e = .normal/\s=s1) ⟨rfl,rfl⟩ hstart) ?_);rintro e a1 w1 ⟨xe,s,rfl,⟨F1,γ1,hi⟩,rfl,rfl⟩;obtain ⟨ol⟩:=ops;simp only at hops;subst hops;have hv0:=qkl hi tp;rw [hsl] at hv0;obtain ⟨_,b0,hR0,hv0⟩:=hv0;refine wp_seq (ugq ?_);have hargs':args = #[.tmp tp]:=by
  obtain ⟨l⟩:=args;simp only at hargs;rw [hargs]
 subst hargs';have hev:a1.eval (.tmp tp) = .pointer (some ⟨b0,0,none⟩):=hv0;have hexec:(execOp a1.eval ⟨none,.defer ⟨.value (.func f0),#[.tmp tp],ats⟩,ty,pos,aft,none⟩).run P w1 = .ok (.defer { target:=.fn (.func f0) #[],args:=#[.pointer (some ⟨b0,0,none⟩)] }) w1:=by
  have hef:a1.eval (.func f0) = .func (.func f0) #[] #[]:=rfl;simp [execOp,resolve,hev,hef,Deferred.ofValue]
 have hrange:List.range (#[(⟨none,.defer ⟨.value (.func f0),#[.tmp tp],ats⟩,ty,pos,aft,none⟩:Oper)]:Array Oper).size=[0]:=rfl;rw [hrange];show wpOps P _ _ [0] a1 w1;unfold wpOps;simp only [List.getElem?_toArray,List.getElem?_cons_zero];have hw:Region.wanted (⟨none,.defer ⟨.value (.func f0),#[.tmp tp],ats⟩,ty,pos,aft,none⟩:Oper) (yielded #[(⟨none,.defer ⟨.value (.func f0),#[.tmp tp],ats⟩,ty,pos,aft,none⟩:Oper)] a1.tmps)=true:=rfl;rw [if_pos hw];refine .inl ?_;unfold Oper.wp;rw [hexec];rw [Oper.upon_defer];simp only [wpOps];show Code.wp P c (bodyPostD P fn (qd1 w F rs (fr xs).get)) { a1 with defers:={ target:=.fn (.func f0) #[],args:=#[.pointer (some ⟨b0,0,none⟩)] }::a1.defers } w1;have hi':InvG P ⟨w,F,fun _=>.pointer (some ⟨b0,0,none⟩),[{ target:=.fn (.func f0) #[],args:=#[.pointer (some ⟨b0,0,none⟩)] }],w.heap.size,Nat.le_refl _⟩ ⟨s.n,s.sl,s.mem,fun t=>if t=0 then .c (.ptr id 0) else .dead⟩ { a1 with defers:={ target:=.fn (.func f0) #[],args:=#[.pointer (some ⟨b0,0,none⟩)] }::a1.defers } w1 [] F1 γ1:=by
  refine ⟨hi.n,?_,hi.step,hi.mem,hi.sl,hi.hg,fun t=>?_⟩
  ·show _::a1.defers=[_];rw [hi.df]
  ·show qz P w1 F1 _ (if t=0 then .c (.ptr id 0) else .dead) _;split
   ·exact ⟨rfl,b0,hR0,rfl⟩
   ·trivial
 have hwp:=yx hC c (zq A) (by have:=(hlam ⟨w,F,fun _=>.pointer (some ⟨b0,0,none⟩),[{ target:=.fn (.func f0) #[],args:=#[.pointer (some ⟨b0,0,none⟩)] }],w.heap.size,ua3 _⟩).2.2; simpa [zq] using this) ht2 (qke hr' hok) ⟨F1,γ1,hi'⟩;refine wp_mono hwp ?_;rintro e a2 w2 ⟨xe,s2,rfl,⟨F2,γ2,hi2⟩,hx⟩;have hinv:∀ W,(invoke (.fn (.func f0) #[]) #[.pointer (some ⟨b0,0,none⟩)]).run P W = .ok (.enter f0 #[.pointer (some ⟨b0,0,none⟩)]) W:=fun W=>by
  have:=hT.enter #[.pointer (some ⟨b0,0,none⟩)] W;simp [invoke,this]
 have hfin:(∃ n,qa7 P fn.results.toList rs s2=some (Fr.needL n (.val (fr xs).get))/\qr n)->Leaves P fn a2.tmps (qd1 w F rs (fr xs).get) a2.defers .returning w2:=by
  rintro ⟨n,hend,hn⟩;rw [hi2.df];refine udo (by simp) (hinv w2) ((hT.idle _ w2).mono ?_);rintro e u' w' ⟨⟨v,rfl⟩,rfl,rfl⟩;exact qin hi2 rfl hend hn
 cases xe with
 |normal=>exact hfin hx
 |ret=>exact hfin hx
 |exit _=>exact hx.elim
 |val _=>exact hx.elim
 |jump _=>exact hx.elim
 |panic p=>
  obtain ⟨s',n,hs',hin,hend,hn⟩:=hx;obtain ⟨hty,hk,hlow,b,tyb,old,hG,hheap,hi3⟩:=zmx hi2 hs' hin;have hG':(Value.pointer (some ⟨b0,0,none⟩)) = .pointer (some ⟨b,0,none⟩):=hG;simp only [ucx,ua0,ue0,ud7] at hG';subst hG';show Leaves P fn a2.tmps _ a2.defers (.panicking [{ v:=p.val,recovered:=false }]) w2;rw [PV.val_low (by rw [hty]; exact hlow),hi2.df,hty,hk];refine udo (by simp) (hinv w2) ((hT.told b0 tyb old p.n w2 hheap).mono ?_);rintro e u' w' ⟨⟨v,rfl⟩,rfl,rfl⟩;exact qin hi3 rfl hend hn
end
end Go.Ab

namespace Go.Ab
open Go Go.RowKit Go.WideShapes Go.ChangeShapes
def qem (r:TypeId->Ty->Bool):List Field->Ty->Nat->Bool
 |[],.unit,_=>true
 |f::fs,.pair a b,off=>(f.offset==off)&&(r f.type a&&qem r fs b (off+a.size))
 |_,_,_=>false
def qel (r:Ty->Bool):Nat->Ty->Bool
 |0,.unit=>true
 |k+1,.pair a b=>r a&&qel r k b
 |_,_=>false
def qfx (P:Program):Nat->TypeId->Ty->Bool
 |0,_,_=>false
 |n+1,t,ty=>(P.cellsOf t==ty.size)&&match P.underlying t,ty with
  |some .bool,.bool=>true
  |some (.int k),.int k'=>decide (k=k')
  |some .string,.str=>true
  |some (.slice e),.sl te=>decide (0<te.size)&&qfx P n e te
  |some (.struct fs),ty=>ty.wide&&qem (qfx P n) fs.toList ty 0
  |some (.array k e),ty=>ty.wide&&qel (qfx P n e) k ty
  |_,_=>false
section
variable {H:Type} {enc:TypeId×Value->H} {P:Program} {w:World} {sp:Nat->Bool} {held:Bool}
theorem yht (a:Addr) (k j:Nat):(a.add k).add j=a.add (k+j):=by
 unfold Addr.add;by_cases hk:k=0
 ·subst hk;simp
 ·by_cases hj:j=0
  ·subst hj;simp [hk]
  ·have:¬ k+j=0:=by omega
   simp [hk,hj,uc4]
theorem zp0 {α:Type} {Q:Nat->α->Prop}:(n:Nat)->(∀ i,i<n->∃ y,Q i y)->∃ l:List α,l.length=n/\∀ (i:Nat) (y:α),l[i]? = some y->Q i y
 |0,_=>⟨[],rfl,fun i y h=>by simp at h⟩
 |n+1,h=>by
  obtain ⟨l,hl,hq⟩:=zp0 n (fun i hi=>h i (by omega));obtain ⟨y,hy⟩:=h n (by omega);refine ⟨l++[y],by simp [hl],fun i z hz=>?_⟩;rcases uar i l.length with hi|hi
  ·rw [uc3 hi] at hz;exact hq i z hz
  ·rw [ubr hi] at hz;have:i-l.length=0:=by
    rcases uft (i-l.length) with h0|h0
    ·exact h0
    ·rw [ucy (by simp; omega)] at hz;cases hz
   rw [this] at hz;simp only [ubn,ua0] at hz;subst hz;have:i=n:=by omega
   subst this;exact hy
theorem zv7 {a:Addr} {n:Nat} {cs:List Value} (h:w.cells? 0 a n=some cs):cs.length=n/\∀ j,j<n->w.cell? (a.add j)=cs[j]? := by
 unfold World.cells? at h;rw [if_pos (Nat.zero_le _)] at h;refine ⟨by simpa using mapM_some_length h,fun j hj=>?_⟩;exact mapM_some_get h j j (by simp [hj])
theorem yh9 {a:Addr} {v:Value} (h:w.cell? a=some v):a.block<w.heap.size:=by
 unfold World.cell? at h;split at h
 ·rename_i hb;exact (uaa.1 hb).1
 ·cases h
theorem yp7 {k:IntKind} {n:Int} (h:(Lit.int k n).wf=true):inR k n:=by
 simpa [Lit.wf,inR] using h
abbrev qqo (w:World):Nat->Prop:=fun b=>b<w.heap.size
theorem zlo {n fuel:Nat} (ih:∀ (t:TypeId) (ty:Ty) (fuel:Nat) (cs:List Value) (x:DataW H×List MemPlace),qfx P n t ty=true->DataW.trod enc P w 0 sp held fuel t cs=some x->cs.length=ty.size/\∃ y,qs w (qqo w) ty y (fun j u=>cs[j]? = some u))
  {cs:List Value}:(l:List Field)->(ty:Ty)->(off:Nat)->qem (qfx P n) l ty off=true->(∀ f∈l,∃ x,DataW.trod enc P w 0 sp held fuel f.type ((cs.drop f.offset).take (P.cellsOf f.type))=some x)->∃ y,qs w (qqo w) ty y (fun j u=>cs[off+j]? = some u)
 |[],.unit,_,_,_=>⟨(),trivial⟩
 |f::fs,.pair a b,off,h,hx=>by
  simp only [qem,ua1,ubu] at h;obtain ⟨h1,h2,h3⟩:=h;obtain ⟨x,hx1⟩:=hx f (by simp);obtain ⟨hl,y,hy⟩:=ih _ _ _ _ _ h2 hx1;obtain ⟨y',hy'⟩:=zlo ih fs b (off+a.size) h3 (fun g hg=>hx g (by simp [hg]));refine ⟨(y,y'),qs.mono (fun _ h=>h) (fun _ _=>rfl) (fun j u hj hu=>?_) hy,qs.mono (fun _ h=>h) (fun _ _=>rfl) (fun j u hj hu=>?_) hy'⟩
  ·rw [uap] at hu;split at hu
   ·rw [ubd,h1] at hu;exact hu
   ·cases hu
  ·rw [uc4] at hu;exact hu
 |[],.int _,_,h,_=>by simp [qem] at h
 |[],.bool,_,h,_=>by simp [qem] at h
 |[],.str,_,h,_=>by simp [qem] at h
 |[],.sl _,_,h,_=>by simp [qem] at h
 |[],.pair _ _,_,h,_=>by simp [qem] at h
 |[],.fm _,_,h,_=>by simp [qem] at h
 |_::_,.fm _,_,h,_=>by simp [qem] at h
 |[],.ic _ _,_,h,_=>by simp [qem] at h
 |_::_,.ic _ _,_,h,_=>by simp [qem] at h
 |[],.fc _,_,h,_=>by simp [qem] at h
 |_::_,.fc _,_,h,_=>by simp [qem] at h
 |_::_,.int _,_,h,_=>by simp [qem] at h
 |_::_,.bool,_,h,_=>by simp [qem] at h
 |_::_,.str,_,h,_=>by simp [qem] at h
 |_::_,.sl _,_,h,_=>by simp [qem] at h
 |_::_,.unit,_,h,_=>by simp [qem] at h
theorem zln {n fuel:Nat} {e:TypeId} (ih:∀ (t:TypeId) (ty:Ty) (fuel:Nat) (cs:List Value) (x:DataW H×List MemPlace),qfx P n t ty=true->DataW.trod enc P w 0 sp held fuel t cs=some x->cs.length=ty.size/\∃ y,qs w (qqo w) ty y (fun j u=>cs[j]? = some u))
  {cs:List Value}:(k:Nat)->(ty:Ty)->(i0:Nat)->qel (qfx P n e) k ty=true->(∀ i,i<k->∃ x,DataW.trod enc P w 0 sp held fuel e ((cs.drop ((i0+i)*P.cellsOf e)).take (P.cellsOf e))=some x)->∃ y,qs w (qqo w) ty y (fun j u=>cs[i0*P.cellsOf e+j]? = some u)
 |0,.unit,_,_,_=>⟨(),trivial⟩
 |k+1,.pair a b,i0,h,hx=>by
  simp only [qel,ua1] at h;obtain ⟨h2,h3⟩:=h;obtain ⟨x,hx1⟩:=hx 0 (by omega);obtain ⟨hl,y,hy⟩:=ih _ _ _ _ _ h2 hx1;have hsz:P.cellsOf e=a.size:=by
   cases n with
   |zero=>simp [qfx] at h2
   |succ n=>
    simp only [qfx,ua1,ubu] at h2;exact h2.1
  obtain ⟨y',hy'⟩:=zln ih k b (i0+1) h3 (fun i hi=>by
   have:=hx (i+1) (by omega)
   rwa [show i0+1+i=i0+(i+1) by omega])
  refine ⟨(y,y'),qs.mono (fun _ h=>h) (fun _ _=>rfl) (fun j u hj hu=>?_) hy,qs.mono (fun _ h=>h) (fun _ _=>rfl) (fun j u hj hu=>?_) hy'⟩
  ·rw [uap] at hu;split at hu
   ·rw [ubd] at hu;simpa using hu
   ·cases hu
  ·rw [ucs,Nat.one_mul,hsz,uc4] at hu;rw [hsz];exact hu
 |0,.int _,_,h,_=>by simp [qel] at h
 |0,.bool,_,h,_=>by simp [qel] at h
 |0,.str,_,h,_=>by simp [qel] at h
 |0,.sl _,_,h,_=>by simp [qel] at h
 |0,.pair _ _,_,h,_=>by simp [qel] at h
 |0,.fm _,_,h,_=>by simp [qel] at h
 |_+1,.fm _,_,h,_=>by simp [qel] at h
 |0,.ic _ _,_,h,_=>by simp [qel] at h
 |_+1,.ic _ _,_,h,_=>by simp [qel] at h
 |0,.fc _,_,h,_=>by simp [qel] at h
 |_+1,.fc _,_,h,_=>by simp [qel] at h
 |_+1,.int _,_,h,_=>by simp [qel] at h
 |_+1,.bool,_,h,_=>by simp [qel] at h
 |_+1,.str,_,h,_=>by simp [qel] at h
 |_+1,.sl _,_,h,_=>by simp [qel] at h
 |_+1,.unit,_,h,_=>by simp [qel] at h
theorem yfl {t e:TypeId} {k fuel:Nat} {cs:List Value} {x:DataW H×List MemPlace} (ht:P.underlying t=some (.array k e)) (h:DataW.trod enc P w 0 sp held fuel t cs=some x) :
  ∃ n,∀ i,i<k->∃ y,DataW.trod enc P w 0 sp held n e ((cs.drop (i*P.cellsOf e)).take (P.cellsOf e))=some y:=by
 cases fuel with
 |zero=>simp [DataW.trod] at h
 |succ n=>
  unfold DataW.trod at h;rw [ht] at h;split at h<;>simp_all
  obtain ⟨hl,xs,hp,hd⟩:=h;refine ⟨n,fun i hi=>?_⟩;have h1:=mapM_some_get hp i i (by simp [hi]);have h2:=mapM_some_length hp;rw [ua7 (by simp at h2; omega)] at h1;exact ⟨_,_,h1⟩
theorem qts:(n:Nat)->(t:TypeId)->(ty:Ty)->(fuel:Nat)->(cs:List Value)->(x:DataW H×List MemPlace)->qfx P n t ty=true->DataW.trod enc P w 0 sp held fuel t cs=some x->cs.length=ty.size/\∃ y,qs w (qqo w) ty y (fun j u=>cs[j]? = some u)
 |0,t,ty,fuel,cs,x,h,_=>by simp [qfx] at h
 |n+1,t,ty,fuel,cs,x,h,hx=>by
  simp only [qfx,ua1,ubu] at h;obtain ⟨hsz,h⟩:=h;split at h
  ·rename_i ht;obtain ⟨b,rfl,_⟩:=DataW.trod_bool ht hx;exact ⟨rfl,b,rfl⟩
  ·rename_i k k' ht;have hk:k=k':=by simpa using h
   subst hk;obtain ⟨m,rfl,_,hw⟩:=DataW.trod_int ht hx;exact ⟨rfl,m,rfl,yp7 hw⟩
  ·rename_i ht;obtain ⟨s,rfl,_,hs⟩:=DataW.trod_string ht hx;exact ⟨rfl,s,rfl,hs⟩
  ·rename_i e te ht;simp only [ua1,uab] at h;obtain ⟨hpos,hte⟩:=h;have hse:P.cellsOf e=te.size:=by
    cases n with
    |zero=>simp [qfx] at hte
    |succ n=>
     simp only [qfx,ua1,ubu] at hte;exact hte.1
   rcases DataW.trod_slice ht hx with ⟨rfl,_⟩|⟨a,len,cap,elems,rest,m,rfl,rfl,_,_,h1,h2,hel,hget,_⟩
   ·exact ⟨rfl,[],none,0,rfl,ua3 _,by simp [maxLen],fun i y hy=>by simp at hy⟩
   ·have hall:∀ i,i<len->∃ y,qs w (qqo w) te y (fun j u=>w.cell? (a.add (i*te.size+j))=some u)/\a.block<w.heap.size:=fun i hi=>by
     have hg:=hget i hi;rw [ua7 (by omega)] at hg;rw [Option.bind_eq_some_iff] at hg;obtain ⟨ci,hci,htr⟩:=hg;rw [hse] at hci;obtain ⟨hl,y,hy⟩:=qts n e te m ci _ hte htr;obtain ⟨hcl,hcg⟩:=zv7 hci;have hc:∀ j,j<te.size->w.cell? (a.add (i*te.size+j))=ci[j]? := fun j hj=>by
      rw [← yht];exact hcg j hj
     refine ⟨y,qs.mono (fun _ h=>h) (fun _ _=>rfl) (fun j u hj hu=>(hc j hj).trans hu) hy,?_⟩;have h0:=hc 0 hpos;rw [List.getElem?_eq_getElem (by omega)] at h0;have hlt:=yh9 h0;have:(a.add (i*te.size+0)).block=a.block:=by unfold Addr.add; split<;>rfl
     rwa [this] at hlt
    obtain ⟨l,hl,hq⟩:=zp0 (Q:=fun i (y:te.den)=>qs w (qqo w) te y (fun j u=>w.cell? (a.add (i*te.size+j))=some u)/\a.block<w.heap.size) len hall;subst hl;exact ⟨rfl,l,some a,cap,rfl,h1,h2,fun i y hy=>⟨a,rfl,(hq i y hy).2,(hq i y hy).1⟩⟩
  ·rename_i ty' fs ht;simp only [ua1] at h;obtain ⟨xs,m,rfl,rfl,hl,hxl,hget⟩:=DataW.trod_struct ht hx;refine ⟨by omega,?_⟩;have:=zlo (fuel:=m) (fun t ty fuel cs x=>qts n t ty fuel cs x) (cs:=cs) fs.toList _ 0 h.2 (fun f hf=>by
    obtain ⟨i,hi⟩:=uf5.1 hf;have hi':fs[i]? = some f:=by simpa using hi
    have hlt:i<fs.size:=(uaa.1 hi').1;have hg:=hget i f hi';rw [ua7 (by omega)] at hg;exact ⟨_,hg⟩)
   simpa using this
  ·rename_i ty' k e ht;simp only [ua1] at h;obtain ⟨m,hm⟩:=yfl ht hx;have hl:cs.length=P.cellsOf t:=by
    cases fuel with
    |zero=>simp [DataW.trod] at hx
    |succ m=>
     unfold DataW.trod at hx;rw [ht] at hx;split at hx<;>simp_all
   refine ⟨by omega,?_⟩;have:=zln (fuel:=m) (fun t ty fuel cs x=>qts n t ty fuel cs x) (cs:=cs) k _ 0 h.2 (fun i hi=>by simpa using hm i hi);simpa using this
  ·cases h
theorem yd2 {n:Nat} {t:TypeId} {ty:Ty} {v:Value} {d:DataW H} {ps:List MemPlace} {r:Reach} {base:Nat} (h:qfx P n t ty=true) (hv:Value.okWide P w r base t v) (hd:DataW.Trod enc P w 0 sp held t v d ps):∃ y,zv w (qqo w) ty y v:=by
 obtain ⟨fuel,hf⟩:=hd;obtain ⟨hl,y,hy⟩:=qts n t ty fuel _ _ h hf;refine ⟨y,by simpa using hl,?_,qs.mono (fun _ h=>h) (fun _ _=>rfl) (fun j u hj hu=>by simpa using hu) hy⟩;cases n with
 |zero=>simp [qfx] at h
 |succ n=>
  simp only [qfx,Bool.and_eq_true] at h;replace h:=h.2;unfold Value.okWide at hv;split at h
  ·rename_i ht;rw [ht] at hv;simp only [Cell.okWide,ht,Cell.ok] at hv;refine ⟨fun hw=>(by cases hw),fun ⟨cs,hc⟩=>?_⟩;subst hc;exact hv.elim
  ·rename_i k k' ht;rw [ht] at hv;simp only [Cell.okWide,ht,Cell.ok] at hv;refine ⟨fun hw=>(by cases hw),fun ⟨cs,hc⟩=>?_⟩;subst hc;exact hv.elim
  ·rename_i ht;rw [ht] at hv;simp only [Cell.okWide,ht,Cell.ok] at hv;refine ⟨fun hw=>(by cases hw),fun ⟨cs,hc⟩=>?_⟩;subst hc;exact hv.elim
  ·rename_i e te ht;rw [ht] at hv;simp only [Cell.okWide,ht,Cell.ok] at hv;refine ⟨fun hw=>(by cases hw),fun ⟨cs,hc⟩=>?_⟩;subst hc;exact hv.elim
  ·rename_i ty' fs ht;rw [ht] at hv;simp only [ua1] at h;obtain ⟨cs,hc,_⟩:=hv;exact ⟨fun _=>⟨cs,hc⟩,fun _=>h.1⟩
  ·rename_i ty' k e ht;rw [ht] at hv;simp only [ua1] at h;obtain ⟨cs,hc,_⟩:=hv;exact ⟨fun _=>⟨cs,hc⟩,fun _=>h.1⟩
  ·cases h
def qjk (P:Program):List TypeId->List PT->Bool
 |[],[]=>true
 |t::ts,.d ty::ps=>qfx P 12 t ty&&qjk P ts ps
 |_,_=>false
theorem zfi {r:Reach} {base:Nat}:{ts:List TypeId} -> {ps:List PT} -> {vs:List Value} -> {ds:List (DataW H)} -> {pl:List MemPlace}->qjk P ts ps=true->DataW.TrodAll enc P w 0 sp held ts vs ds pl ->
  (∀ (j:Nat) t v,ts[j]? = some t->vs[j]? = some v->Value.okWide P w r base t v)->∃ xs,wt P w (qqo w) ps xs vs
 |[],[],[],[],_,_,_,_=>⟨(),rfl⟩
 |t::ts,.d ty::ps,v::vs,d::ds,_,h,ht,hv=>by
  simp only [qjk,ua1] at h;obtain ⟨p,q,h1,h2,_⟩:=ht;obtain ⟨y,hy⟩:=yd2 h.1 (hv 0 t v rfl rfl) h1;obtain ⟨ys,hys⟩:=zfi h.2 h2 (fun j t v a b=>hv (j+1) t v a b);exact ⟨(y,ys),v,vs,rfl,hy,hys⟩
 |[],_::_,_,_,_,h,_,_=>by simp [qjk] at h
 |_::_,[],_,_,_,h,_,_=>by simp [qjk] at h
 |_::_,.ptr _::_,_,_,_,h,_,_=>by simp [qjk] at h
 |_::_,.fn _ _::_,_,_,_,h,_,_=>by simp [qjk] at h
 |_::_,.pf _ _::_,_,_,_,h,_,_=>by simp [qjk] at h
 |_::_,.pfn _ _::_,_,_,_,h,_,_=>by simp [qjk] at h
 |_::_,.pk _::_,_,_,_,h,_,_=>by simp [qjk] at h
 |[],[],_::_,_,_,_,h,_=>h.elim
 |[],[],[],_::_,_,_,h,_=>h.elim
 |_::_,.d _::_,[],_,_,_,h,_=>h.elim
 |_::_,.d _::_,_::_,[],_,_,h,_=>h.elim
theorem qx5 (hl:laidOutB P=true) {W':World} {sp':Nat->Bool}:{ts:List TypeId} -> {vs:List Value} -> {ds:List (DataW H)} -> {pl:List MemPlace}->(ts.all fun t=>P.readableRec t&&decide (t<P.types.size))=true ->
  DataW.TrodAll enc P w 0 (fun _=>true) true ts vs ds pl->(∀ p∈pl,w.sameAt W' p)->(∀ p∈pl,sp' p.block=true)->DataW.TrodAll enc P W' 0 sp' true ts vs ds pl
 |[],[],[],_,_,h,_,_=>h
 |t::ts,v::vs,d::ds,_,hr,h,h1,h2=>by
  simp only [uc8,ua1,uab] at hr;obtain ⟨p,q,a,b,rfl⟩:=h;exact ⟨p,q,WideElems.Trod_stays hl hr.1.1 hr.1.2 a (fun x hx=>h1 x (by simp [hx])) (fun x hx=>h2 x (by simp [hx])),qx5 hl (by simpa using hr.2) b (fun x hx=>h1 x (by simp [hx])) (fun x hx=>h2 x (by simp [hx])),rfl⟩
 |[],_::_,_,_,_,h,_,_=>h.elim
 |[],[],_::_,_,_,h,_,_=>h.elim
 |_::_,[],_,_,_,h,_,_=>h.elim
 |_::_,_::_,[],_,_,h,_,_=>h.elim
theorem zgi {f:Func} {s:ChangeSpec} {apart fresh handsOn again:Bool} {W W':World} {args:Array Value} {v:Value} {ds gs:List (DataW H)} {before pa pv:List MemPlace}
  (hW:DataW.Whole enc P f.params.toList s.vars apart W args.toList ds gs before)
  (hres:∀ (b:Nat) (sp:Nat->Bool) (hd:Bool),DataW.TrodAll enc P W' b sp hd f.resultTypes.toList (v.resultList f.resultTypes.size) (s.fn H (ds++gs)).results [])
  (hargs:∀ sp:Nat->Bool,(∀ p∈before,sp p.block=true)->DataW.TrodAll enc P W' 0 sp true f.params.toList args.toList (s.fn H (ds++gs)).args pa)
  (hvars:∀ sp:Nat->Bool,(∀ p∈before,sp p.block=true)->DataW.TrodVars enc P W' sp s.vars (s.fn H (ds++gs)).vars pv)
  (hps:before=pa++pv) (hb:Below W.heap.size W W')
  (hok:∀ (j:Nat) (t:TypeId) (r:Value),f.resultTypes[j]? = some t->(v.resultList f.resultTypes.size)[j]? = some r->Value.okWide P W' .any 0 t r) :
  s.post enc P f apart fresh handsOn again W args v W':=by
 have hlt:∀ p∈before,p.block<W.heap.size:=fun p hp=>hW.lt p hp;have hold:∀ p∈before,(fun b=>decide (b<W.heap.size)) p.block=true:=fun p hp=>by simpa using hlt p hp
 refine ⟨ds,gs,before,[],pa,pv,hW,hres _ _ _,hargs _ hold,hvars _ hold,World.keptBut_mono (fun p hp=>⟨hp,?_⟩) (hb.frame (· ∈ before)),fun _=>?_⟩
 ·rw [hps,ubc] at hp;exact Or.inr hp
 ·obtain ⟨_,_,_,_,_,hz,hn⟩:=hW;refine ⟨hok,_,_,([]++pa)++pv,⟨[]++pa,pv,trodAll_append (hargs _ (fun _ _=>rfl)) (hres _ _ _),hvars _ (fun _ _=>rfl),rfl,?_,?_⟩,?_⟩
  ·intro b off hp;have hin:MemPlace.cell b off∈before:=by rw [hps]; simpa using hp
   rw [hb.frozen (hlt _ hin)];exact hz b off hin
  ·intro ha;have:=hn ha;rw [hps] at this;simpa using this
  ·intro p hp _;rw [hps];simpa using hp
theorem law_contract {fid:FuncId} {f:Func} {s:ChangeSpec} {ps:List PT} {apart fresh handsOn again:Bool} {tb:TypeId} (hl:laidOutB P=true) (hr:(f.params.toList.all fun t=>P.readableRec t&&decide (t<P.types.size))=true) (hty:qjk P f.params.toList ps=true)
  (hvars:s.vars=[]) (hrt:f.resultTypes = #[tb]) (htb:P.underlying tb=some .bool) (hs:∀ ds:List (DataW H),ds.length=f.params.size->s.fn H ds = { results:=[.lit (.bool true)],args:=ds })
  (hc:qa P fid ⟨ps,[.bool],fun _=>(true,()),fun _=>[]⟩) (W:World) (base:Nat) (args:Array Value) (ds gs:List (DataW H)) (before:List MemPlace)
  (hval:∀ (j:Nat) t v,f.params[j]? = some t->args[j]? = some v->Value.okWide P W .any base t v)
  (hW:DataW.Whole enc P f.params.toList s.vars apart W args.toList ds gs before) :
  Calls P fid args W fun e W'=>∃ v,e = .returned v/\s.post enc P f apart fresh handsOn again W args v W':=by
 have hW':=hW;obtain ⟨p,q,hA,hV,rfl,hfz,hnd⟩:=hW;rw [hvars] at hV;obtain ⟨rfl,rfl⟩:=trodVars_none hV;obtain ⟨xs,hxs⟩:=zfi (r:=.any) (base:=base) hty hA (fun j t v a b=>hval j t v (by simpa using a) (by simpa using b));have hcalls:=hc.2 W (qqo W) xs args.toList (fun b hb=>hb) hxs trivial;refine hcalls.mono ?_;rintro e W' ⟨v,F',rfl,hbel,_,_,hv⟩;have hv':qz P W' F' (fun _ _=>True) (qga .bool true) v:=qbi hv;have hvb:v = .bool true:=hv'.2;subst hvb;refine ⟨_,rfl,?_⟩;have hlen:(ds++[]).length=f.params.size:=by
  have:=trodAll_length hA;simp [this.2]
 have hsf:=hs (ds++[]) hlen;have hlt:∀ x∈p,x.block<W.heap.size:=fun x hx=>hW'.lt x (by simp [hx]);refine zgi (pa:=p) (pv:=[]) hW' (fun b sp hd=>?_) (fun sp hsp=>?_) (fun sp _=>?_) (by simp) hbel (ok_one hrt rfl (okWide_bool_mk htb true))
 ·rw [hrt,hsf];exact trodAll_mk1 (shut_bool htb true)
 ·rw [hsf];simp only [ud1];exact qx5 hl hr hA (fun x hx=>hbel.same (hlt x hx)) (fun x hx=>hsp x (by simp [hx]))
 ·rw [hvars,hsf];rfl
end
end Go.Ab
namespace Go.Proofs.YtgieagiaagoogaaGreat
open Go Go.Ab Go.RowKit Go.Proofs
abbrev i64:Ty:=.int .i64
abbrev u64:Ty:=.int .u64
abbrev jg:Ty:=.sl i64
abbrev zy:Ty:=.pair i64 (.pair i64 .unit)
abbrev zg:Ty:=.pair jg (.pair jg .unit)
abbrev jp:Ty:=.pair i64 (.pair i64 (.pair i64 (.pair i64 .unit)))
abbrev qc:Ty:=.pair i64 (.pair i64 (.pair i64 (.pair i64 (.pair i64 .unit))))
abbrev ql:Ty:=.pair zy (.pair .bool (.pair jp (.pair (.sl qc) (.pair i64 .unit))))
def zyf:Nat->St->Option Tr:=fun _ _=>none
def C0:Cx:=⟨⟨fun _=>none,fun _=>none⟩,fun _=>none,fun _ _ _ _=>none⟩
theorem qv:Tryz.prog.follows .mixedOrders=true:=by kernel_rfl
theorem qow:CxOK Tryz.prog C0:=⟨qv,⟨fun _ _ h=>(nomatch h),fun _ _ h=>(nomatch h)⟩,fun _ _ h=>(nomatch h),fun _ _ _ _ _ h=>(nomatch h)⟩
theorem qhu {E:Env}:(c:Code)->(k:Nat)->jw Tryz.prog E zyf c k
 |.seq a b,k=>⟨qhu a k,qhu b _⟩
 |.cond _ a b,k=>⟨qhu a k,qhu b _⟩
 |.block _ c,k=>qhu c k
 |.loop _,_=>fun _ _ h=>nomatch h
 |.skip,_=>trivial
 |.ret,_=>trivial
 |.exit _,_=>trivial
 |.region _ _ _,_=>trivial
 |.label _,_=>trivial
 |.goto _,_=>trivial
 |.scope c,k=>qhu c k
 |.rangeFunc _ _ _ _,_=>trivial
 |.refuse _,_=>trivial
theorem plain {C:Cx} (hC:CxOK Tryz.prog C) {f:FuncId} {fn:Func} {ps:List PT} {rs:List Ty} {fr:qn ps->Fr (qi rs)} (x0:qn ps) (hf:Tryz.prog.funcs[f]? = some fn)
  (hrun:∀ xs,qxc Tryz.prog C zyf fn ps rs xs=some (fr xs)) (g:qn ps->qi rs) (ok:qn ps->List Prop)
  (hg:∀ w F xs vs,wt Tryz.prog w F ps xs vs->qr (ok xs)->(fr xs).ok/\(fr xs).get=g xs):qa Tryz.prog f ⟨ps,rs,g,ok⟩:=
 conv (qg hC x0 hf (fun c E _=>qhu c 0) hrun) g ok hg
def qea (v:Int):Bool:=decide (v ≥ -4000000000000000000)&&decide (v<=4000000000000000000)
def zis:Ct:=⟨[.d i64],[.bool],fun x=>(qea x.1,()),fun _=>[]⟩
theorem ydn:qa Tryz.prog 204 zis:=
 plain (ps:=[.d i64]) (rs:=[.bool]) qow (fn:=Tryz.f204) (fr:=fun x=>Fr.val (bif decide (x.1 ≥ -4000000000000000000) then decide (x.1<=4000000000000000000) else false,())) (0,()) (by kernel_rfl) (fun x=>by kernel_rfl) _ _
  (fun _ _ x _ _ _=>⟨trivial,by simp only [Fr.get,qea]; cases decide (x.1 ≥ -4000000000000000000)<;>rfl⟩)
def wk (s:zy.den):Bool:=decide (s.1≥1)&&(decide (s.1<s.2.1)&&decide (s.2.1<=292195))
def qdy (s:zy.den):Bool:=decide (s.1≥1)&&(decide (s.1<=s.2.1)&&decide (s.2.1<=292195))
def qzu:Ct:=⟨[.d zy],[.bool],fun x=>(wk x.1,()),fun _=>[]⟩
def xx:Ct:=⟨[.d zy],[.bool],fun x=>(qdy x.1,()),fun _=>[]⟩
theorem qtr (a b c:Bool):(bif bif a then b else false then c else false)=(a&&(b&&c)):=by cases a<;>cases b<;>rfl
theorem ycn:qa Tryz.prog 186 qzu:=
 plain (ps:=[.d zy]) (rs:=[.bool]) qow (fn:=Tryz.f186) (fr:=fun x=>Fr.val (bif bif decide (x.1.1≥1) then decide (x.1.1<x.1.2.1) else false then decide (x.1.2.1<=292195) else false,())) ((0,0,()),()) (by kernel_rfl) (fun x=>by kernel_rfl) _ _
  (fun _ _ x _ _ _=>⟨trivial,by simp only [Fr.get,wk,qtr]⟩)
theorem zxl:qa Tryz.prog 164 qzu:=
 plain (ps:=[.d zy]) (rs:=[.bool]) qow (fn:=Tryz.f164) (fr:=fun x=>Fr.val (bif bif decide (x.1.1≥1) then decide (x.1.1<x.1.2.1) else false then decide (x.1.2.1<=292195) else false,())) ((0,0,()),()) (by kernel_rfl) (fun x=>by kernel_rfl) _ _
  (fun _ _ x _ _ _=>⟨trivial,by simp only [Fr.get,wk,qtr]⟩)
theorem qvq:qa Tryz.prog 104 xx:=
 plain (ps:=[.d zy]) (rs:=[.bool]) qow (fn:=Tryz.f104) (fr:=fun x=>Fr.val (bif bif decide (x.1.1≥1) then decide (x.1.1<=x.1.2.1) else false then decide (x.1.2.1<=292195) else false,())) ((0,0,()),()) (by kernel_rfl) (fun x=>by kernel_rfl) _ _
  (fun _ _ x _ _ _=>⟨trivial,by simp only [Fr.get,qdy,qtr]⟩)
theorem zuo:qa Tryz.prog 95 xx:=
 plain (ps:=[.d zy]) (rs:=[.bool]) qow (fn:=Tryz.f95) (fr:=fun x=>Fr.val (bif bif decide (x.1.1≥1) then decide (x.1.1<=x.1.2.1) else false then decide (x.1.2.1<=292195) else false,())) ((0,0,()),()) (by kernel_rfl) (fun x=>by kernel_rfl) _ _
  (fun _ _ x _ _ _=>⟨trivial,by simp only [Fr.get,qdy,qtr]⟩)
def qje (s:ql.den) (e:Int):Bool:=decide (s.1.1≥e)&&(decide (s.1.1<s.1.2.1)&&(decide (s.1.2.1<=292195)&&(decide (s.2.2.2.2.1≥0)&&decide (s.2.2.2.2.1<=4000000000000000000))))
def qj7:Ct:=⟨[.d ql,.d i64],[.bool],fun x=>(qje x.1 x.2.1,()),fun _=>[]⟩
theorem ycg (a b c d e:Bool):(bif bif bif bif a then b else false then c else false then d else false then e else false)=(a&&(b&&(c&&(d&&e)))):=by cases a<;>cases b<;>cases c<;>cases d<;>rfl
theorem zxm:qa Tryz.prog 150 qj7:=
 plain (ps:=[.d ql,.d i64]) (rs:=[.bool]) qow (fn:=Tryz.f150) (fr:=fun x=>Fr.val (bif bif bif bif decide (x.1.1.1≥x.2.1) then decide (x.1.1.1<x.1.1.2.1) else false then decide (x.1.1.2.1<=292195) else false then decide (x.1.2.2.2.2.1≥0) else false then decide (x.1.2.2.2.2.1<=4000000000000000000) else false,()))
  (ql.dflt,0,()) (by kernel_rfl) (fun x=>by kernel_rfl) _ _ (fun _ _ x _ _ _=>⟨trivial,by simp only [Fr.get,qje,ycg]⟩)
def qja:Ct:=⟨[.d i64],[.bool],fun _=>(false,()),fun _=>[]⟩
theorem zp2:qa Tryz.prog 232 qja:=
 plain (ps:=[.d i64]) (rs:=[.bool]) qow (fn:=Tryz.f232) (fr:=fun x=>Fr.val (x.1 != x.1,())) (0,()) (by kernel_rfl) (fun x=>by kernel_rfl) _ _ (fun _ _ x _ _ _=>⟨trivial,by simp [Fr.get]⟩)
theorem zdh:qa Tryz.prog 184 qja:=
 plain (ps:=[.d i64]) (rs:=[.bool]) qow (fn:=Tryz.f184) (fr:=fun x=>Fr.val (x.1 != x.1,())) (0,()) (by kernel_rfl) (fun x=>by kernel_rfl) _ _ (fun _ _ x _ _ _=>⟨trivial,by simp [Fr.get]⟩)
def Γ1:FuncId->Option Ct:=fun f=>if f=232 then some qja else if f=184 then some qja else none
def C1:Cx:=⟨Γ1,fun _=>none,fun _ _ _ _=>none⟩
theorem zlq {Γ:FuncId->Option Ct} (h:∀ f ct,Γ f=some ct->qa Tryz.prog f ct):CxOK Tryz.prog ⟨Γ,fun _=>none,fun _ _ _ _=>none⟩:=
 ⟨qv,⟨h,fun _ _ h=>(nomatch h)⟩,fun _ _ h=>(nomatch h),fun _ _ _ _ _ h=>(nomatch h)⟩
theorem yqc:CxOK Tryz.prog C1:=zlq fun f ct h=>by
 simp only [Γ1] at h;split at h
 ·rename_i hf; subst hf; cases h; exact zp2
 ·split at h
  ·rename_i hf; subst hf; cases h; exact zdh
  ·cases h
def qwo:Ct:=⟨[.d i64,.d i64],[.bool],fun x=>(decide (x.1<x.2.1),()),fun _=>[]⟩
theorem zpz:qa Tryz.prog 210 qwo:=
 plain (ps:=[.d i64,.d i64]) (rs:=[.bool]) yqc (fn:=Tryz.f210) (fr:=fun x=>Fr.val (bif bif (qja.f (x.1,())).1 then !(qja.f (x.2.1,())).1 else false then true else decide (x.1<x.2.1),())) (0,0,()) (by kernel_rfl) (fun x=>by kernel_rfl) _ _
  (fun _ _ x _ _ _=>⟨trivial,rfl⟩)
def ku:Code->Nat->Option Code
 |.loop c,0=>some c
 |.seq a b,k=>if k<zq a then ku a k else ku b (k-zq a)
 |.cond _ a b,k=>if k<zq a then ku a k else ku b (k-zq a)
 |.block _ c,k=>ku c k
 |.scope c,k=>ku c k
 |_,_=>none
def qrm (f:Func) (k:Nat):Code:=(f.body.bind (ku · k)).getD .skip
def Γ2:FuncId->Option Ct:=fun f=>if f=232 then some qja else if f=210 then some qwo else none
def C2:Cx:=⟨Γ2,fun _=>none,fun _ _ _ _=>none⟩
theorem zqu:CxOK Tryz.prog C2:=zlq fun f ct h=>by
 simp only [Γ2] at h;split at h
 ·rename_i hf; subst hf; cases h; exact zp2
 ·split at h
  ·rename_i hf; subst hf; cases h; exact zpz
  ·cases h
def cnt (l:List Int) (x:Int):Nat:=l.countP fun y=>decide (y<x)
theorem yne {l:List Int} {x:Int} {i:Nat} (h1:∀ k y,k<i->l[k]? = some y->y<x) (h2:∀ k y,i<=k->l[k]? = some y->¬ y<x) (hi:i<=l.length):cnt l x=i:=by
 unfold cnt;rw [← List.take_append_drop i l,List.countP_append];have e1:(l.take i).countP (fun y=>decide (y<x))=(l.take i).length:=by
  rw [List.countP_eq_length];intro y hy;obtain ⟨k,hk⟩:=uf5.1 hy;rw [uap] at hk;split at hk
  ·rename_i hlt;simpa using h1 k y hlt hk
  ·cases hk
 have e2:(l.drop i).countP (fun y=>decide (y<x))=0:=by
  rw [List.countP_eq_zero];intro y hy;obtain ⟨k,hk⟩:=uf5.1 hy;rw [ubd] at hk;simpa using h2 (i+k) y (by omega) hk
 rw [e1,e2,uae];omega
abbrev ptB:Pt:=⟨54,0,⟨[(0,.d jg),(1,.d i64),(6,.d i64),(7,.d i64),(8,.d i64)],[]⟩,⟨[(0,.d jg),(1,.d i64),(6,.d i64),(7,.d i64)],[]⟩,⟨[],[]⟩⟩
def mid (i j:Int):Int:=IntKind.i64.wrap ((IntKind.u64.wrap (IntKind.i64.wrap (i+j))).fdiv (2 ^ min (Int.toNat 1) IntKind.u64.bits))
def frB (x:ptB.M.X):Fr ptB.Out:=
 Fr.br (decide (x.1.2.2.2.1<x.1.2.2.2.2.1))
  (Fr.need (¬ (1:Int)<0)
   (Fr.need (0<=mid x.1.2.2.2.1 x.1.2.2.2.2.1/\mid x.1.2.2.2.1 x.1.2.2.2.2.1<x.1.1.length)
    (Fr.br (qwo.f (x.1.1.getD (mid x.1.2.2.2.1 x.1.2.2.2.2.1).toNat i64.dflt,x.1.2.1,())).1
     (Fr.val (Rd.next ((x.1.1,x.1.2.1,x.1.2.2.1,IntKind.i64.wrap (mid x.1.2.2.2.1 x.1.2.2.2.2.1+1),x.1.2.2.2.2.1,()),())))
     (Fr.val (Rd.next ((x.1.1,x.1.2.1,x.1.2.2.1,x.1.2.2.2.1,mid x.1.2.2.2.1 x.1.2.2.2.2.1,()),()))))))
  (Fr.val (Rd.out ((x.1.1,x.1.2.1,x.1.2.2.1,x.1.2.2.2.1,()),())))
theorem ys3:qf Tryz.prog (qrm Tryz.f223 0) ptB.M ptB frB:=
 qf.of_run zqu (bs:=0) (Λ:=zyf) rfl rfl rfl (fun E=>qhu _ 0) (fun x=>by kernel_rfl)
theorem yoz {i j:Int} (hi:0<=i) (hij:i<=j) (hj:j<=9223372036854775807):mid i j=(i+j)/2:=by
 unfold mid;have h1:IntKind.u64.wrap (IntKind.i64.wrap (i+j))=i+j:=by
  rw [ub0,uf6];omega
 have h2:(2:Int) ^ min (Int.toNat 1) IntKind.u64.bits=2:=by decide
 rw [h1,h2,uen _ (by decide),uag _ (by omega)]
structure InvB (l:List Int) (x i j:Int):Prop where
 lo:0<=i
 le:i<=j
 hi:j<=l.length
 big:(l.length:Int)<=9223372036854775807
 up:l.Pairwise (· < ·)
 below:∀ (k:Nat) (y:Int),(k:Int)<i->l[k]? = some y->y<x
 above:∀ (k:Nat) (y:Int),j<=k->l[k]? = some y->¬ y<x
def FB (x:ptB.M.X):Fr ptB.Out:=
 Fr.need (InvB x.1.1 x.1.2.1 x.1.2.2.2.1 x.1.2.2.2.2.1) (Fr.val (Rd.out ((x.1.1,x.1.2.1,x.1.2.2.1,(cnt x.1.1 x.1.2.1:Int),()),())))
theorem zm0 {l:List Int} (h:l.Pairwise (· < ·)) {a b:Nat} {y z:Int} (hab:a<b) (ha:l[a]? = some y) (hb:l[b]? = some z):y<z:=by
 obtain ⟨h1,rfl⟩:=uaj.1 ha;obtain ⟨h2,rfl⟩:=uaj.1 hb;exact (udp.1 h) a b h1 h2 hab
theorem ysv (l:List Int) (x n i j:Int) (hinv:InvB l x i j) (Q:ptB.Out->Prop) (hQ:Q (Rd.out ((l,x,n,(cnt l x:Int),()),()))) :
  (frB ((l,x,n,i,j,()),())).satP fun
   |.next x'=>InvB x'.1.1 x'.1.2.1 x'.1.2.2.2.1 x'.1.2.2.2.2.1/\(x'.1.2.2.2.2.1-x'.1.2.2.2.1).toNat<(j-i).toNat/\(FB x').satP Q
   |.out y=>Q (.out y)
   |.back z=>Q (.back z)
   |.pan p=>Q (.pan p):=by
 obtain ⟨h1,h2,h3,h4,h5,h6,h7⟩:=hinv;simp only [frB,Fr.satP,uab,ubi];refine ⟨fun hij=>?_,fun hij=>?_⟩
 ·have hij:i<j:=hij;have hm:=yoz h1 h2 (by omega);have hmid:0<=(i+j)/2/\(i+j)/2<l.length:=by omega
  rw [hm];refine ⟨by omega,hmid,?_⟩;obtain ⟨y,hy⟩:∃ y,l[((i+j)/2).toNat]? = some y:=by
   have:((i+j)/2).toNat<l.length:=by omega
   exact ⟨_,ua7 this⟩
  have hget:l.getD ((i+j)/2).toNat i64.dflt=y:=by
   rw [ua6,hy];rfl
  rw [hget];show (decide (y<x)=true->_)/\(decide (y<x)=false->_);simp only [uab,ubi];refine ⟨fun hyx=>?_,fun hyx=>?_⟩
  ·have hyx:y<x:=hyx;have hw:IntKind.i64.wrap ((i+j)/2+1)=(i+j)/2+1:=uag _ (by omega);rw [hw];have hn:InvB l x ((i+j)/2+1) j:=⟨by omega,by omega,h3,h4,h5,fun k z hk hz=>by
    by_cases hk2:k<((i+j)/2).toNat
    ·exact ue3 (zm0 h5 hk2 hz hy) hyx
    ·have:k=((i+j)/2).toNat:=by omega
     subst this;rw [hy] at hz;cases hz;exact hyx,h7⟩
   exact ⟨hn,by show (j-((i+j)/2+1)).toNat<(j-i).toNat; omega,hn,hQ⟩
  ·have hyx:¬ y<x:=hyx;have hn:InvB l x i ((i+j)/2):=⟨h1,by omega,by omega,h4,h5,h6,fun k z hk hz=>by
    by_cases hk2:((i+j)/2).toNat<k
    ·have:=zm0 h5 hk2 hy hz;omega
    ·have:k=((i+j)/2).toNat:=by omega
     subst this;rw [hy] at hz;cases hz;exact hyx⟩
   exact ⟨hn,by show ((i+j)/2-i).toNat<(j-i).toNat; omega,hn,hQ⟩
 ·have hij:¬ i<j:=hij;have hij':i=j:=by omega
  subst hij';have hc:cnt l x=i.toNat:=yne (fun k y hk hy=>h6 k y (by omega) hy) (fun k y hk hy=>h7 k y (by omega) hy) (by omega);rw [hc] at hQ;have:((i.toNat:Nat):Int)=i:=by omega
  rw [this] at hQ;exact hQ
theorem loopB:qf Tryz.prog (.loop (qrm Tryz.f223 0)) ptB.M ptB FB:=by
 refine qf.loop (n:=54) (id:=0) ys3 (inv:=fun x=>InvB x.1.1 x.1.2.1 x.1.2.2.2.1 x.1.2.2.2.2.1) (μ:=fun x=>(x.1.2.2.2.2.1-x.1.2.2.2.1).toNat) ?_ (fun x Q h=>h.1);rintro ⟨⟨l,x,n,i,j,_⟩,_⟩ hinv Q hq;exact ysv l x n i j hinv Q hq.2
theorem qew:{c:Code} -> {k:Nat} -> {b:Code}->ku c k=some b->k<zq c
 |.loop _,0,_,_=>ug6
 |.loop _,_+1,_,h=>by simp [ku] at h
 |.seq x y,k,b,h=>by
  simp only [ku] at h;simp only [zq];split at h
  ·omega
  ·have:=qew h;omega
 |.cond _ x y,k,b,h=>by
  simp only [ku] at h;simp only [zq];split at h
  ·omega
  ·have:=qew h;omega
 |.block _ c,k,b,h=>qew (c:=c) h
 |.scope c,k,b,h=>qew (c:=c) h
 |.skip,_,_,h=>by simp [ku] at h
 |.region _ _ _,_,_,h=>by simp [ku] at h
 |.ret,_,_,h=>by simp [ku] at h
 |.exit _,_,_,h=>by simp [ku] at h
 |.label _,_,_,h=>by simp [ku] at h
 |.goto _,_,_,h=>by simp [ku] at h
 |.rangeFunc _ _ _ _,_,_,h=>by simp [ku] at h
 |.refuse _,_,_,h=>by simp [ku] at h
theorem qly {E:Env} {Λ:Nat->St->Option Tr}:(c:Code)->(k:Nat)->(∀ i b,ku c i=some b->qfb Tryz.prog E b (Λ (k+i)))->jw Tryz.prog E Λ c k
 |.loop b,k,h=>h 0 b rfl
 |.seq x y,k,h=>⟨qly x k fun i b hb=>h i b (by simp only [ku]; rw [if_pos (qew hb)]; exact hb),qly y _ fun i b hb=>by
   have:=h (zq x+i) b (by simp only [ku]; rw [if_neg (by omega),udn]; exact hb)
   rwa [← uc4] at this⟩
 |.cond _ x y,k,h=>⟨qly x k fun i b hb=>h i b (by simp only [ku]; rw [if_pos (qew hb)]; exact hb),qly y _ fun i b hb=>by
   have:=h (zq x+i) b (by simp only [ku]; rw [if_neg (by omega),udn]; exact hb)
   rwa [← uc4] at this⟩
 |.block _ c,k,h=>qly c k h
 |.skip,_,_=>trivial
 |.ret,_,_=>trivial
 |.exit _,_,_=>trivial
 |.region _ _ _,_,_=>trivial
 |.label _,_,_=>trivial
 |.goto _,_,_=>trivial
 |.scope c,k,h=>qly c k h
 |.rangeFunc _ _ _ _,_,_=>trivial
 |.refuse _,_,_=>trivial
theorem zpx {E:Env} {Λ:Nat->St->Option Tr} {fn:Func} {c b:Code} (hc:fn.body=some c) (hn:(fn.body.map zq)=some 1) (hb:fn.body.bind (ku · 0)=some b) (h:qfb Tryz.prog E b (Λ 0)):jw Tryz.prog E Λ c 0:=by
 refine qly c 0 fun i b' hb'=>?_;have h1:=qew hb';rw [hc] at hn hb;simp only [udj,ua0] at hn;have hi:i=0:=by omega
 subst hi;simp only [uee] at hb;rw [hb] at hb';cases hb';exact h
def ΛB:Nat->St->Option Tr:=fun _=>ptB.han Γ2 ptB.M FB
def frS (x:qn [.d jg,.d i64]):Fr (qi [i64,.bool]):=
 Fr.need (InvB x.1 x.2.1 0 x.1.length)
  (Fr.need (decide ((cnt x.1 x.2.1:Int)<x.1.length)=true->0<=(cnt x.1 x.2.1:Int)/\(cnt x.1 x.2.1:Int)<x.1.length)
  (Fr.need ((x.1.getD (Int.toNat (cnt x.1 x.2.1:Int)) i64.dflt==x.2.1)=false->decide ((cnt x.1 x.2.1:Int)<x.1.length)=true->0<=(cnt x.1 x.2.1:Int)/\(cnt x.1 x.2.1:Int)<x.1.length)
   (Fr.val
    ((cnt x.1 x.2.1:Int),
     bif decide ((cnt x.1 x.2.1:Int)<x.1.length) then
      bif x.1.getD (Int.toNat (cnt x.1 x.2.1:Int)) i64.dflt==x.2.1 then true
      else
       bif (qja.f (x.1.getD (Int.toNat (cnt x.1 x.2.1:Int)) i64.dflt,())).1 then (qja.f (x.2.1,())).1 else false
     else false,
     ()))))
theorem zzd:qa Tryz.prog 223 ⟨[.d jg,.d i64],[i64,.bool],fun xs=>(frS xs).get,fun xs=>[(frS xs).ok]⟩:=
 qg zqu (Λ:=ΛB) (fn:=Tryz.f223) ([],0,()) (by kernel_rfl) (fun c E hc=>zpx hc (by kernel_rfl) (b:=qrm Tryz.f223 0) (by kernel_rfl) (qf.han zqu rfl loopB)) (fun xs=>by kernel_rfl)
end Go.Proofs.YtgieagiaagoogaaGreat
