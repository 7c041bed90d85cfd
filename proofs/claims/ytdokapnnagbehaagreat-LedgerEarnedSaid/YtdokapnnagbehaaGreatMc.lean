/-
  Parts of the proof, one behind the other.
-/
import Derived.Test.YtdokapnnagbehaaGreatMb
import Derived.Orders
import Derived.Scope
set_option linter.all false
set_option maxRecDepth 100000
set_option maxHeartbeats 4000000
open Option renaming some->U,none->V
open Bool renaming true->Z,false->Y
open Decidable renaming decide->J
open Go Go.RowKit
variable {T α σ ρ β:Type} {P:Program} {ad:Addr} {arr cs cur:Array Value} {f:FuncId} {x a y day:Int} {k:IntKind} {l:List Int} {xs vs news:List Value} {off i n b c d j B m len:Nat} {F F' K:Nat->Prop} {R g R':Nat->Value->Prop} {o:Oper} {p:Prop} {e ety t ty el:TypeId} {v u vx:Value} {w w' W' W:World}
namespace Go.Ab
open Go Go.RowKit
structure Env where
 w0:World
 F0:Nat->Prop
 G:Nat->Value
 D:List Deferred
 B:Nat
 hB:B<=w0.heap.size
section
variable {P:Program} {B:Nat} {o:Oper} {a:Act} {w w':World} {E:Env} {F F':Nat->Prop} {γ γ' γ0:Nat->Value} {M m:aT} {R:Nat->Value->Prop} {Γ:Gm}
def Wp{d:Tmp->Value}{c:Operand}{a:Bool}{x:AV}(f:∀ t,c=.tmp t->d t=.bool a)(h:i7 P w F R d x u):i7 P w F R d (Ev c a x) u:=by
 unfold Ev;split;rename_i g w0 v;split;rename_i t;split;rename_i b;obtain⟨rfl,rfl⟩:=b;have e:=h (f g rfl);cases v<;>first|exact e|exact e.elim
 exact h;exact h;exact h
def qwe{p:Bool}{x y v:AV}(h:yA p x y=U v):fX x=Z/\fX y=true:=by
 unfold yA at h;split at h<;>first|exact⟨rfl,rfl⟩|cases h
def Hi(q:kN P Γ){G:Op}{vs:List AV}{e:Eff}(u:o.op=G)(s:MemOK P B w F γ M)(r:∀ b,F b->b<w.heap.size)(H:B<=w.heap.size)(k:∀ i y,m i=U y->M i=U y)(K:m d=V->M d=V)(j:Bg P Γ d G vs m=U e)(L:av e.need)(A:nV P w F (ap M γ) (λg=>a.tmps.getD g undef) vs (G.operands.toList.map a.eval)):sV P B o a w F γ M e.v e.wr:=by
 unfold Bg at j;split at j;rename_i c W bo;split at j<;>try trivial
 rename_i p x y;split at j<;>try trivial
 rename_i v N;cases j;obtain⟨f,Q,R,_⟩:=A;obtain⟨_,f⟩:=f;simp only[bc]at f;obtain⟨S,T⟩:=qwe N;have n:∀ h,p=h->∀ t,c=.tmp t->a.tmps.getD t undef=.bool h:=by
  rintro h rfl t rfl;exact f
 have D:=λz=>(Wp (n Z z) Q).plain S;have E:=λz=>(Wp (n Y z) R).plain T;have C:=qwf N D E;refine dl s r ?_ C;unfold execOp;rw[u];simp[f,asBool];split at j<;>try trivial
 rename_i l;split at j;rename_i O;cases j;exact qeg q u s r H k K O L (A.plain l);exact qef q u s r H k K j L (A.plain l)
def dP(P:Program)(w:World)(F:Nat->Prop)(R:Nat->Value->Prop)(b:Tmp->Value):AV->Value->Prop
 |.maybe g a v,u=>(b g=.bool a->aE P w F R v u)/\(b g ≠ .bool a->u=undef)
 |v,u=>aE P w F R v u
def dP.toM{a:Tmp->Value}{x:AV}(h:dP P w F R a x u):i7 P w F R a x u:=by
 cases x<;>first|exact h|exact h.1
def dP.mono{i:Tmp->Value}{x:AV}(d:∀ b,F b->F' b)(f:∀ b,F b->w'.heap[b]?= w.heap[b]?)(e:∀ id v,R id v->R' id v)(h:dP P w F R i x u):dP P w' F' R' i x u:=by
 cases x with
 |maybe g j v=>exact⟨λk=>aE.mono d f e v (h.1 k),h.2⟩
 |dead=>trivial
 |c a=>exact aE.mono d f e (.c a) h
 |agg cs=>exact aE.mono d f e (.agg cs) h
 |tup vs=>exact aE.mono d f e (.tup vs) h
 |optr _ _ _ _=>exact aE.mono (P:=P) d f e (.optr _ _ _ _) h
 |aptr _ _ _=>exact aE.mono d f e (.aptr _ _ _) h
structure InvG (P:Program) (E:Env) (st:St) (a:Act) (w:World) (W:List Tmp) (F:Nat->Prop) (γ:Nat->Value):Prop where
 n:a.tmps.size=st.n
 df:a.defers=E.D
 step:∃ γ0,Step E.B E.w0 E.F0 γ0 (λ_=>none) w F γ st.mem
 mem:MemOK P E.B w F γ st.mem
 sl:∀ t,dP P w F (ap st.mem γ) (λg=>a.tmps.getD g undef) (st.sl t) (a.tmps.getD t undef)
 hg:∀ t g want v,st.sl t=.maybe g want v->g∈W
 gh:∀ t,aE P w F (ap st.mem γ) (st.gs t) (E.G t)
def Rp{o:Nat->AV}{i:Tmp->Value}(h:∀ t,dP P w F R i (o t) (i t)):(n:Nat) -> {g:Tmp} -> {a:Bool} -> {m:List (Tmp×Bool×Bool)}->nh o n g a=U m->i g=.bool a ->
  ∀ x∈m,i x.1=.bool x.2.1/\x.2.2=x.2.1
 |0,_,_,_,d,_=>by simp[nh]at d
 |n+1,g,a,m,d,j=>by
  have k:=h g;unfold nh at d;split at d<;>try trivial
  rename_i b e;cases d;rw[e]at k;have:i g=.bool b:=k.2;rw[j]at this;cases this;intro x f;simp at f;subst f;exact⟨j,rfl⟩;rename_i p w0 b e;split at d<;>try trivial
  rename_i l q;cases d;rw[e]at k;by_cases c:i p=.bool w0;have:=(k.1 c).2;rw[j]at this;cases this;intro x f;rcases uei.1 f with rfl|f
  exact⟨j,rfl⟩;exact Rp h n q c x f;have:=k.2 c;rw[j]at this;simp[undef]at this
def zck{a:List (Tmp×Bool×Bool)}(h:a.foldr (λx q=>x.2.2=x.2.1->q) p)(b:∀ x∈a,x.2.2=x.2.1):p:=by
 induction a with
 |nil=>exact h
 |cons x a d=>exact d (h (b x (by simp))) (λy c=>b y (by simp[c]))
def zcj{b:List (Tmp×Bool×Bool)}{a:List Prop}(h:av (L4 b a))(d:∀ x∈b,x.2.2=x.2.1):av a:=by
 induction a with
 |nil=>trivial
 |cons p a e=>
  have c:av (b.foldr (λx q=>x.2.2=x.2.1->q) p::L4 b a):=h;rw[je]at c |-;exact⟨zck c.1 d,e c.2⟩
def zcm{b:Tmp->Value}{c:List (Tmp×Bool×Bool)}{x:AV}(i:∀ x∈c,b x.1=.bool x.2.1)(h:i7 P w F R b x u):i7 P w F R b (pZ c x) u:=by
 unfold pZ;split;rename_i g f v;split;rename_i a;obtain⟨y,j,d⟩:=List.any_eq_true.1 a;simp at d;obtain⟨rfl,rfl⟩:=d;have e:=h (i y j);cases v<;>first|exact e|exact e.elim
 exact h;exact h
def Du(a:Act)(d:Option Tmp)(v:Value)(t:Tmp)(b:∀ x,d=U x->x<a.tmps.size):(a.put d v).tmps.getD t undef=if d=U t then v else a.tmps.getD t undef:=by
 cases d with
 |none=>simp[Act.put]
 |some x=>
  have c:=b x rfl;by_cases h:x=t;subst h;simp[Act.put,c];have:(U x=U t)=False:=by simp[h]
  simp only[Act.put,this];simp[uaa h]
def Br{b:Nat->AV}(h:∀ t,dP P w F R (λg=>a.tmps.getD g undef) (b t) (a.tmps.getD t undef))(x:Operand):i7 P w F R (λg=>a.tmps.getD g undef) (gC b x) (a.eval x):=by
 cases x with
 |tmp t=>exact(h t).toM
 |const v=>
  have:=tf (P:=P) (w:=w) (F:=F) (R:=R) v;show i7 _ _ _ _ _ (lu v) v;unfold lu at *;split;split<;>simp_all[i7]
  trivial
  simp_all[i7]
 |global g=>trivial
 |func f=>exact⟨rfl,#[],rfl,rfl,uT⟩
def oH{b:Nat->AV}(h:∀ t,dP P w F R (λg=>a.tmps.getD g undef) (b t) (a.tmps.getD t undef)):(xs:List Operand)->nV P w F R (λg=>a.tmps.getD g undef) (xs.map (gC b)) (xs.map a.eval)
 |[]=>trivial
 |x::r=>⟨Br h x,oH h r⟩
def PK{d:Nat->AV}{b:List (Tmp×Bool×Bool)}(c:∀ x∈b,a.tmps.getD x.1 undef=.bool x.2.1)(h:∀ t,dP P w F R (λg=>a.tmps.getD g undef) (d t) (a.tmps.getD t undef)):
  (xs:List Operand)->nV P w F R (λg=>a.tmps.getD g undef) (xs.map λx=>pZ b (gC d x)) (xs.map a.eval)
 |[]=>trivial
 |x::r=>⟨zcm c (Br h x),PK c h r⟩
def yV(a:Nat->AV)(d:Option Tmp)(v:AV)(t:Nat):e8 a d v t=if d=U t then v else a t:=by
 cases d with
 |none=>simp[e8]
 |some x=>
  by_cases h:t=x;subst h;simp[e8];simp[e8,h,Ne.symm h]
def lJ{e:St}{W:List Tmp}{d:Option Tmp}{v:AV}{wr:List (Nat×Ob)}(hi:InvG P E e a w W F γ)(p:∀ x,d=U x->x<e.n/\x ∉ W)(i:Step E.B w F γ e.mem w' F' γ' (ax e.mem wr))(C:MemOK P E.B w' F' γ' (ax e.mem wr))(D:dP P w' F' (ap (ax e.mem wr) γ') (λg=>a.tmps.getD g undef) v u)(k:∀ g b y,v=.maybe g b y->g∈W):
  InvG P E ⟨e.n,e8 e.sl d v,ax e.mem wr,e.gs⟩ (a.put d u) w' (d.toList++W) F' γ':=by
 have f:=λt=>Du a d u t (λx o=>by rw[hi.n];exact(p x o).1);have m:∀ g,g∈W->(a.put d u).tmps.getD g undef=a.tmps.getD g undef:=λg A=>by
  rw[f,ufw];intro s;exact(p g s).2 A
 have c:∀ (x:AV) (y:Value),(∀ g b z,x=.maybe g b z->g∈W)->dP P w' F' (ap (ax e.mem wr) γ') (λg=>a.tmps.getD g undef) x y->dP P w' F' (ap (ax e.mem wr) γ') (λg=>(a.put d u).tmps.getD g undef) x y:=by
  intro x y o h;cases x with
  |maybe g b z=>
   have:=m g (o g b z rfl);exact⟨λl=>h.1 (this.symm.trans l),λl=>h.2 (λr=>l (this.trans r))⟩
  |_=>exact h
 refine⟨?_,?_,?_,C,λt=>?_,λt g b z j=>?_,λt=>i.repA (hi.gh t)⟩;show(a.put d u).tmps.size=e.n;rw[<- hi.n];cases d<;>simp[Act.put]
 rw[<- hi.df];cases d<;>rfl
 obtain⟨γ0,q⟩:=hi.step;exact⟨γ0,q.trans i⟩;rw[f];simp only[yV];by_cases h:d=U t;rw[ufv h,ufv h];exact c v u k D;rw[ufw h,ufw h];exact c _ _ (hi.hg t) ((hi.sl t).mono i.hF i.hw i.hR);simp only[yV]at j;by_cases h:d=U t;rw[ufv h]at j;exact ua6 _ (k g b z j);rw[ufw h]at j;exact ua6 _ (hi.hg t g b z j)
def nM{b:St}{W:List Tmp}(hi:InvG P E b a w W F γ):E.B<=w.heap.size:=by
 obtain⟨γ0,h⟩:=hi.step;exact ueo E.hB h.size
def dv{c:St}{W:List Tmp}(hi:InvG P E c a w W F γ):∀ b,F b->b<w.heap.size:=by
 obtain⟨γ0,h⟩:=hi.step;exact h.bd
def JQ(N:kN P Γ){ops:Array Oper}{t:St}{W:List Tmp}{e:Ef}{bs:Nat}(hi:InvG P E t a w W F γ)(l:dY P Γ bs ops.toList o t.sl t.mem=U e)(hn:av e.need)(S:∀ x,o.dst=U x->x<t.n/\x ∉ W)(T:∀ j b g,o.guard=U (j,b)->(ops[j]?).bind (·.dst)=U g->g∈W)(K:Act->World->Prop)(Q:Exit->Act->World->Prop)(R:∀ a' w' F' γ',InvG P E (e.go t) a' w' (o.dst.toList++W) F' γ'->K a' w'):
  if Region.wanted o (yielded ops a.tmps)then o.wp P a w K Q else K (a.put o.dst undef) w:=by
 have p:∀ (O:List Nat) (i:Nat) (y:Ob),jq O t.mem i=U y->t.mem i=U y:=by
  intro O i y h;unfold jq at h;split at h;exact h;cases h
 have M:∀ (O:List Nat) (d:Nat),jq (d::O) t.mem d=V->t.mem d=none:=by
  intro O d h;unfold jq at h;simpa using h
 unfold dY at l;split at l
 rename_i m;have D:Region.wanted o (yielded ops a.tmps)=true:=by simp[Region.wanted,m]
 rw[ufv D];simp only at l;split at l<;>try trivial
 rename_i H f;cases l;have c:=Hi N rfl hi.mem (dv hi) (nM hi) (p _) (M _ _) f hn (oH hi.sl _);refine c K Q λu w' F' γ' hs hm C=>R _ w' F' γ' ?_;have s:fX H.v=true:=by
  cases q:H.v with
  |maybe _ _ _=>rw[q]at C;exact C.elim
  |_=>rfl
 refine lJ hi S hs hm ?_ (λg b y q=>by have hv':H.v=_:=q;rw[hv']at s;cases s);cases q:H.v with
 |maybe _ _ _=>rw[q]at s;cases s
 |_=>rw[q]at C;exact C
 rename_i j b m;split at l<;>try trivial
 rename_i g hg;have L:(ops[j]?).bind (·.dst)=U g:=by simpa using hg
 have A:=T j b g m L;have k:(yielded ops a.tmps j==U b)=Z↔a.tmps.getD g undef=.bool b:=by
  unfold yielded;rw[L];simp;cases G:a.tmps[g]? with
  |none=>simp[G,undef]
  |some y=>
   simp only[uac,G,udd];cases y<;>simp
 split at l<;>try trivial
 rename_i gs hgs;simp only at l;split at l<;>try trivial
 rename_i H f;split at l<;>try trivial
 rename_i hwr;cases l;by_cases D:Region.wanted o (yielded ops a.tmps)=Z;rw[ufv D];have r:=k.1 (by simpa[Region.wanted,m]using D);have z:=Rp hi.sl 5 hgs r;have B:=zcj hn (λx G=>(z x G).2);have c:=Hi N rfl hi.mem (dv hi) (nM hi) (p _) (M _ _) f B (PK (λx G=>(z x G).1) hi.sl _);rw[hwr]at c;refine c K Q λu w' F' γ' hs hm C=>R _ w' F' γ' ?_;exact lJ hi S hs hm ⟨λ_=>C,λh=>absurd r h⟩ (λg' w'' y q=>by cases q;exact A);rw[ufw D];have r:=λh=>D (by simpa[Region.wanted,m]using k.2 h);refine R _ w F γ (lJ hi S (Step.refl (dv hi)) hi.mem ⟨λh=>absurd h r,λ_=>rfl⟩ (λg' w'' y q=>by cases q;exact A))
end
section
variable {P:Program} {B:Nat} {o:Oper} {a:Act} {w w':World} {E:Env} {F F':Nat->Prop} {b:Nat} {γ γ' γ0:Nat->Value} {M m:aT} {R:Nat->Value->Prop} {Γ:Gm}
def VU{a:Op}{t:Tmp}(h : .tmp t∈a.operands.toList):t∈wh a:=ub9.2 ⟨.tmp t,h,rfl⟩
def PM{c a:Nat->AV}{b:Op}(h:∀ t∈wh b,a t=c t):b.operands.toList.map (gC a)=b.operands.toList.map (gC c):=
 List.map_congr_left λx d=>by
  cases x with
  |tmp t=>exact h t (VU d)
  |_=>rfl
def Ro{i c:Nat->AV}:(n:Nat) -> {g:Tmp} -> {a:Bool} -> {d:List (Tmp×Bool×Bool)}->nh i n g a=U d->(∀ t∈d.map (·.1),c t=i t)->nh c n g a=U d
 |0,_,_,_,h,_=>by simp[nh]at h
 |n+1,g,a,d,h,f=>by
  unfold nh at h |-;split at h<;>try trivial
  rename_i b e;cases h;rw[f g (by simp),e];rename_i m w0 b e;split at h<;>try trivial
  rename_i l j;cases h;rw[f g (by simp),e];simp only;rw[Ro n j (λt k=>f t (by simp only[uek,uei];exact .inr k))]
def qkx{A C:Type}{l:List A}{f g:A->List C}(h:∀ i∈l,f i=g i):l.flatMap f=l.flatMap g:=by
 induction l with
 |nil=>rfl
 |cons x l a=>rw[List.flatMap_cons,List.flatMap_cons,h x (by simp),a (λi hi=>h i (ubj _ hi))]
def Sj{a:Op}{vs:List AV}{m m':aT}(h:∀ k∈uw a vs m,m' k=m k):uw a vs m'=uw a vs m:=by
 unfold uw at *;split;rename_i b;refine uft (List.flatMap uh vs ++ ·) (qkx λi hi=>?_);rw[h i (ubk _ hi)];rfl;rfl
def U4{a:List Nat}{m m':aT}(h:∀ k∈a,m' k=m k):jq a m'=jq a m:=by
 funext i;unfold jq;split;rename_i b;exact h i (by simpa using b);rfl
def P2{ops:List Oper}{i d:Nat->AV}{m m':aT}{e:Ef}(c:dY P Γ b ops o i m=U e)(q:∀ t∈e.rd,d t=i t)(h:∀ k∈e.ks,m' k=m k):dY P Γ b ops o d m'=U e:=by
 unfold dY at c |-;split at c;rename_i n;simp only at c |-;split at c<;>try trivial
 rename_i u a;cases c;have l:=PM q;rw[l,Sj (λk f=>h k (ubj _ f)),U4 h,a];rename_i j s n;split at c<;>try trivial
 split at c<;>try trivial
 rename_i g p;simp only at c;split at c<;>try trivial
 rename_i u a;split at c<;>try trivial
 rename_i r;cases c;rw[Ro 5 p (λt v=>q t (ubk _ v))];simp only;have l:(o.op.operands.toList.map λx=>pZ g (gC d x))=(o.op.operands.toList.map λx=>pZ g (gC i x)):=
  List.map_congr_left λx w=>by
   cases x with
   |tmp t=>show pZ g (d t)=pZ g (i t);rw[q t (ua6 _ (VU w))]
   |_=>rfl
 rw[l,Sj (λk f=>h k (ubj _ f)),U4 h,a];simp only[r]
def Wt{u:List (Nat×Ob)}{k:Nat}(h:∀ x∈u,x.1≠k)(M:aT):ax M u k=M k:=by
 induction u generalizing M with
 |nil=>rfl
 |cons x u b=>
  obtain⟨id,c⟩:=x;simp only[ax];rw[b (λy a=>h y (ubj _ a)),fa _ _ (Ne.symm (h (id,c) (by simp)))]
def zcn{x y:Ob}(h:i≠j)(M:aT):upd (upd M i x) j y=upd (upd M j y) i x:=by
 funext k;unfold upd;by_cases a:k=i<;>by_cases b:k=j<;>simp_all
def zcr{u:List (Nat×Ob)}{x:Ob}(h:∀ y∈u,i≠y.1)(M:aT):ax (upd M i x) u=upd (ax M u) i x:=by
 induction u generalizing M with
 |nil=>rfl
 |cons y u b=>
  obtain⟨id,c⟩:=y;simp only[ax];rw[zcn (h (id,c) (by simp)),b (λz a=>h z (ubj _ a))]
def zcq{u v:List (Nat×Ob)}(h:∀ x∈u,∀ y∈v,x.1≠y.1)(M:aT):ax (ax M u) v=ax (ax M v) u:=by
 induction u generalizing M with
 |nil=>rfl
 |cons x u c=>
  obtain⟨id,d⟩:=x;simp only[ax];rw[c (λy a z b=>h y (ubj _ a) z b),zcr (λy a=>h (id,d) (by simp) y a)]
def Cn{e f:Ef}(h:zl3 e f=Z):(∀ t,e.dst=U t->t ∉ f.rd/\f.dst≠U t)/\(∀ t,f.dst=U t->t ∉ e.rd) /\
  (∀ x∈e.wr,x.1 ∉ f.ks)/\(∀ x∈e.wr,∀ y∈f.wr,x.1≠y.1)/\∀ y∈f.wr,y.1 ∉ e.ks:=by
 unfold zl3 at h;simp only[udc]at h;obtain⟨⟨⟨d,g⟩,i⟩,j⟩:=h;refine⟨λt a=>?_,λt a=>?_,λx b=>?_,λx b y c=>?_,λy c=>?_⟩;rw[a]at d;simpa using d;rw[a]at g;simpa using g;have:=uc8.1 i x b;simp at this;simpa using this.1;have:=uc8.1 i x b;simp only[udc]at this;have:=uc8.1 this.2 y c;simpa using this;have:=uc8.1 j y c;simpa using this
def qz0(a:Nat->AV){d e:Option Tmp}{x y:AV}(h:∀ t,d=U t->e≠U t):e8 (e8 a d x) e y=e8 (e8 a e y) d x:=by
 funext t;simp only[yV];by_cases b:d=U t<;>by_cases c:e=U t<;>simp_all
def QS{e f:Ef}(h:zl3 e f=Z)(s:St):f.go (e.go s)=e.go (f.go s):=by
 obtain⟨a,d,g,b,i⟩:=Cn h;unfold Ef.go;simp only[St.mk.injEq,true_and];exact⟨qz0 _ (λt c=>(a t c).2),zcq b _,uT⟩
def P0{ops:List Oper}{e f:Ef}{s:St}(h:zl3 e f=Z)(g:dY P Γ b ops o (e.go s).sl (e.go s).mem=U f):dY P Γ b ops o s.sl s.mem=U f:=by
 obtain⟨c,m,d,n,p⟩:=Cn h;refine P2 g (λt j=>?_) (λk i=>?_);simp only[Ef.go,yV];rw[ufw (λa=>(c t a).1 j)];simp only[Ef.go];exact(Wt (λx l a=>d x l (a ▸ i)) _).symm
def P1{ops:List Oper}{e f:Ef}{s:St}(h:zl3 e f=Z)(g:dY P Γ b ops o s.sl s.mem=U e):dY P Γ b ops o (f.go s).sl (f.go s).mem=U e:=by
 obtain⟨m,c,n,p,d⟩:=Cn h;refine P2 g (λt j=>?_) (λk i=>?_);simp only[Ef.go,yV];rw[ufw (λa=>c t a j)];simp only[Ef.go];exact Wt (λx l a=>d x l (a ▸ i)) _
end
section
variable {P:Program} {w w':World} {E:Env} {F F':Nat->Prop} {b:Nat} {γ γ' γ0:Nat->Value} {Γ:Gm} {ops:Array Oper} {es:List Ef}
structure StatOK (n:Nat) (ops:Array Oper):Prop where
 lt:∀ (i:Nat) (o:Oper) (t:Nat),ops[i]?= some o->o.dst=some t->t<n
 once:∀ (i j:Nat) (o o':Oper) (t:Nat),ops[i]?= some o->ops[j]?= some o'->o.dst=some t->o'.dst=some t->i=j
 guard:∀ (i:Nat) (o:Oper) (j:Nat) (want:Bool),ops[i]?= some o->o.guard=some (j,want)->j<i/\∃ e∈o.after,e.on=j/\Region.binds .any e=true
 back:∀ (i:Nat) (o:Oper),ops[i]?= some o->∀ e∈o.after,Region.binds .any e=true->e.on<i
def Vz:(l:List Oper)->(k:Nat)->(W:List Tmp)->pM n k W l=Z->∀ (i:Nat) (o:Oper),l[i]?= U o ->
  (∀ t,o.dst=U t->t<n/\t ∉ W/\∀ (g:Nat) (u:Oper),g<i->l[g]?= U u->u.dst≠U t) /\
  (∀ j d,o.guard=U (j,d)->j<k+i/\∃ e∈o.after,e.on=j/\Region.binds .any e=Z) /\
  (∀ e∈o.after,Region.binds .any e=Z->e.on<k+i)
 |[],_,_,_,i,o,h=>by simp at h
 |x::r,k,W,A,i,o,h=>by
  simp only[pM,udc]at A;obtain⟨⟨⟨s,v⟩,E⟩,F⟩:=A;cases i with
  |zero=>
   simp at h;subst h;refine⟨λt z=>?_,λj d w=>?_,λe p m=>?_⟩;rw[z]at s;simp at s;exact⟨s.1,s.2,λg _ q=>absurd q (Nat.not_lt_zero _)⟩;rw[w]at v;simp only[udc,ucu,List.any_eq_true,ufh]at v;obtain⟨a,e,p,m⟩:=v;exact⟨a,e,ubh.1 p,m⟩;have:=uc8.1 E e (ubh.2 p);rw[m]at this;simpa using this
  |succ i=>
   obtain⟨B,C,D⟩:=Vz r (k+1) _ F i o h;refine⟨λt z=>?_,λj d w=>?_,λe p m=>?_⟩;obtain⟨a,b,c⟩:=B t z;refine⟨a,λy=>b (ua6 _ y),λg u q f=>?_⟩;cases g with
   |zero=>
    simp at f;subst f;intro y;exact b (ubk _ (by simp[y]))
   |succ g=>
    exact c g u (by omega) f
   obtain⟨a,b⟩:=C j d w;exact⟨by omega,b⟩;have:=D e p m;omega
def DH(h:pM n 0 [] ops.toList=Z):StatOK n ops:=by
 have d:=Vz ops.toList 0 [] h;have a:∀ (i:Nat) (o:Oper),ops[i]?= U o->ops.toList[i]?= U o:=λi o b=>by simpa using b
 refine⟨λi o t b k=>((d i o (a i o b)).1 t k).1,λi j o l t b c k f=>?_,λi o j g b u=>?_,λi o b e s r=>?_⟩;rcases uct i j with q|m|p
 exact absurd k (((d j l (a j l c)).1 t f).2.2 i o q (a i o b));exact m;exact absurd f (((d i o (a i o b)).1 t k).2.2 j l p (a j l c));have:=(d i o (a i o b)).2.1 j g u;exact⟨by omega,this.2⟩;have:=(d i o (a i o b)).2.2 e s r;omega
def fh(P:Program)(Γ:Gm)(b:Nat)(ops:Array Oper)(es:List Ef)(a:St):List Nat->St->Prop
 |[],s=>s=a
 |i::r,s=>∃ o e,ops[i]?= U o/\es[i]?= U e/\dY P Γ b ops.toList o s.sl s.mem=U e/\fh P Γ b ops es a r (e.go s)
def UW{j:St}:(l:List Oper)->(k:Nat)->(s:St)->(c:List Ef)->pE P Γ b ops.toList l s=U (c,j)->(∀ i o,l[i]?= U o->ops[k+i]?= U o) ->
  (∀ i e,c[i]?= U e->es[k+i]?= U e)->fh P Γ b ops es j (List.range' k l.length) s
 |[],k,s,c,h,_,_=>by
  simp only[pE,ucl,ueg]at h;exact h.2
 |o::r,k,s,c,h,g,f=>by
  simp only[pE]at h;split at h<;>try trivial
  rename_i e a;split at h<;>try trivial
  rename_i d q n;cases h;refine⟨o,e,by simpa using g 0 o rfl,by simpa using f 0 e rfl,a,?_⟩;refine UW r (k+1) _ d n (λi p hi=>?_) (λi m hi=>?_);have:=g (i+1) p (by simpa using hi)
  rwa [show k+1+i=k+(i+1) by omega]
  have:=f (i+1) m (by simpa using hi)
  rwa [show k+1+i=k+(i+1) by omega]
def yq:{l:List Nat}->l.Pairwise (· < ·)->l.Nodup
 |[],_=>List.Pairwise.nil
 |x::r,h=>by
  obtain⟨a,b⟩:=uca.1 h;exact uca.2 ⟨λy c=>Nat.ne_of_lt (a y c),yq b⟩
def QJ{z:St}:(c:List Nat)->(s:St)->fh P Γ b ops es z c s->c.Pairwise (· < ·)->j∈c ->
  (∀ i∈c,i<j->∀ e f,es[i]?= U e->es[j]?= U f->zl3 e f=Z) ->
  ∃ o f,ops[j]?= U o/\es[j]?= U f/\dY P Γ b ops.toList o s.sl s.mem=U f/\fh P Γ b ops es z (c.erase j) (f.go s)
 |[],_,_,_,q,_=>by simp at q
 |i::r,s,C,y,q,hi=>by
  obtain⟨o,e,x,p,d,n⟩:=C;by_cases g:i=j;subst g;refine⟨o,e,x,p,d,?_⟩;rw[ubl];exact n
  ·have m:j∈r:=by
    rcases uei.1 q with h|h
    exact absurd h.symm g;exact h
   have u:=(uca.1 y).1 j m;obtain⟨D,f,v,l,A,w⟩:=QJ r (e.go s) n (uca.1 y).2 m (λk B t=>hi k (ubj _ B) t);have a:=hi i (by simp) u e f p l;refine⟨D,f,v,l,P0 a A,?_⟩;rw[List.erase_cons_tail (by simpa using g)];refine⟨o,e,x,p,P1 a d,?_⟩;rw[<- QS a];exact w
def nU(P:Program)(E:Env)(Γ:Gm)(b:Nat)(ops:Array Oper)(es:List Ef)(e:St)(c:List Nat)(a:Act)(w:World):Prop:=
 ∃ d W F γ,InvG P E d a w W F γ/\(∀ t,t∈W↔∃ k o,ops[k]?= U o/\k ∉ c/\o.dst=U t)/\fh P Γ b ops es e c d/\d.n=e.n
def Uv(hΓ:kN P Γ){s':St}{c:List Nat}{a:Act}(hi:nU P E Γ b ops es s' c a w)(hj:j∈c)(hp:c.Pairwise (· < ·))(p:∀ i∈c,i<j->∀ e f,es[i]?= U e->es[j]?= U f->zl3 e f=Z)(q:∀ o A l,ops[j]?= U o->o.guard=U (A,l)->A ∉ c)(G:StatOK s'.n ops)(s:∀ e∈es,av e.need)(K:Act->World->Prop)(Q:Exit->Act->World->Prop)(hK:∀ H w',nU P E Γ b ops es s' (c.erase j) H w'->K H w'):wpOp P ops Q j K a w:=by
 obtain⟨st,W,F,γ,D,N,v,hn⟩:=hi;obtain⟨o,f,z,hf,C,hr⟩:=QJ c st v hp hj p;have O:=yq hp;unfold wpOp;rw[z];simp only;have key:=JQ hΓ D C (s f (ubg hf)) (λx hx=>⟨by rw[hn];exact G.lt j o x z hx,λT=>by
   obtain⟨k,ok,R,M,y⟩:=(N x).1 T;have:=G.once j k o ok x z R hx y;subst this;exact M hj⟩)
  (λA l g hg y=>by
   have m:=q o A l z hg;cases u:ops[A]? with
   |none=>rw[u]at y;cases y
   |some o'=>
    rw[u]at y;exact(N g).2 ⟨A,o',u,m,y⟩)
  K Q (λH w' F' γ' r=>hK H w' ⟨f.go st,_,F',γ',r,λt=>?_,hr,hn⟩)
 split;rename_i S;rw[ufv S]at key;exact .inl key;rename_i S;rw[ufw S]at key;exact key;have d:∀ k,k ∉ c.erase j↔k=j\/k ∉ c:=λk=>by
  rw[O.mem_erase_iff];constructor;intro h;by_cases M:k=j;exact .inl M;exact .inr λh'=>h ⟨M,h'⟩;rintro(h|h) ⟨m,B⟩;exact m h;exact h B
 rw[uds,N];constructor;rintro(h|⟨k,ok,m,B,L⟩);exact⟨j,o,z,(d j).2 (.inl rfl),by simpa using h⟩;exact⟨k,ok,m,(d k).2 (.inr B),L⟩;rintro⟨k,ok,m,B,L⟩;rcases(d k).1 B with rfl|h
 rw[z]at m;cases m;exact .inl (by simp[L]);exact .inr ⟨k,ok,m,h,L⟩
def TS{l:List Nat}(h:l.Pairwise (· < ·))(j:Nat):(l.erase j).Pairwise (· < ·):=h.sublist List.erase_sublist
def Uw(g:kN P Γ){l:St}(d:StatOK l.n ops)(c:∀ e∈es,av e.need)(Q:Exit->Act->World->Prop)(q:∀ a w,nU P E Γ b ops es l [] a w->Q .normal a w):
  (m k:Nat)->∀ (a:Act) (w:World),nU P E Γ b ops es l (List.range' k m) a w->wpOps P ops Q (List.range' k m) a w
 |0,k,a,w,h=>q a w h
 |m+1,k,a,w,h=>by
  rw[ude]at h;have v:(k::List.range' (k+1) m).Pairwise (· < ·):=by
   rw[<- ude];exact uaw
  refine Uv g h (by simp) v (λi hi t=>?_) (λo x j u s f=>?_) d c _ Q (λr w' p=>?_);rw[<- ude,ucw]at hi;omega;have:=(d.guard k o x j u s).1;rw[<- ude,ucw]at f;omega;rw[ubl]at p;exact Uw g d c Q q m (k+1) r w' p
def JA:(l:List Oper)->(a:List Nat)->(∀ i,i<a.length->(fW a l)[i]?= a[i]?) /\
  ∀ i o,l[i]?= U o->∃ m,(fW a l)[a.length+i]?= U m/\∀ b,m.testBit b=Z->∃ e∈o.after,Region.binds .any e=Z/\(b=e.on\/((fW a l).getD e.on 0).testBit b=Z)
 |[],a=>⟨λi hi=>rfl,λi o h=>by simp at h⟩
 |x::r,a=>by
  simp only[fW];generalize A:x.after.toList.foldr (λe s=>if Region.binds .any e then 2 ^ e.on ||| a.getD e.on 0 ||| s else s) 0=m;obtain⟨q,u⟩:=JA r (a++[m]);have c:∀ i,i<a.length->(fW (a++[m]) r)[i]?= a[i]? := λi hi=>by
   rw[q i (by simp;omega),uaj hi]
  refine⟨c,λi o p=>?_⟩;cases i with
  |zero=>
   simp at p;subst p;refine⟨m,by rw[uey,q a.length (by simp)];simp,λb y=>?_⟩;have f:∀ (l:List Edge) , (∀ e∈l,e∈x.after)->(l.foldr (λe s=>if Region.binds .any e then 2 ^ e.on ||| a.getD e.on 0 ||| s else s) 0).testBit b=Z ->
     ∃ e∈x.after,Region.binds .any e=Z/\(b=e.on\/((fW (a++[m]) r).getD e.on 0).testBit b=Z):=by
    intro l
    induction l with
    |nil=>intro _ h;simp at h
    |cons e l t=>
     intro j h;simp only[List.foldr_cons]at h;split at h;rename_i g;simp only[Nat.testBit_or,Nat.testBit_two_pow,udt,ucu]at h;rcases h with (h|h)|h
     exact⟨e,j e (by simp),g,.inl h.symm⟩;refine⟨e,j e (by simp),g,.inr ?_⟩;by_cases n:e.on<a.length;rw[uah,c _ n,<- uah];exact h;rw[uah,ua4 (by omega)]at h;simp at h;exact t (λk d=>j k (ubj _ d)) h;exact t (λk d=>j k (ubj _ d)) h
   exact f x.after.toList (λe z=>ubh.1 z) (by rw[A];exact y)
  |succ i=>
   obtain⟨m',v,w⟩:=u i o p;refine⟨m',?_,w⟩;rw[ub6,ua7]at v
   rwa [show a.length+(i+1)=a.length+1+i by omega]
def zq7{k a:Nat}{f:Ef}:(l:List Ef)->(i0:Nat)->CX k a f i0 l=Z->∀ i e,l[i]?= U e->i0+i<k->a.testBit (i0+i)=Z\/zl3 e f=Z
 |[],_,_,i,e,h,_=>by simp at h
 |x::r,i0,b,i,e,h,c=>by
  simp only[CX]at b;rw[ufv (by omega)]at b;simp at b;cases i with
  |zero=>
   simp at h;subst h;exact b.1
  |succ i=>
   have:=zq7 r (i0+1) b.2 i e h (by omega)
   rwa [show i0+(i+1)=i0+1+i by omega]
def TA(h:r9 ops.toList es=Z){e f:Ef}(hi:es[i]?= U e)(b:es[j]?= U f)(c:i<j):
  ((fW [] ops.toList).getD j 0).testBit i=Z\/zl3 e f=true:=by
 unfold r9 at h;have:=uc8.1 h j (ud9.2 (uak.1 b).1);rw[b]at this;cases a:(fW [] ops.toList)[j]? with
 |none=>rw[a]at this;cases this
 |some m=>
  rw[a]at this;have:=zq7 es 0 this i e hi (by omega);rw[uah,a];simpa using this
def Uu(hΓ:kN P Γ){s':St}(B:StatOK s'.n ops)(z:∀ e∈es,av e.need)(D:r9 ops.toList es=Z)(Q:Exit->Act->World->Prop)(hQ:∀ a w,nU P E Γ b ops es s' [] a w->Q .normal a w):
  (g:Nat)->∀ (q:List Nat) (c:Array Bool) (a:Act) (w:World),q.length<=g->q.Pairwise (· < ·)->c.size=ops.size->(∀ i,i<ops.size->(c.getD i Z=Y↔i∈q))->(∀ i∈q,i<ops.size) ->
   (∀ k,k<ops.size->k ∉ q->∀ i,((fW [] ops.toList).getD k 0).testBit i=Z->i ∉ q)->nU P E Γ b ops es s' q a w->wpAny P .any ops Q g c a w
 |g,[],c,a,w,_,_,M,K,_,_,hi=>by
  have s:Region.ready .any ops c=[]:=by
   apply List.eq_nil_iff_forall_not_mem.2;intro i d;obtain⟨F,o,ho,_⟩:=ufo.1 d;have A:=(uaf.1 ho).1;simpa using (K i A).1 F
  cases g with
  |zero=>exact⟨s,hQ a w hi⟩
  |succ g=>exact⟨λ_=>hQ a w hi,λi d=>by rw[s]at d;simp at d⟩
 |0,i::r,_,_,_,C,_,_,_,_,_,_=>by simp at C
 |g+1,i::r,c,a,w,C,hp,M,K,A,y,hi=>by
  have t:i∈Region.ready .any ops c:=by
   have hio:=A i (by simp);refine ufo.2 ⟨(K i hio).2 (by simp),ops[i],by simp,λe G u=>?_⟩;have hback:=B.back i ops[i] (by simp) e G u;have hnot:e.on ∉ i::r:=λhh=>by
    rcases uei.1 hh with h|h
    omega;have:=(uca.1 hp).1 _ h;omega
   have F:=λh=>hnot ((K e.on (by omega)).1 h);have hsz':e.on<c.size:=by omega
   simp only[uac,uam hsz']at F |-;simpa using F
  refine⟨λs=>by rw[s]at t;simp at t,λj hj=>?_⟩;obtain⟨hj1,o,ho,v⟩:=ufo.1 hj;have O:=(uaf.1 ho).1;have x:=(K j O).1 hj1;have p:∀ b,c.getD b Y=Z->b<ops.size/\b ∉ i::r:=λb u=>by
   have hbs:b<c.size:=by
    rcases uep b c.size with h|h
    exact h;simp[ua1 h]at u
   refine⟨by omega,λd=>?_⟩;have:=(K b (by omega)).2 d;simp only[uac,uam hbs,udd]at u this;rw[u]at this;cases this
  obtain⟨m,S,hm2⟩:=(JA ops.toList []).2 j o (by simpa using ho);simp at S;have T:∀ b,((fW [] ops.toList).getD j 0).testBit b=Z->b ∉ i::r:=λb u=>by
   rw[uah,S]at u;obtain⟨e,G,hb',hor⟩:=hm2 b u;obtain⟨F,N⟩:=p e.on (v e G hb');rcases hor with rfl|h
   exact N;exact y e.on F N b h
  have W:=yq hp;refine Uv hΓ hi x hp (λk H l e f G hf=>?_) (λo' j' want L hg d=>?_) B z _ Q (λa' w' h'=>?_);exact(TA D G hf l).resolve_left λh=>T k h H;obtain⟨_,e,G,heq,u⟩:=B.guard j o' j' want L hg;rw[ho]at L;cases L;have:=(p e.on (v e G u)).2;rw[heq]at this;exact this d;refine Uu hΓ B z D Q hQ g _ (c.setIfInBounds j Z) a' w' ?_ (TS hp j) (by simpa using M) (λk H=>?_) (λk H=>A k (ua8 H)) (λk H R b u=>?_) h';rw[List.length_erase_of_mem x];omega;rw[W.mem_erase_iff];by_cases l:j=k;subst l;simp[M];simp only[uac,uaa l];rw[<- uac,K k H];constructor;exact λh=>⟨Ne.symm l,h⟩;exact λh=>h.2;rw[W.mem_erase_iff]at R |-;rintro⟨F,N⟩;by_cases l:k=j;subst l;exact T b u N;exact y k H (λhh=>R ⟨l,hh⟩) b u N
end
section
variable {P:Program} {w w':World} {E:Env} {F F':Nat->Prop} {bs:Nat} {γ γ' γ0:Nat->Value} {Γ:Gm} {es:List Ef} {R:Nat->Value->Prop}
def I(P:Program)(E:Env)(s:St)(a:Act)(w:World):Prop:=∃ F γ,InvG P E s a w [] F γ
def RQ{st:St}{a:Act}{W:List Tmp}(h:InvG P E st a w W F γ):InvG P E st a { w with drawn:=w.drawn+1 } W F γ:=by
 obtain⟨h1,h2,⟨γ0,h3⟩,h4,h5,h6,h7⟩:=h;refine⟨h1,h2,⟨γ0,⟨h3.hF,h3.hw,h3.hR,h3.old,h3.os,h3.tape,h3.output,h3.size,h3.bd,h3.new⟩⟩,⟨λid o ho=>?_,h4.apart⟩,λt=>?_,h6,λt=>aE.mono (w:=w) (w':={ w with drawn:=w.drawn+1 }) (λ_ h=>h) (λ_ _=>rfl) (λ_ _ h=>h) _ (h7 t)⟩
 ·refine(h4.ob id o ho).keep (λ_ h=>h) (λ_ _=>rfl) (λ_ _ h=>h) (λb hb=>⟨rfl,?_⟩);exact(gZ (h4.ob id o ho) hb).2.1
 ·exact dP.mono (w:=w) (λ_ h=>h) (λ_ _=>rfl) (λ_ _ h=>h) (h5 t)
def oV{d:St}{a:Act}{W:List Tmp}(h:InvG P E d a w W F γ):InvG P E (fk d) a w [] F γ:=by
 obtain⟨f,i,j,k,l,o,m⟩:=h;refine⟨f,i,j,k,λt=>?_,λt g c v n=>?_,m⟩;have:=l t;show dP P w F _ _ (iF d.sl t) _;unfold iF;split;trivial;exact this;exfalso;have b:iF d.sl t=.maybe g c v:=n;unfold iF at b;split at b;cases b;rename_i e;exact e _ _ _ b
def UO{ops:List Oper}{c:St}:(l:List Oper)->(s:St)->(b:List Ef)->pE P Γ bs ops l s=U (b,c)->c.n=s.n
 |[],s,b,h=>by
  simp only[pE,ucl,ueg]at h;rw[h.2]
 |o::r,s,b,h=>by
  simp only[pE]at h;split at h<;>try trivial
  split at h<;>try trivial
  rename_i a e d;cases h;have:=UO r _ a d;exact this
def Tr.sat(Q:XE->St->Prop):Tr->Prop
 |.leaf e s=>Q e s
 |.br b x y=>(b=Z->x.sat Q)/\(b=Y->y.sat Q)
 |.need p x=>p/\x.sat Q
 |.two p x y=>(p->x.sat Q)/\y.sat Q
def wo{Q c:XE->St->Prop}(h:∀ e s,Q e s->c e s):{t:Tr}->t.sat Q->t.sat c
 |.leaf _ _,a=>h _ _ a
 |.br _ _ _,a=>⟨λb=>wo h (a.1 b),λb=>wo h (a.2 b)⟩
 |.need _ _,a=>⟨a.1,wo h a.2⟩
 |.two _ _ _,a=>⟨λb=>wo h (a.1 b),wo h a.2⟩
def jm{Q:XE->St->Prop}{t:Tr}:(a:List Prop)->(needL a t).sat Q->av a/\t.sat Q
 |[],h=>⟨uT,h⟩
 |p::a,h=>by
  have b:=h;obtain⟨c,d⟩:=jm a b.2;exact⟨je.2 ⟨b.1,c⟩,d⟩
def JI{Q:XE->St->Prop}{t:Tr}:(es:List Ef)->(JH es t).sat Q->(∀ e∈es,av e.need)/\t.sat Q
 |[],h=>⟨λ_ f=>by simp at f,h⟩
 |e::es,h=>by
  have b:=jm _ h;obtain⟨c,d⟩:=JI es b.2;exact⟨λx a=>by
   rcases uei.1 a with rfl|a
   exact b.1;exact c x a,d⟩
def XE.ex:XE->Exit
 |.normal=>.normal
 |.exit id=>.exit id
 |.ret=>.ret
 |.panic p=>.panic [{ v:=p.val,recovered:=Y }]
 |.val _=>.goto 0
 |.jump l=>.goto l
def eq(P:Program)(E:Env)(Q:XE->St->Prop)(e:Exit)(a:Act)(w:World):Prop:=∃ x s,x.ex=e/\I P E s a w/\Q x s
def Fb(P:Program)(E:Env)(a:Act)(Q:XE->St->Prop)(e:Ending)(w':World):Prop:=
 ∃ x b F' γ',Q x b/\InvG P E b a w' [] F' γ'/\match x with
  |.val v=>∃ u,e=.returned u/\aE P w' F' (ap b.mem γ') v u
  |.panic p=>e=.panicked [{ v:=p.val,recovered:=Y }]
  |_=>False
def gQ(P:Program)(K:Nat->FuncId->List AV->St->Option Tr):Prop:=
 ∀ d f args s t,K d f args s=U t->(∀ args w,(callFunc f args).run P w=.ok (.enter f args) w) /\
  ∀ (E:Env) (a:Act) (w:World) (F:Nat->Prop) (γ:Nat->Value) (vs:List Value) (Q:XE->St->Prop),InvG P E s a w [] F γ->bj P w F (ap s.mem γ) args vs->t.sat Q->Calls P f vs.toArray w (Fb P E a Q)
structure CxOK (P:Program) (C:Cx):Prop where
 mo:P.follows .mixedOrders=true
 ct:kN P C.Γ
 pc:∀ f pc,C.Pi f=some pc->jz P f pc
 kk:gQ P C.K
def InvG.weaken{c:St}{a:Act}(h:InvG P E c a w [] F γ)(W:List Tmp):InvG P E c a w W F γ:=
 ⟨h.n,h.df,h.step,h.mem,h.sl,λt g b v d=>absurd (h.hg t g b v d) (by simp),h.gh⟩
def rW{b:Tmp->Value}:{xs:List AV} -> {vs:List Value}->nV P w F R b xs vs->xs.all fX=Z->bj P w F R xs vs
 |[],[],_,_=>trivial
 |x::xs,v::vs,h,a=>by
  simp only[uej,udc]at a;exact⟨h.1.plain a.1,rW h.2 a.2⟩
def OA{a:List AC}(b:arr.size=a.length)(e:aN P w F R a (λj u=>arr[j]?= U u)):bj P w F R (a.map .c) arr.toList:=by
 have:∀ (a:List AC) (l:List Value),l.length=a.length->aN P w F R a (λj u=>l[j]?= U u)->bj P w F R (a.map .c) l:=by
  intro a
  induction a with
  |nil=>
   intro l d _;cases l with
   |nil=>trivial
   |cons _ _=>simp at d
  |cons c r i=>
   intro l d h;cases l with
   |nil=>simp at d
   |cons v l=>
    obtain⟨⟨u,b,e,f⟩,g⟩:=h;simp at b;subst b;exact⟨⟨e,f⟩,i l (by simpa using d) (by simpa using g)⟩
 exact this a arr.toList (by simpa using b) (by simpa using e)
def Dz:{xs b:List AV} -> {vs a:List Value}->bj P w F R xs vs->bj P w F R b a->bj P w F R (xs++b) (vs++a)
 |[],_,[],_,_,h=>h
 |_::_,_,_::_,_,h,k=>⟨h.1,Dz h.2 k⟩
def Ko{a:Tmp->Value}:{x:AV} -> {u:Value}->aE P w F R x u->dP P w F R a x u
 |.dead,_,h=>h
 |.c _,_,h=>h
 |.agg _,_,h=>h
 |.tup _,_,h=>h
 |.optr _ _ _ _,_,h=>h
 |.aptr _ _ _,_,h=>h
 |.maybe _ _ _,_,h=>h.elim
def Tr.sat.turn{Q a:XE->St->Prop}{t:Tr}(h:t.sat Q)(b:∀ e s,Q e s->a e s):t.sat a:=wo b h
def JJ{A:Option Addr}(a:P.underlying t=U (.slice el)):(Op.equalIn (d+1) t (.slice A n c) (.slice V 0 0)).run P w=.ok A.isNone w:=by
 cases A<;>simp[Op.equalIn,ud5 a]
def qt8{A:Option Addr}(f:P.underlying t=U (.slice el))(x y:Operand):
  (do eqGuard .eql t x y (.slice A n c) (.slice V 0 0);binOp .eql t (.slice A n c) (.slice V 0 0):Sem Value).run P w=.ok (.bool A.isNone) w:=by
 have a:binOp .eql t (.slice A n c) (.slice V 0 0)=(do pure (.bool (<- Op.equal t (.slice A n c) (.slice V 0 0)))):=rfl;have b:Op.equal t (.slice A n c) (.slice V 0 0)=Op.equalIn (9999+1) t (.slice A n c) (.slice V 0 0):=rfl;have e:=JJ (w:=w) (A:=A) (n:=n) (c:=c) (d:=9999) f;rw[a,b];simp[eqGuard,e]
def C7 {C:Cx} (s:CxOK P C) {n:St} {a:Act} {t:Tr} {args:List AV} (l:InvG P E (fk n) a w [] F γ) (h:C.K d f args (fk n)=U t) (i:bj P w F (ap n.mem γ) args vs) (K:Act->World->Prop) (Q:Exit->Act->World->Prop)
  (j:(∀ args w,(callFunc f args).run P w=.ok (.enter f args) w)->(execOp a.eval o).run P w=.ok (.enter f vs.toArray) w)
  (B:t.sat λx k=>match x with
   |.val v=>∀ u w' F' γ',InvG P E k a w' [] F' γ'->aE P w' F' (ap k.mem γ') v u->K (a.put o.dst u) w'
   |.panic p=>∀ w',I P E k a w'->Q (.panic [{ v:=p.val,recovered:=Y }]) a w'
   |_=>True):o.wp P a w K Q:=by
 obtain⟨m,c⟩:=s.kk _ _ _ _ _ h;have y:=c E a w F γ _ _ l i B;unfold Oper.wp;rw[j m];refine y.mono λe r A=>?_;obtain⟨x,k,F',γ',q,g,b⟩:=A;cases x with
 |val v=>
  obtain⟨u,rfl,D⟩:=b;exact q u r F' γ' g D
 |panic p=>
  have z:e=.panicked [{ v:=p.val,recovered:=Y }]:=b;subst z;exact q r ⟨F',γ',g⟩
 |normal=>exact b.elim
 |exit _=>exact b.elim
 |ret=>exact b.elim
 |jump _=>exact b.elim
def RR{a:Act}{d:Operand}{c:String}{b:Array Operand}{ts:Array TypeId}{e:Value}(i:o.op=.call ⟨.invoke d c,b,ts⟩)(j:a.eval d=.iface ty e)(h:(callMethod (.iface ty e) c (b.map a.eval)).run P w=(callFunc f (#[u]++b.map a.eval)).run P w)(g:∀ args w,(callFunc f args).run P w=.ok (.enter f args) w):(execOp a.eval o).run P w=.ok (.enter f (u::(b.map a.eval).toList).toArray) w:=by
 unfold execOp;rw[i];simp only[resolve,ues,ueu,ucm,invoke,j];have k:(#[Value.iface ty e]++Array.map a.eval b)[0]?= U (.iface ty e):=by simp[Array.getElem?_append]
 have l:(Array.map a.eval b).extract 0 b.size=Array.map a.eval b:=by
  have:b.size=(Array.map a.eval b).size:=by simp
  rw[this];exact Array.extract_size
 rw[k];have m:(#[Value.iface ty e]++Array.map a.eval b).extract 1 (#[Value.iface ty e]++Array.map a.eval b).size=Array.map a.eval b:=by simp[l]
 simp only[m];rw[h,g];simp
def Vp {C:Cx} (hC:CxOK P C) {st:St} {a:Act} {W:List Tmp} {t:Tr} (hi:InvG P E st a w W F γ) (h:ze P C b o st=U t) (K:Act->World->Prop) (Q:Exit->Act->World->Prop)
  (O:t.sat λx s'=>match x with
   |.val v=>∀ u w' F' γ',InvG P E s' a w' [] F' γ'->aE P w' F' (ap s'.mem γ') v u->K (a.put o.dst u) w'
   |.panic p=>∀ w',I P E s' a w'->Q (.panic [{ v:=p.val,recovered:=Y }]) a w'
   |_=>True):o.guard=V/\o.wp P a w K Q:=by
 have G:=oV hi;unfold ze at h;split at h<;>try trivial
 rotate_left
 rename_i f0 d ts f id args hg H z;refine⟨hg,?_⟩;split at h<;>try trivial
 rename_i g;have j:=oH hi.sl o.op.operands.toList;rw[z]at j;have m:o.op.operands.toList.map a.eval=a.eval f0::(d.map a.eval).toList:=by simp[H,Op.operands,Call.operands]
 rw[m]at j;obtain⟨⟨_,b',e1,e2⟩,i⟩:=j;refine C7 hC G h (vs:=.pointer (U ⟨b',0,V⟩)::(d.map a.eval).toList) ⟨⟨rfl,b',e1,rfl⟩,rW i g⟩ K Q (λk=>?_) O;unfold execOp;rw[H];simp[resolve,e2,Deferred.ofValue,invoke,k];rename_i recv name d ts ty id args hg H z;refine⟨hg,?_⟩;have j:=oH hi.sl o.op.operands.toList;rw[z]at j;have m:o.op.operands.toList.map a.eval=a.eval recv::(d.map a.eval).toList:=by simp[H,Op.operands,Call.operands]
 rw[m]at j;obtain⟨⟨_,b',e1,e2⟩,i⟩:=j;split at h<;>try trivial
 rename_i f s;split at h<;>try trivial
 rename_i ety r hid;split at h<;>try trivial
 rename_i g;obtain⟨b2,arr,q1,q2,q3,q4,q5,q6,q7⟩:=lw (off:=0) hi.mem hid ⟨b',e1,rfl⟩;cases q2;obtain⟨u,z1,z2,z3⟩:=q7.1;have hcell:w.cell? ⟨b',0,V⟩=U u:=by rw[tG q3];exact z1
 exact C7 hC G h (vs:=u::(d.map a.eval).toList) ⟨⟨z2,z3⟩,rW i g⟩ K Q (λk=>RR H e2 ((UU s _ _).2 rfl u hcell) k) O;rename_i f s;split at h<;>try trivial
 rename_i g;exact C7 hC G h (vs:=.pointer (U ⟨b',0,V⟩)::(d.map a.eval).toList) ⟨⟨rfl,b',e1,rfl⟩,rW i g⟩ K Q (λk=>RR H e2 ((UU s _ _).1 rfl) k) O
 ·rename_i t0 x0 y0 yt T l hg H z;split at h<;>try (simp at h;done)
  rename_i el hu;simp at h;subst h;refine⟨hg,?_⟩;have j:=oH hi.sl o.op.operands.toList;rw[z]at j;have m:o.op.operands.toList.map a.eval=[a.eval x0,a.eval y0]:=by simp[H,Op.operands]
  rw[m]at j;obtain⟨⟨_,A,c,e1,e2,e3,e4⟩,⟨_,e5⟩,_⟩:=j;have e1':=e1.symm;have e5':=e5;have B:(execOp a.eval o).run P w=.ok (.value (.bool A.isNone)) w:=by
   refine cL (by unfold execOp;rw[H]) ?_;rw[e1',e5'];exact qt8 hu x0 y0
  unfold Oper.wp;rw[B];cases A with
  |none=>
   have hl:l=[]:=by
    cases l with
    |nil=>rfl
    |cons x r=>obtain⟨ad,h,_⟩:=e4 0 x rfl;cases h
   exact O.1 hl _ w F γ G ⟨rfl,rfl⟩
  |some ad=>exact O.2 _ w F γ G ⟨rfl,rfl⟩
 rename_i f0 d ts f caps args hg H z;refine⟨hg,?_⟩;have j:=oH hi.sl o.op.operands.toList;rw[z]at j;have m:o.op.operands.toList.map a.eval=a.eval f0::(d.map a.eval).toList:=by simp[H,Op.operands,Call.operands]
 rw[m]at j;obtain⟨⟨_,hfv⟩,i⟩:=j;obtain⟨cv,e1,e2,e3⟩:=hfv;have N:=OA e2 e3;have B:(∀ args w,(callFunc f args).run P w=.ok (.enter f args) w)->(execOp a.eval o).run P w=.ok (.enter f (d.map a.eval++cv)) w:=λk=>by
  unfold execOp;rw[H];simp[resolve,e1,Deferred.ofValue,invoke,k]
 have du:((d.map a.eval).toList++cv.toList).toArray=d.map a.eval++cv:=by simp
 split at h;rename_i pc hpc;split at h<;>try trivial
 rename_i xs u hrs;split at h<;>try trivial
 rename_i x n hdec;cases h;obtain⟨hn,O⟩:=jm _ O;obtain⟨hn1,hn2⟩:=jd.1 hn;have g:(args++caps.map AV.c).all fX=true:=by
  have:∀ (l:List AV) (u:List Value),(∃ xs u',dK st.mem l=U (xs,u'))->l.all fX=true:=by
   intro l
   induction l with
   |nil=>intros;rfl
   |cons y l ih=>
    rintro us ⟨xs,u',hx⟩;simp only[dK]at hx;split at hx<;>try trivial
    rename_i h1 h2;simp only[uej,udc];refine⟨?_,ih [] ⟨_,_,h2⟩⟩;cases y<;>first|rfl|(simp[pD]at h1)
  exact this _ [] ⟨_,_,hrs⟩
 have R:bj P w F (ap st.mem γ) (args++caps.map AV.c) ((d.map a.eval).toList++cv.toList):=by
  refine Dz (rW i ?_) N;rw[udn,udc]at g;exact g.1
 obtain⟨F1,s1,m1,_,r1⟩:=iy hi.mem (dv hi) (cX.of λ_ _ h=>h) hrs R;have hps:=mK hC.ct hdec hn1 r1;obtain⟨k,S⟩:=hC.pc f pc hpc;have hc:=S w F1 x _ s1.bd hps hn2;unfold Oper.wp;rw[B k];rw[du]at hc;have D:∀ w2 F2,(∀ b,F1 b->F2 b)->(∀ b,F2 b->(F1 b\/w.heap.size<=b)/\b<w2.heap.size)->Below w.heap.size w w2->InvG P E (fk ⟨st.n,st.sl,ax st.mem u,st.gs⟩) a w2 [] F2 γ:=λw2 F2 hF2 L q=>by
  obtain⟨s2,m2⟩:=Step.below m1 (nM hi) s1.bd q hF2 L;have s3:=s1.trans s2;refine oV ⟨hi.n,hi.df,?_,m2,λt=>(hi.sl t).mono s3.hF s3.hw s3.hR,hi.hg,λt=>s3.repA (hi.gh t)⟩;obtain⟨γ0,h0⟩:=hi.step;exact⟨γ0,h0.trans s3⟩
 refine hc.mono λe w2 hp=>?_;rcases hp with ⟨M,v2,F2,rfl,q,hF2,L,hrep⟩|⟨M,rfl,q⟩
 exact O.2 M v2 w2 F2 γ (D w2 F2 hF2 L q) (tN hrep);exact O.1 M w2 ⟨F1,γ,D w2 F1 (λ_ h=>h) (λb hb=>⟨.inl hb,ucb (s1.bd b hb) q.size⟩) q⟩
 split at h<;>try trivial
 rename_i g;refine C7 hC G h (Dz (rW i g) N) K Q (λk=>?_) O;rw[du];exact B k
def sy{f:AV->St->Option Tr}{Q:XE->St->Prop}:{t c:Tr}->t.bindV f=U c->c.sat Q->t.sat λe s=>match e with
  |.val v=>∃ u,f v s=U u/\u.sat Q
  |.panic p=>Q (.panic p) s
  |_=>False
 |.leaf e s,c,h,a=>by
  cases e with
  |val v=>exact⟨c,h,a⟩
  |panic p=>
   simp only[Tr.bindV,ucl]at h;subst h;exact a
  |normal=>simp[Tr.bindV]at h
  |exit _=>simp[Tr.bindV]at h
  |ret=>simp[Tr.bindV]at h
  |jump _=>simp[Tr.bindV]at h
 |.br b x y,c,h,a=>by
  simp only[Tr.bindV]at h;split at h<;>try trivial
  rename_i j k g i;cases h;exact⟨λd=>sy g (a.1 d),λd=>sy i (a.2 d)⟩
 |.need p x,c,h,a=>by
  simp only[Tr.bindV]at h;split at h<;>try trivial
  rename_i j g;cases h;exact⟨a.1,sy g a.2⟩
 |.two p x y,c,h,a=>by
  simp only[Tr.bindV]at h;split at h<;>try trivial
  rename_i j k g i;cases h;exact⟨λd=>sy g (a.1 d),sy i a.2⟩
def JR{C:Cx}(T:CxOK P C){ops:Array Oper}(d:StatOK n ops){Q:XE->St->Prop}:(l:List Oper)->(k:Nat)->(∀ i o,l[i]?= U o->ops[k+i]?= U o)->∀ (G:St) (a:Act) (w:World) (W:List Tmp) (F:Nat->Prop) (γ:Nat->Value) (t:Tr),
  InvG P E G a w W F γ->G.n=n->(∀ x,x∈W↔∃ i o,i<k/\ops[i]?= U o/\o.dst=U x)->uR P C bs ops.toList l G=U t->t.sat Q->wpOps P ops (eq P E Q) (List.range' k l.length) a w
 |[],k,_,G,a,w,W,F,γ,t,hi,hn,hW,h,D=>by
  simp only[uR,ucl]at h;subst h;exact⟨.normal,_,rfl,⟨F,γ,oV hi⟩,D⟩
 |o::r,k,hl,G,a,w,W,F,γ,t,hi,hn,hW,h,D=>by
  have c:ops[k]?= U o:=by simpa using hl 0 o rfl
  have L:∀ i o,r[i]?= U o->ops[k+1+i]?= U o:=λi o' hi'=>by
   have:=hl (i+1) o' (by simpa using hi')
   rwa [show k+1+i=k+(i+1) by omega]
  have hd:∀ x,o.dst=U x->x<G.n/\x ∉ W:=λx q=>⟨by rw[hn];exact d.lt k o x c q,λhxW=>by
   obtain⟨i,s,K,hoi,hdi⟩:=(hW x).1 hxW;have:=d.once k i o s x c hoi q hdi;omega⟩
  have H:∀ x,x∈o.dst.toList++W↔∃ i s,i<k+1/\ops[i]?= U s/\s.dst=U x:=λx=>by
   rw[uds,hW];constructor;rintro(h|⟨i,s,h1,B,S⟩);exact⟨k,o,by omega,c,by simpa using h⟩;exact⟨i,s,by omega,B,S⟩;rintro⟨i,s,h1,B,S⟩;by_cases K:i=k;subst K;rw[c]at B;cases B;exact .inl (by simp[S]);exact .inr ⟨i,s,by omega,B,S⟩
  rw[uc9,ude,wpOps_cons];unfold wpOp;rw[c];simp only;simp only[uR]at h;split at h;rename_i e he;split at h<;>try trivial
  rename_i t' ht';cases h;obtain⟨hne,D⟩:=jm _ D;have key:=JQ T.ct hi he hne hd (λj z g hg f=>by
   have hj:=(d.guard k o j z c hg).1;cases A:ops[j]? with
   |none=>rw[A]at f;cases f
   |some o'=>
    rw[A]at f;exact(hW g).2 ⟨j,o',hj,A,f⟩) (wpOps P ops (eq P E Q) (List.range' (k+1) r.length)) (eq P E Q)
   (λa' w' F' γ' b=>JR T d r (k+1) L _ a' w' _ F' γ' t' b hn H ht' D)
  split;rename_i R;rw[ufv R]at key;exact .inl key;rename_i R;rw[ufw R]at key;exact key;split at h<;>try trivial
  rename_i t1 ht1;have O:=sy h D;obtain⟨hg,hwp⟩:=Vp T hi ht1 (wpOps P ops (eq P E Q) (List.range' (k+1) r.length)) (eq P E Q) (O.turn λx s' q=>by
   cases x with
   |val v=>
    obtain⟨u,hu,hqu⟩:=q;intro v2 w2 F2 γ2 b m;have M:s'.n=n:=by
     have h1:=b.n;have B:=hi.n;omega
    have N:=lJ (wr:=[]) (b.weaken W) (λx q=>⟨by rw[M];exact d.lt k o x c q,(hd x q).2⟩) (Step.refl (dv b)) b.mem (Ko m) (λg z y hv=>by
     subst hv;exact m.elim)
    exact JR T d r (k+1) L _ _ w2 _ F2 γ2 u N M H hu hqu
   |panic p=>exact λw2 b=>⟨.panic p,s',rfl,b,q⟩
   |normal=>trivial
   |exit _=>trivial
   |ret=>trivial
   |jump _=>trivial)
  have R:Region.wanted o (yielded ops a.tmps)=true:=by simp[Region.wanted,hg]
  rw[ufv R];exact .inl hwp
def qvd(z:kN P Γ){ops:Array Oper}{c:St}{a:Act}{W:List Tmp}{e:Ef}(D:o.guard=V)(hi:InvG P E c a w W F γ)(m:dY P Γ bs ops.toList o c.sl c.mem=U e)(H:av e.need)(C:∀ x,o.dst=U x->x<c.n/\x ∉ W)(K:Act->World->Prop)(Q:Exit->Act->World->Prop)(B:∀ u w' F' γ',InvG P E (e.go c) (a.put o.dst u) w' (o.dst.toList++W) F' γ'->K (a.put o.dst u) w'):o.wp P a w K Q:=by
 have k:∀ (p:List Nat) (i:Nat) (y:Ob),jq p c.mem i=U y->c.mem i=U y:=by
  intro p i y h;unfold jq at h;split at h;exact h;cases h
 have s:∀ (p:List Nat) (d:Nat),jq (d::p) c.mem d=V->c.mem d=none:=by
  intro p d h;unfold jq at h;simpa using h
 unfold dY at m;rw[D]at m;simp only at m;split at m<;>try trivial
 rename_i q f;cases m;have j:=Hi z rfl hi.mem (dv hi) (nM hi) (k _) (s _ _) f H (oH hi.sl _);refine j K Q λu w' F' γ' L G r=>B u w' F' γ' ?_;have b:fX q.v=true:=by
  cases l:q.v with
  |maybe _ _ _=>rw[l]at r;exact r.elim
  |_=>rfl
 refine lJ hi C L G ?_ (λg A y l=>by have t:q.v=_:=l;rw[t]at b;cases b);cases l:q.v with
 |maybe _ _ _=>rw[l]at b;cases b
 |_=>rw[l]at r;exact r
def jw(a:Act)(W:List Tmp)(kn:List (Tmp×Bool)):Prop:=∀ x∈kn,x.1∈W/\a.tmps.getD x.1 undef=.bool x.2
def Jq:{kn:List (Tmp×Bool)} -> {t:Tmp} -> {v:Bool}->ux kn t=U v->(t,v)∈kn
 |[],_,_,h=>by simp[ux]at h
 |(x,c)::r,t,v,h=>by
  simp only[ux]at h;split at h;rename_i a;injection h with h
  subst a;subst h;exact ucc;exact ubj _ (Jq h)
def Ap{a:Act}{W:List Tmp}{kn:List (Tmp×Bool)}(b:jw a W kn){x:Operand}{c:Bool}(h:Ao kn x=U c):a.eval x=.bool c:=by
 unfold Ao at h;split at h;exact(b _ (Jq h)).2;cases h;rfl;cases h
def qmb{a:Act}{W:List Tmp}{kn:List (Tmp×Bool)}(f:jw a W kn){x:Operand}(h:IC kn o.op=U x):(execOp a.eval o).run P w=.ok (.value (a.eval x)) w:=by
 unfold IC at h;split at h;rename_i y b;cases h;unfold execOp;rw[b];simp;rename_i c y z b;split at h;rename_i d;cases h;have e:=Ap f d;unfold execOp;rw[b];simp[e,asBool];rename_i d;cases h;have e:=Ap f d;unfold execOp;rw[b];simp[e,asBool];cases h;cases h
def jw.put{a:Act}{W:List Tmp}{kn:List (Tmp×Bool)}{d:Option Tmp}(g:jw a W kn)(c:∀ x,d=U x->x<a.tmps.size/\x ∉ W):jw (a.put d u) (d.toList++W) kn:=λx h=>by
 obtain⟨b,e⟩:=g x h;refine⟨ua6 _ b,?_⟩;rw[Du a d u x.1 (λy i=>(c y i).1),ufw (λf=>(c x.1 f).2 b)];exact e
def qu6{C:Cx}(hC:CxOK P C){ops:Array Oper}{Q:XE->St->Prop}{kn:List (Tmp×Bool)}{l:St}{a:Act}{W:List Tmp}{kf:List (Tmp×Bool)->St->Option Tr}{t:Tr}(K:Act->World->Prop)(hi:InvG P E l a w W F γ)(A:jw a W kn)(hn:l.n=n)(H:∀ x,o.dst=U x->x<l.n/\x ∉ W)(h:uQ P C bs ops.toList kn o l kf=U t)(s:t.sat Q)(f:∀ T G a' w' F' γ' t',kf T G=U t'->t'.sat Q->InvG P E G a' w' (o.dst.toList++W) F' γ'->jw a' (o.dst.toList++W) T->G.n=n->K a' w'):o.wp P a w K (eq P E Q):=by
 have k:∀ x,o.dst=U x->x<a.tmps.size/\x ∉ W:=λx r=>by rw[hi.n];exact H x r
 have m:∀ t,(match dY P C.Γ bs ops.toList (Cb o) l.sl l.mem with
   |some e=>match kf kn (e.go l)with
    |some t=>U (needL e.need t)
    |none=>V
   |none=>match ze P C bs (Cb o) l with
    |some t=>t.bindV λv D=>kf kn ⟨D.n,e8 D.sl o.dst v,D.mem,D.gs⟩
    |none=>V)=U t->t.sat Q->o.wp P a w K (eq P E Q):=by
  intro t h s;split at h;rename_i e he;split at h<;>try trivial
  rename_i t' ht';cases h;obtain⟨hne,s⟩:=jm _ s;exact qvd hC.ct rfl hi he hne H K _ λu w' F' γ' b=>f kn _ _ w' F' γ' t' ht' s b (A.put k) hn;split at h<;>try trivial
  rename_i t1 ht1;have O:=sy h s;refine(Vp hC hi ht1 K (eq P E Q) (O.turn λx D r=>?_)).2;cases x with
  |val v=>
   obtain⟨u,hu,hqu⟩:=r;intro v2 w2 F2 γ2 b z;have L:D.n=n:=by
    have h1:=b.n;have h2:=hi.n;omega
   have M:=lJ (wr:=[]) (b.weaken W) (λx r=>⟨by rw[L,<- hn];exact(H x r).1,(H x r).2⟩) (Step.refl (dv b)) b.mem (Ko z) (λg j y q=>by
    subst q;exact z.elim)
   exact f kn _ _ w2 F2 γ2 u hu hqu M (A.put k) L
  |panic p=>exact λw2 b=>⟨.panic p,D,rfl,b,r⟩
  |normal=>trivial
  |exit _=>trivial
  |ret=>trivial
  |jump _=>trivial
 unfold uQ at h;split at h;rename_i x d r i;have N:=qmb (P:=P) (w:=w) A r;have R:K (a.put o.dst (a.eval x)) w->o.wp P a w K (eq P E Q):=λhK=>by
  unfold Oper.wp;rw[N];exact hK
 have hx1:=Br hi.sl x;split at h;rename_i c hc;refine R (f _ _ _ w F γ t h s ?_ ?_ hn);have q:=Ap A hc;rw[q,<- i];exact lJ (wr:=[]) hi H (Step.refl (dv hi)) hi.mem (show dP P w F _ _ (AV.c (.bool c)) (.bool c) from ⟨rfl,rfl⟩) (λg j y q=>by cases q);intro y S;rcases uei.1 S with rfl|S
 refine⟨by simp[i],?_⟩;rw[Du a o.dst _ d (λy S=>(k y S).1),ufv i];exact Ap A hc;exact A.put k y S;split at h;cases h;rename_i v hnm;refine R (f _ _ _ w F γ t h s ?_ (A.put k) hn);have B:fX (gC l.sl x)=true:=by
  cases q:gC l.sl x with
  |maybe g j y=>exact absurd q (hnm g j y)
  |_=>rfl
 rw[<- i];exact lJ (wr:=[]) hi H (Step.refl (dv hi)) hi.mem (Ko (hx1.plain B)) (λg j y q=>by rw[q]at B;cases B);exact m t h s
def JS{C:Cx}(hC:CxOK P C){ops:Array Oper}(q:StatOK n ops){Q:XE->St->Prop}:(l:List Oper)->(k:Nat)->(∀ i o,l[i]?= U o->ops[k+i]?= U o)->∀ (kn:List (Tmp×Bool)) (u:St) (a:Act) (w:World) (W:List Tmp) (F:Nat->Prop) (γ:Nat->Value) (t:Tr),
  InvG P E u a w W F γ->jw a W kn->u.n=n->(∀ x,x∈W↔∃ i o,i<k/\ops[i]?= U o/\o.dst=U x)->kS P C bs ops.toList kn l u=U t->t.sat Q->wpOps P ops (eq P E Q) (List.range' k l.length) a w
 |[],k,_,kn,u,a,w,W,F,γ,t,hi,M,hn,hW,h,A=>by
  simp only[kS,ucl]at h;subst h;exact⟨.normal,_,rfl,⟨F,γ,oV hi⟩,A⟩
 |o::r,k,hl,kn,u,a,w,W,F,γ,t,hi,M,hn,hW,h,A=>by
  have e:ops[k]?= U o:=by simpa using hl 0 o rfl
  have hl':∀ i o,r[i]?= U o->ops[k+1+i]?= U o:=λi o' hi'=>by
   have:=hl (i+1) o' (by simpa using hi')
   rwa [show k+1+i=k+(i+1) by omega]
  have hd:∀ x,o.dst=U x->x<u.n/\x ∉ W:=λx B=>⟨by rw[hn];exact q.lt k o x e B,λhxW=>by
   obtain⟨i,H,hik,hoi,hdi⟩:=(hW x).1 hxW;have:=q.once k i o H x e hoi B hdi;omega⟩
  have hW':∀ x,x∈o.dst.toList++W↔∃ i H,i<k+1/\ops[i]?= U H/\H.dst=U x:=λx=>by
   rw[uds,hW];constructor;rintro(h|⟨i,H,h1,L,h3⟩);exact⟨k,o,by omega,e,by simpa using h⟩;exact⟨i,H,by omega,L,h3⟩;rintro⟨i,H,h1,L,h3⟩;by_cases hik:i=k;subst hik;rw[e]at L;cases L;exact .inl (by simp[h3]);exact .inr ⟨i,H,by omega,L,h3⟩
  have O:∀ c K,jw a W c->uQ P C bs ops.toList c o u (λkn s=>kS P C bs ops.toList kn r s)=U K->K.sat Q->o.wp P a w (wpOps P ops (eq P E Q) (List.range' (k+1) r.length)) (eq P E Q):=λc K m h' T=>
   qu6 hC (wpOps P ops (eq P E Q) (List.range' (k+1) r.length)) hi m hn hd h' T λkn2 st2 a2 w2 F2 γ2 t2 L hq2 hi2 hk2 hn2=>JS hC q r (k+1) hl' kn2 st2 a2 w2 _ F2 γ2 t2 hi2 hk2 hn2 hW' L hq2
  have hsz:∀ x,o.dst=U x->x<a.tmps.size/\x ∉ W:=λx B=>by rw[hi.n];exact hd x B
  have D:∀ c K,jw a W c->kS P C bs ops.toList c r ⟨u.n,e8 u.sl o.dst .dead,u.mem,u.gs⟩=U K->K.sat Q->wpOps P ops (eq P E Q) (List.range' (k+1) r.length) (a.put o.dst undef) w:=λc K m h' T=>
   JS hC q r (k+1) hl' c _ _ w _ F γ K (lJ (wr:=[]) (v:=.dead) hi hd (Step.refl (dv hi)) hi.mem trivial (λg b y hv=>by cases hv)) (m.put hsz) hn hW' h' T
  rw[uc9,ude,wpOps_cons];unfold wpOp;rw[e];simp only;simp only[kS]at h;split at h;rename_i hg;have hw:Region.wanted o (yielded ops a.tmps)=true:=by simp[Region.wanted,hg]
  rw[ufv hw];exact .inl (O kn t M h A);rename_i j b hgd;split at h<;>try trivial
  rename_i g hg;have f:(ops[j]?).bind (·.dst)=U g:=by simpa using hg
  have hgW:g∈W:=by
   have hj:=(q.guard k o j b e hgd).1;cases N:ops[j]? with
   |none=>rw[N]at f;cases f
   |some o'=>
    rw[N]at f;exact(hW g).2 ⟨j,o',hj,N,f⟩
  have d:Region.wanted o (yielded ops a.tmps)=Z↔a.tmps.getD g undef=.bool b:=by
   have:(yielded ops a.tmps j==U b)=Z↔a.tmps.getD g undef=.bool b:=by
    unfold yielded;rw[f];simp;cases B:a.tmps[g]? with
    |none=>simp[B,undef]
    |some y=>
     simp only[uac,B,udd];cases y<;>simp
   simpa[Region.wanted,hgd]using this
  have G:∀ v,a.tmps.getD g undef=.bool v->∀ c,jw a W c->jw a W ((g,v)::c):=λv hv c m y hy=>by
   rcases uei.1 hy with rfl|hy
   exact⟨hgW,hv⟩;exact m y hy
  split at h;rename_i v hv;have hgv:=(M _ (Jq hv)).2;split at h;rename_i hvw;subst hvw;rw[ufv (d.2 hgv)];exact .inl (O kn t M h A);rename_i hvw;rw[ufw (λhw=>hvw (by have:=d.1 hw;rw[hgv]at this;cases this;rfl))];exact D kn t M h A;split at h<;>try trivial
  rename_i p hsl;split at h<;>try trivial
  rename_i x y B hy;cases h;have hs:=hi.sl g;rw[hsl]at hs;have z:=hs.2;by_cases S:p=b;subst S;rw[ufv (d.2 z)];refine .inl (O _ x (G p z kn M) B ?_);cases p with
  |true=>exact A.1 rfl
  |false=>exact A.2 rfl
  rw[ufw (λhw=>S (by have:=d.1 hw;rw[z]at this;cases this;rfl))];have R:p=!b:=by cases p<;>cases b<;>first|rfl|exact absurd rfl S
  refine D _ y (G (!b) (by rw[z,R]) kn M) hy ?_;cases b with
  |true=>
   subst R;exact A.2 rfl
  |false=>
   subst R;exact A.1 rfl
def Ux{C:Cx}(hC:CxOK P C){id:Nat}{ops:Array Oper}{draw:Bool}{s:St}{t:Tr}(h:Dx P C.Γ bs ops.toList draw s=some t){Q:XE->St->Prop}(hq:t.sat Q){a:Act}(hi:I P E s a w):(Code.region id ops draw).wp P (eq P E Q) a w:=by
 unfold Dx at h;split at h<;>try trivial
 rename_i hstat;split at h<;>try trivial
 rename_i es s' hrun;split at h<;>try trivial
 rename_i hord;cases h;obtain⟨hneed,hq⟩:=JI es hq;have hn:=UO _ _ _ hrun;have hst:StatOK s'.n ops:=by rw[hn];exact DH hstat
 have hruns:fh P C.Γ bs ops es s' (List.range' 0 ops.size) s:=by
  have:=UW ops.toList 0 s es hrun (λi o hi=>by simpa using hi) (λi e hi=>by simpa using hi);simpa using this
 obtain⟨F,γ,hi⟩:=hi;have hend:∀ a' w',nU P E C.Γ bs ops es s' [] a' w'->eq P E Q .normal a' w':=by
  rintro a' w' ⟨st,W,F',γ',hinv,_,hr,_⟩;have hr':=hr;subst hr';exact⟨.normal,_,rfl,⟨F',γ',oV hinv⟩,hq⟩
 have hstart:∀ w',InvG P E s a w' [] F γ->nU P E C.Γ bs ops es s' (List.range' 0 ops.size) a w':=λw' hi'=>by
  refine⟨s,[],F,γ,hi',λt=>?_,hruns,hn.symm⟩;constructor
  ·intro hh;simp at hh
  ·rintro⟨k,o,hk,hnot,_⟩;exfalso;apply hnot;rw[ucw];have:=(uaf.1 hk).1;omega
 cases draw with
 |false=>
  refine ufp ?_;rw[ubm];exact Uw hC.ct hst hneed _ hend _ 0 a w (hstart w hi)
 |true=>
  have hord':r9 ops.toList es=true:=by simpa using hord
  refine wp_region_any hC.mo ?_;refine Uu hC.ct hst hneed hord' _ hend ops.size (List.range' 0 ops.size) _ a _ (by simp) uaw (by simp) (λi hi'=>?_) (λi hi'=>?_) (λk hk hnot=>?_) (hstart _ (RQ hi))
  ·simp only[ucw,uac,uas,hi',if_true,udd,true_iff];omega
  ·rw[ucw]at hi';omega
  ·exfalso;apply hnot;rw[ucw];omega
def i5(P:Program)(E:Env)(c:Code)(f:St->Option Tr):Prop:=
 ∀ s t,f s=U t->∀ Q,t.sat Q->∀ a w,I P E s a w->(Code.loop c).wp P (eq P E Q) a w
def bP(P:Program)(E:Env)(Λ:Nat->St->Option Tr):Code->Nat->Prop
 |.seq a b,k=>bP P E Λ a k/\bP P E Λ b (k+ce a)
 |.cond _ a b,k=>bP P E Λ a k/\bP P E Λ b (k+ce a)
 |.block _ c,k=>bP P E Λ c k
 |.scope c,k=>bP P E Λ c k
 |.loop c,k=>i5 P E c (Λ k)
 |_,_=>True
def sx{f:St->Option Tr}{Q:XE->St->Prop}:{t c:Tr}->t.bind f=U c->c.sat Q->t.sat λe s=>match e with
  |.normal=>∃ u,f s=U u/\u.sat Q
  |e=>Q e s
 |.leaf e s,c,h,a=>by
  cases e with
  |normal=>exact⟨c,h,a⟩
  |exit i=>
   simp only[Tr.bind,ucl]at h;subst h;exact a
  |ret=>
   simp only[Tr.bind,ucl]at h;subst h;exact a
  |panic p=>
   simp only[Tr.bind,ucl]at h;subst h;exact a
  |val v=>
   simp only[Tr.bind,ucl]at h;subst h;exact a
  |jump l=>
   simp only[Tr.bind,ucl]at h;subst h;exact a
 |.br b x y,c,h,a=>by
  simp only[Tr.bind]at h;split at h<;>try trivial
  rename_i k m g j;cases h;exact⟨λd=>sx g (a.1 d),λd=>sx j (a.2 d)⟩
 |.need p x,c,h,a=>by
  simp only[Tr.bind]at h;split at h<;>try trivial
  rename_i k g;cases h;exact⟨a.1,sx g a.2⟩
 |.two p x y,c,h,a=>by
  simp only[Tr.bind]at h;split at h<;>try trivial
  rename_i k m g j;cases h;exact⟨λd=>sx g (a.1 d),sx j a.2⟩
def wm{id:Nat}{Q:XE->St->Prop}:{t:Tr}->(t.block id).sat Q->t.sat λe s=>match e with
  |.exit i=>if i=id then Q .normal s else Q (.exit i) s
  |e=>Q e s
 |.leaf e s,a=>by
  cases e with
  |normal=>exact a
  |exit i=>
   simp only[Tr.block]at a;simp only[Tr.sat];split;rename_i h;rw[ufv h]at a;exact a;rename_i h;rw[ufw h]at a;exact a
  |ret=>exact a
  |panic p=>exact a
  |val v=>exact a
  |jump l=>exact a
 |.br b x y,a=>⟨λc=>wm (a.1 c),λc=>wm (a.2 c)⟩
 |.need p x,a=>⟨a.1,wm a.2⟩
 |.two p x y,a=>⟨λc=>wm (a.1 c),wm a.2⟩
def wq{Q:XE->St->Prop}:{t:Tr}->t.scope.sat Q->t.sat λe s=>match e with
  |.jump _=>False
  |.val _=>False
  |e=>Q e s
 |.leaf e s,a=>by
  cases e with
  |normal=>exact a
  |exit i=>exact a
  |ret=>exact a
  |panic p=>exact a
  |val v=>exact a.1
  |jump l=>exact a.1
 |.br b x y,a=>⟨λc=>wq (a.1 c),λc=>wq (a.2 c)⟩
 |.need p x,a=>⟨a.1,wq a.2⟩
 |.two p x y,a=>⟨λc=>wq (a.1 c),wq a.2⟩
def qgv{s:St}{a:Act}{c:Operand}{p:Bool}(hi:InvG P E s a w [] F γ)(h:gC s.sl c=.c (.bool p)):a.eval c=.bool p:=by
 have:=Br hi.sl c;rw[h]at this;exact this.2
def ql6{c:St}{a:Act}{γ:Nat->Value}{m:aT}(hi:InvG P E ⟨c.n,c.sl,m,c.gs⟩ a w [] F γ)(id:Nat):∃ F',InvG P E ⟨c.n,c.sl,Cc m id,c.gs⟩ a w [] F' γ:=by
 unfold Cc;split;rename_i x u h;have d:=h;have f:∃ v,bc P w F (ap m γ) (.own id) v:=by
  unfold me at h;simp only[bc];unfold ap;split at h;split at h;rename_i b _ _ _ _ e;cases b;simp[e];rename_i b _ _ _ e;cases b;simp[e];cases h;rename_i g;exact absurd rfl (g _)
 obtain⟨v,i⟩:=f;obtain⟨F',s1,j,_,_⟩:=D5 hi.mem (dv hi) (cX.of λ_ _ h=>h) d i;refine⟨F',hi.n,hi.df,?_,j,λt=>(hi.sl t).mono s1.hF s1.hw s1.hR,hi.hg,λt=>s1.repA (hi.gh t)⟩;obtain⟨γ0,d⟩:=hi.step;exact⟨γ0,d.trans s1⟩;exact⟨F,hi⟩
def Cd{b:St}{a:Act}{γ:Nat->Value}:(c:List Nat) -> {m:aT} -> {F:Nat->Prop}->InvG P E ⟨b.n,b.sl,m,b.gs⟩ a w [] F γ->∃ F',InvG P E ⟨b.n,b.sl,c.foldl Cc m,b.gs⟩ a w [] F' γ
 |[],_,F,hi=>⟨F,hi⟩
 |id::r,_,_,hi=>by
  obtain⟨F1,d⟩:=ql6 hi id;exact Cd r d
def fR{C:Cx}(r:CxOK P C){Λ:Nat->St->Option Tr}:(c:Code)->(k:Nat)->bP P E Λ c k->∀ {s:St} {t:Tr},cr P C bs Λ c k s=U t ->
  ∀ {Q:XE->St->Prop},t.sat Q->∀ {a:Act} {w:World},I P E s a w->c.wp P (eq P E Q) a w
 |.skip,k,_,s,t,h,Q,f,a,w,hi=>by
  simp only[cr,ucl]at h
  subst h
  exact wp_skip ⟨.normal,s,rfl,hi,f⟩
 |.ret,k,_,s,t,h,Q,f,a,w,hi=>by
  simp only[cr,ucl]at h
  subst h
  exact wp_ret ⟨.ret,s,rfl,hi,f⟩
 |.exit id,k,_,s,t,h,Q,f,a,w,hi=>by
  simp only[cr,ucl]at h
  subst h
  exact wp_exit ⟨.exit id,s,rfl,hi,f⟩
 |.region id ops N,k,_,s,t,h,Q,f,a,w,hi=>by
  simp only[cr]at h
  split at h
  ·rename_i z g
   simp at h
   subst h
   exact Ux r g f hi
  ·split at h
   ·rename_i z g
    simp at h
    subst h
    split at g<;>try (cases g;done)
    rename_i H
    obtain⟨rfl,n⟩:=H
    obtain⟨F,γ,j⟩:=hi
    refine ufp ?_
    rw[ubm]
    have:=JR r (DH n) ops.toList 0 (λi o hi=>by simpa using hi) s a w [] F γ z j rfl (λx=>⟨λK=>by simp at K,λ⟨i,_,hi,_⟩=>by omega⟩) g f
    simpa using this
   ·split at h
    ·rename_i z g
     simp at h
     subst h
     split at g<;>try (cases g;done)
     rename_i H
     obtain⟨rfl,n⟩:=H
     obtain⟨F,γ,j⟩:=hi
     refine ufp ?_
     rw[ubm]
     have:=JS r (DH n) ops.toList 0 (λi o hi=>by simpa using hi) [] s a w [] F γ z j (λx M=>by simp at M) rfl (λx=>⟨λK=>by simp at K,λ⟨i,_,hi,_⟩=>by omega⟩) g f
     simpa using this
    ·split at h
     ·rename_i z g
      simp at h
      subst h
      obtain⟨F,γ,j⟩:=hi
      obtain⟨F',R⟩:=Cd _ j
      exact Ux r g f ⟨F',γ,R⟩
     ·simp at h
      subst h
      exact f.1.elim
 |.seq x y,k,q,s,t,h,Q,f,a,w,hi=>by
  simp only[cr]at h
  split at h<;>try (cases h;done)
  rename_i O A
  refine wp_seq (wp_mono (fR r x k q.1 A (sx h f) hi) ?_)
  rintro e D w' ⟨B,m,rfl,d,b⟩
  cases B with
  |normal=>
   obtain⟨u,T,L⟩:=b
   exact fR r y _ q.2 T L d
  |exit i=>exact⟨.exit i,m,rfl,d,b⟩
  |ret=>exact⟨.ret,m,rfl,d,b⟩
  |panic p=>exact⟨.panic p,m,rfl,d,b⟩
  |val v=>exact⟨.val v,m,rfl,d,b⟩
  |jump l=>exact⟨.jump l,m,rfl,d,b⟩
 |.cond c x y,k,q,s,t,h,Q,f,a,w,hi=>by
  simp only[cr]at h
  split at h<;>try (cases h;done)
  rename_i p S
  split at h<;>try (cases h;done)
  rename_i x' y' M W
  simp at h
  subst h
  obtain⟨F,γ,j⟩:=id hi
  exact wp_cond_split (qgv j S) (λG=>fR r x _ q.1 M (f.1 G) hi) (λG=>fR r y _ q.2 W (f.2 G) hi)
 |.block id c,k,q,s,t,h,Q,f,a,w,hi=>by
  simp only[cr]at h
  split at h<;>try (cases h;done)
  rename_i O A
  simp at h
  subst h
  refine wp_block (wp_mono (fR r c k q A (wm f) hi) ?_)
  rintro e D w' ⟨B,m,rfl,d,b⟩
  cases B with
  |normal=>exact⟨.normal,m,rfl,d,b⟩
  |exit i=>
   simp only at b
   show Exit.inBlock id _ (.exit i) D w'
   unfold Exit.inBlock
   simp only
   split
   ·rename_i h
    rw[ufv h]at b
    exact⟨.normal,m,rfl,d,b⟩
   ·rename_i h
    rw[ufw h]at b
    exact⟨.exit i,m,rfl,d,b⟩
  |ret=>exact⟨.ret,m,rfl,d,b⟩
  |panic p=>exact⟨.panic p,m,rfl,d,b⟩
  |val v=>exact⟨.val v,m,rfl,d,b⟩
  |jump l=>exact⟨.jump l,m,rfl,d,b⟩
 |.loop c,k,q,s,t,h,Q,f,a,w,hi=>by
  simp only[cr]at h
  split at h
  ·rename_i z g
   simp at h
   subst h
   exact q s z g Q f a w hi
  ·simp at h
   subst h
   exact f.1.elim
 |.label _,_,_,_,_,h,_,f,_,_,hi=>by
  simp only[cr,ucl]at h
  subst h
  exact wp_label ⟨.normal,_,rfl,hi,f⟩
 |.goto l,_,_,_,_,h,_,f,_,_,hi=>by
  simp only[cr,ucl]at h
  subst h
  exact wp_goto ⟨.jump l,_,rfl,hi,f⟩
 |.scope c,k,q,s,t,h,Q,f,a,w,hi=>by
  simp only[cr]at h
  split at h<;>try (cases h;done)
  rename_i O A
  simp at h
  subst h
  refine wp_scope_straight (wp_mono (fR r c k q A (wq f) hi) ?_)
  rintro e D w' ⟨B,m,rfl,d,b⟩
  cases B with
  |normal=>exact⟨.normal,m,rfl,d,b⟩
  |exit i=>exact⟨.exit i,m,rfl,d,b⟩
  |ret=>exact⟨.ret,m,rfl,d,b⟩
  |panic p=>exact⟨.panic p,m,rfl,d,b⟩
  |val v=>exact b.elim
  |jump l=>exact b.elim
 |.rangeFunc ..,_,_,_,_,h,_,f,_,_,_=>by
  simp only[cr,ucl]at h
  subst h
  exact f.1.elim
 |.refuse _,_,_,_,_,h,_,f,_,_,_=>by
  simp only[cr,ucl]at h
  subst h
  exact f.1.elim
end
abbrev YF:Type:=Option TypeId×Ty
inductive MI where
 |o (t:Tmp) (e:TypeId) (ty:Ty)
 |x (id:Nat) (e:TypeId) (ty:Ty)
 |r (t:Tmp) (id off:Nat)
 |y (id:Nat) (e:TypeId) (fs:List YF)
 |g (t:Tmp) (f:FuncId) (ids:List Nat)
 |al (t s:Tmp)
@[reducible] def jD:List YF->Type
 |[]=>Unit
 |(U _,t)::r=>List t.den×jD r
 |(V,t)::r=>t.den×jD r
@[reducible] def cR:List MI->Type
 |[]=>Unit
 |.o _ _ ty::r=>List ty.den×cR r
 |.x _ _ ty::r=>ty.den×cR r
 |.r _ _ _::r=>cR r
 |.y _ _ a::r=>jD a×cR r
 |.g _ _ _::r=>cR r
 |.al _ _::r=>cR r
def jS(id off:Nat):AC:=if off<1000000 then .ptr id off else if off<1000000000 then .ifp (off-1000000) id else .fb (off-1000000000) id
def Kk:AV->Option (Nat×Nat)
 |.c (.ptr i o)=>if o<1000000 then U (i,o)else V
 |.c (.ifp ty i)=>if ty<999000000 then U (i,ty+1000000)else V
 |.c (.fb f i)=>U (i,f+1000000000)
 |_=>V
def qwz{a:AV}{o:Nat}(h:Kk a=U (i,o)):a=.c (jS i o):=by
 unfold Kk at h;split at h<;>try trivial
 split at h<;>try trivial
 rename_i b;cases h;rw[jS,ufv b];split at h<;>try trivial
 rename_i ty e d;cases h;rw[jS,ufw (Nat.not_lt.2 (Nat.le_add_left _ _)),ufv (by rw[show(1000000000:Nat)=999000000+1000000 from rfl];exact Nat.add_lt_add_right d _),ub0];cases h;rw[jS,ufw (Nat.not_lt.2 (ueo (show 1000000<=1000000000 by decide) (Nat.le_add_left _ _))),ufw (Nat.not_lt.2 (Nat.le_add_left _ _)),ub0]
def qwx{o:Nat}(h:bc P w F R (jS i o) v):∃ b,R i (.pointer (U ⟨b,0,V⟩))/\∀ R':Nat->Value->Prop,R' i (.pointer (U ⟨b,0,V⟩))->bc P w F R' (jS i o) v:=by
 unfold jS at h |-;by_cases a:o<1000000;rw[ufv a]at h |-;obtain⟨b,a,c⟩:=h;exact⟨b,a,λR' h=>⟨b,h,c⟩⟩;rw[ufw a]at h |-;by_cases c:o<1000000000;rw[ufv c]at h |-;obtain⟨b,a,c⟩:=h;exact⟨b,a,λR' h=>⟨b,h,c⟩⟩;rw[ufw c]at h |-;obtain⟨b,a,c⟩:=h;exact⟨b,a,λR' h=>⟨b,h,c⟩⟩
def cg(id:Nat):Nat:=2000000000000000000000000000000+id*1000
def cH(cs:List AC)(j:Nat):Option Nat:=match cs[j]? with
 |some (.own k)=>U k
 |_=>V
def zl0(id:Nat):(a:List YF)->jD a->Nat->List AC
 |[],_,_=>[]
 |(U _,_)::r,x,j=>.own (cg id+j)::zl0 id r x.2 (j+1)
 |(V,t)::r,x,j=>(enc t x.1).headD .nil::zl0 id r x.2 (j+1)
def kI:(a:List YF)->jD a->Nat->Option Ob
 |[],_,_=>V
 |(U e,t)::_,x,0=>U (.arr e t x.1)
 |(V,_)::_,_,0=>V
 |(U _,_)::r,x,j+1=>kI r x.2 j
 |(V,_)::r,x,j+1=>kI r x.2 j
def gD(m:aT):(g:List YF)->List AC->List Nat->Option (jD g×List Nat)
 |[],[],b=>U ((),b)
 |(U e,t)::r,c::cs,b=>match c with
  |.nil=>if e<dL then match gD m r cs b with
   |some (y,a)=>U (([],y),a)
   |none=>V
   else V
  |.own k=>if b.contains k then V else match m k with
   |some (.arr f d l)=>if h:d=t then if f=e then match gD m r cs (k::b)with
     |some (y,a)=>U ((cA h l,y),a)
     |none=>V
    else V else V
   |_=>V
  |_=>V
 |(V,t)::r,c::cs,b=>match dec t [c]with
  |some (x,[])=>match gD m r cs b with
   |some (y,a)=>U ((x,y),a)
   |none=>V
  |_=>V
 |_,_,_=>V
def ql(a:List YF)(j:Nat):Prop:=∃ e t,a[j]?= U (U e,t)
def ql.lt{a:List YF}(h:ql a j):j<a.length:=by
 obtain⟨e,t,h⟩:=h;exact(uak.1 h).1
def CV(id:Nat):(a:List YF)->(x:jD a)->(j:Nat)->(zl0 id a x j).length=a.length
 |[],_,_=>rfl
 |(U _,_)::r,x,j=>by simp[zl0,CV id r x.2]
 |(V,_)::r,x,j=>by simp[zl0,CV id r x.2]
def Hz{k:Nat}:(t:Ty) -> {cs:List AC} -> {x:t.den} -> {r:List AC}->dec t (.own k::cs)=U (x,r)->r=.own k::cs
 |.int _,_,_,_,h=>by simp[dec,oB]at h
 |.bool,_,_,_,h=>by simp[dec,oA]at h
 |.str,_,_,_,h=>by simp[dec,oD]at h
 |.sl _,_,_,_,h=>by simp[dec,oC]at h
 |.unit,_,_,_,h=>by
  simp only[dec,ucl,ueg]at h;exact h.2.symm
 |.pair a b,cs,x,r,h=>by
  simp only[dec]at h;split at h<;>try trivial
  rename_i i f d;split at h<;>try trivial
  rename_i j g e;obtain⟨_,rfl⟩:=h;have c:=Hz a d;subst c;exact Hz b e
 |.fm _,_,_,_,h=>by simp[dec,qO]at h
 |.ic _ _,_,_,_,h=>by simp[dec,qN]at h
 |.fc _,_,_,_,h=>by simp[dec,qM]at h
def MB(id:Nat)(b:List YF)(cs:List AC)(d j:Nat)(c:AC):Prop:=
 (c=.own (cg id+(d+j))/\ql b j) \/ ∃ (t:Ty) (x:t.den) (a:AC),cs[j]?= U a/\dec t [a]=U (x,[])/\[c]=enc t x
def HE{m:aT}{id:Nat}:{z:List YF} -> {cs:List AC} -> {v k:List Nat} -> {y:jD z}->gD m z cs v=U (y,k)->∀ n j c,(zl0 id z y n)[j]?= U c->MB id z cs n j c
 |[],[],_,_,_,_,n,j,c,g=>by simp[zl0]at g
 |f::r,[],v,k,y,h,_,_,_,_=>by
  obtain⟨o,t⟩:=f;cases o<;>simp[gD]at h
 |[],c::cs,v,k,y,h,_,_,_,_=>by simp[gD]at h
 |(U e,t)::r,c::cs,v,k,y,h,n,j,u,g=>by
  have key:∀ {w l:List Nat} {s:jD r},gD m r cs w=U (s,l)->(zl0 id r s (n+1))[j-1]?= U u->j≠0->MB id ((U e,t)::r) (c::cs) n j u:=by
   intro w l s p C L;obtain⟨i,rfl⟩:∃ i,j=i+1:=⟨j-1,by omega⟩;rcases HE p (n+1) i u C with ⟨a,B,q,b⟩|⟨q,D,A,a,b,d⟩
   exact .inl ⟨by rw[a];congr 2;omega,B,q,by simpa using b⟩;exact .inr ⟨q,D,A,by simpa using a,b,d⟩
  simp only[gD]at h;split at h<;>try trivial
  split at h<;>try trivial
  rename_i K;split at h<;>try trivial
  rename_i s l p;cases h;cases j with
  |zero=>
   simp only[zl0,uau,ucl]at g;exact .inl ⟨g.symm,e,t,rfl⟩
  |succ i=>exact key p (by simpa[zl0]using g) (by omega)
  split at h<;>try trivial
  split at h<;>try trivial
  split at h<;>try trivial
  split at h<;>try trivial
  split at h<;>try trivial
  rename_i s l p;cases h;cases j with
  |zero=>
   simp only[zl0,uau,ucl]at g;exact .inl ⟨g.symm,e,t,rfl⟩
  |succ i=>exact key p (by simpa[zl0]using g) (by omega)
 |(V,t)::r,c::cs,v,k,y,h,n,j,u,g=>by
  simp only[gD]at h;split at h<;>try trivial
  rename_i x E;split at h<;>try trivial
  rename_i s l p;cases h;cases j with
  |zero=>
   simp only[zl0,uau,ucl]at g;have G:=ku t E;have F:(enc t x).length=1:=by
    rw[fl];simpa using G.symm
   refine .inr ⟨t,x,c,rfl,E,?_⟩
   match H:enc t x,F with
   |[a],_=>
    rw[H]at g;rw[<- g];rfl
  |succ i=>
   rcases HE p (n+1) i u (by simpa[zl0]using g)with ⟨a,B,q,b⟩|⟨q,D,A,a,b,d⟩
   exact .inl ⟨by rw[a];congr 2;omega,B,q,by simpa using b⟩;exact .inr ⟨q,D,A,by simpa using a,b,d⟩
def px(a:List Nat):List AC:=a.map λid=>.ptr id 0
def yH:List AC->Option (List Nat)
 |[]=>U []
 |.ptr i 0::r=>match yH r with
  |some l=>U (i::l)
  |none=>V
 |_=>V
def Um:{cs:List AC} -> {a:List Nat}->yH cs=U a->cs=px a
 |[],a,h=>by
  simp only[yH,ucl]at h
  subst h
  rfl
 |c::r,a,h=>by
  unfold yH at h
  split at h<;>try (cases h;done)
  ·rename_i b
   cases b
  ·rename_i i e b
   cases b
   split at h<;>try (cases h;done)
   rename_i l d
   simp at h
   subst h
   rw[Um d]
   rfl
def ba(t:Tmp):Nat:=1000000000000000000000000000000+t
def iN(id:Nat):List MI->Bool
 |[]=>Y
 |.x i _ _::r=>i==id || iN id r
 |.y i _ _::r=>i==id || iN id r
 |_::r=>iN id r
def jj(s:Tmp):List MI->Bool
 |[]=>Y
 |.o t _ _::r=>t==s || jj s r
 |_::r=>jj s r
def bB(all:List MI)(b:Nat->AV)(m:aT):(L:List MI)->List Nat->Option (cR L)
 |[],_=>U ()
 |.o t e ty::r,a=>match b t with
  |.c .nil=>if e<dL then match bB all b m r a with
   |some y=>U ([],y)
   |none=>V
   else V
  |.c (.own id)=>if a.contains id then V else match m id with
   |some (.arr d n l)=>if h:n=ty then if d=e then match bB all b m r (id::a)with
     |some y=>U (cA h l,y)
     |none=>V
    else V else V
   |_=>V
  |_=>V
 |.x id e ty::r,a=>match m id with
  |some (.box d cs)=>if d=e then match dec ty cs with
    |some (x,[])=>match bB all b m r a with
     |some y=>U (x,y)
     |none=>V
    |_=>V
   else V
  |_=>V
 |.r t id off::r,a=>match Kk (b t)with
  |some (i,o)=>if i=id/\o=off/\iN id all=Z then bB all b m r a else V
  |none=>V
 |.g t f k::r,a=>match b t with
  |.c (.fn q cs)=>if q=f/\yH cs=U k/\k.all (λid=>iN id all)=Z then bB all b m r a else V
  |_=>V
 |.al t s::r,a=>match b t,b s with
  |.c (.own i),.c (.own j)=>if i=j/\jj s all=Z then bB all b m r a else V
  |.c .nil,.c .nil=>if jj s all=Z then bB all b m r a else V
  |_,_=>V
 |.y id e u::r,a=>match m id with
  |some (.box d cs)=>if d=e then match gD m u cs a with
    |some (x,p)=>match bB all b m r p with
     |some y=>U (x,y)
     |none=>V
    |none=>V
   else V
  |_=>V
def bG:(L:List MI)->cR L->aT
 |[],_=>λ_=>V
 |.o t e ty::r,x=>λi=>if i=ba t then U (.arr e ty x.1)else bG r x.2 i
 |.x id e ty::r,x=>λi=>if i=id then U (.box e (enc ty x.1))else bG r x.2 i
 |.r _ _ _::r,x=>bG r x
 |.g _ _ _::r,x=>bG r x
 |.al _ _::r,x=>bG r x
 |.y id e a::r,x=>λi=>if i=id then U (.box e (zl0 id a x.1 0))else if cg id<=i/\i<cg id+a.length then kI a x.1 (i-cg id)else bG r x.2 i
def bx:List MI->Nat->AV
 |[],_=>.dead
 |.o t _ _::r,i=>if i=t then .c (.own (ba t))else bx r i
 |.x _ _ _::r,i=>bx r i
 |.r t id off::r,i=>if i=t then .c (jS id off)else bx r i
 |.y _ _ _::r,i=>bx r i
 |.g t f a::r,i=>if i=t then .c (.fn f (px a))else bx r i
 |.al t s::r,i=>if i=t then .c (.own (ba s))else bx r i
def H4:(p:PT)->p.den->AV
 |.d t,x=>dE t x
 |.ptr t,x=>.c (.sptr (enc t x))
 |.fn ps rs,g=>.c (.fv ps rs g)
 |.pf ps rs,g=>.c (.pv ps rs g.1 g.2)
 |.pfn ps rs,g=>.c (.sptr [.fv ps rs g])
 |.pk f,_=>.c (.sptr [.fn f []])
def pL:(vs:List (Tmp×PT))->ag (vs.map (·.2))->(Nat->AV)->Nat->AV
 |[],_,f,i=>f i
 |(t,p)::r,x,f,i=>if i=t then H4 p x.1 else pL r x.2 f i
def CG(m:aT):MI->aT
 |.x id _ _=>match m id with
  |some (.box e cs)=>match jr m cs with
   |some (cs',u)=>match ax m u id with
    |some (.box _ _)=>ax m (u++[(id,.box e cs')])
    |_=>m
   |none=>m
  |_=>m
 |_=>m
def yk:List MI->aT->aT
 |[],m=>m
 |i::r,m=>yk r (CG m i)
structure LS where
 vs:List (Tmp×PT)
 ms:List MI
@[reducible] def LS.X(L:LS):Type:=ag (L.vs.map (·.2))×cR L.ms
def LS.ext(Γ:Gm)(L:LS)(s:St):Option (L.X×List Prop):=
 match dK s.mem (L.vs.map λv=>s.at v.1)with
 |some (xs,u)=>match jf Γ (L.vs.map (·.2)) xs with
  |some (x,n)=>match bB L.ms s.at (yk L.ms (ax s.mem u)) L.ms []with
   |some y=>U ((x,y),n)
   |none=>V
  |none=>V
 |none=>V
def LS.tpl(L:LS)(n:Nat)(x:L.X):St:=⟨n,λi=>if i<10000 then pL L.vs x.1 (bx L.ms) i else .dead,bG L.ms x.2,λi=>pL L.vs x.1 (bx L.ms) (i+10000)⟩
section
variable {P:Program} {B:Nat} {w w':World} {E:Env} {F F':Nat->Prop} {γ γ' γ0:Nat->Value} {Γ:Gm} {M m:aT} {R:Nat->Value->Prop}
def P4:{p:PT} -> {x:p.den} -> {v:Value}->Fg P w F p x v->aE P w F R (H4 p x) v
 |.d t,x,v,h=>fT h
 |.ptr t,x,v,h=>by
  obtain⟨ad,rfl,c,e⟩:=h;exact⟨rfl,ad,rfl,c,aA.enc t x e⟩
 |.fn ps rs,g,v,h=>by
  have b:=h;obtain⟨f,a,rfl,_⟩:=id b;exact⟨rfl,b⟩
 |.pf ps rs,g,v,h=>by
  have b:=h;obtain⟨f,a,rfl,_⟩:=id b;exact⟨rfl,b⟩
 |.pfn ps rs,g,v,h=>by
  obtain⟨ad,u,rfl,c,e,i⟩:=h;have j:u.oneCell'=true:=by
   obtain⟨f,a,rfl,_⟩:=id i;rfl
  exact⟨rfl,ad,rfl,c,⟨u,e,j,by simp only[bc];exact i⟩,uT⟩
 |.pk f,_,v,h=>by
  obtain⟨ad,rfl,c,e⟩:=h;exact⟨rfl,ad,rfl,c,⟨_,e,rfl,by simp only[bc];exact⟨#[],rfl,rfl,uT⟩⟩,uT⟩
def bz(a:Nat->AV)(m:aT):List MI->Nat->Option Nat
 |[],_=>V
 |.o t _ _::r,i=>if i=ba t then (match a t with
  |.c (.own id)=>U id
  |_=>V)else bz a m r i
 |.x id _ _::r,i=>if i=id then U id else bz a m r i
 |.r _ _ _::r,i=>bz a m r i
 |.g _ _ _::r,i=>bz a m r i
 |.al _ _::r,i=>bz a m r i
 |.y id _ b::r,i=>if i=id then U id else if cg id<=i/\i<cg id+b.length then (match m id with
  |some (.box _ cs)=>cH cs (i-cg id)
  |_=>V)else bz a m r i
def bQ(γ:Nat->Value)(a:Nat->AV)(m:aT)(L:List MI)(i:Nat):Value:=match bz a m L i with
 |some k=>γ k
 |none=>.slice V 0 0
def qT:{E:List YF} -> {cs:List AC} -> {n g:List Nat} -> {y:jD E}->gD m E cs n=U (y,g) ->
  cs.length=E.length/\(∀ k,k∈n->k∈g)/\(∀ j k,cH cs j=U k->k ∉ n/\k∈g/\∃ e t l,m k=U (.arr e t l)) /\
  (∀ i j k,cH cs i=U k->cH cs j=U k->i=j)/\∀ j o,kI E y j=U o->(cs[j]?= U .nil/\∃ e t,o=.arr e t []/\e<dL) \/ ∃ k,cs[j]?= U (.own k)/\m k=U o
 |[],[],n,g,y,h=>by
  simp only[gD,ucl,ueg]at h;refine⟨rfl,λk v=>h.2 ▸ v,λj k d=>by simp[cH]at d,λi j k hi=>by simp[cH]at hi,λj o d=>by simp[kI]at d⟩
 |f::r,[],n,g,y,h=>by
  obtain⟨o,t⟩:=f;cases o<;>simp[gD]at h
 |[],c::cs,n,g,y,h=>by simp[gD]at h
 |(U e,t)::r,c::cs,n,g,y,h=>by
  simp only[gD]at h;split at h<;>try trivial
  split at h<;>try trivial
  rename_i K;split at h<;>try trivial
  rename_i P D B;cases h;obtain⟨w,u,q,z,A⟩:=qT B;refine⟨by simp[w],u,λj k d=>?_,λi j k hi d=>?_,λj o d=>?_⟩;cases j with
  |zero=>simp[cH]at d
  |succ j=>exact q j k (by simpa[cH]using d)
  cases i with
  |zero=>simp[cH]at hi
  |succ i=>
   cases j with
   |zero=>simp[cH]at d
   |succ j=>rw[z i j k (by simpa[cH]using hi) (by simpa[cH]using d)]
  cases j with
  |zero=>
   simp only[kI,ucl]at d;exact .inl ⟨rfl,e,t,d.symm,K⟩
  |succ j=>
   rcases A j o (by simpa[kI]using d)with ⟨a,p,C,c⟩|⟨k,a,b⟩
   exact .inl ⟨by simpa using a,p,C,c⟩;exact .inr ⟨k,by simpa using a,b⟩
  rename_i F;split at h<;>try trivial
  rename_i M;split at h<;>try trivial
  rename_i p N l O;split at h<;>try trivial
  rename_i L;split at h<;>try trivial
  rename_i G;split at h<;>try trivial
  rename_i P D B;cases h;obtain⟨w,u,q,z,A⟩:=qT B;have H:F ∉ n:=by simpa using M
  refine⟨by simp[w],λk v=>u k (ubj _ v),λj k d=>?_,λi j k hi d=>?_,λj o d=>?_⟩;cases j with
  |zero=>
   simp only[cH,uau,ucl]at d;subst d;exact⟨H,u _ (by simp),p,N,l,O⟩
  |succ j=>
   obtain⟨a,b,c⟩:=q j k (by simpa[cH]using d);exact⟨λR=>a (ubj _ R),b,c⟩
  cases i with
  |zero=>
   simp only[cH,uau,ucl]at hi;subst hi;cases j with
   |zero=>rfl
   |succ j=>exact absurd (by simp) (q j F (by simpa[cH]using d)).1
  |succ i=>
   cases j with
   |zero=>
    simp only[cH,uau,ucl]at d;subst d;exact absurd (by simp) (q i F (by simpa[cH]using hi)).1
   |succ j=>rw[z i j k (by simpa[cH]using hi) (by simpa[cH]using d)]
  cases j with
  |zero=>
   refine .inr ⟨F,rfl,?_⟩;rw[O,<- d];subst G;subst L;rfl
  |succ j=>
   rcases A j o (by simpa[kI]using d)with ⟨a,p,C,c⟩|⟨k,a,b⟩
   exact .inl ⟨by simpa using a,p,C,c⟩;exact .inr ⟨k,by simpa using a,b⟩
 |(V,t)::r,c::cs,n,g,y,h=>by
  simp only[gD]at h;split at h<;>try trivial
  rename_i x S;split at h<;>try trivial
  rename_i P D B;cases h;obtain⟨w,u,q,z,A⟩:=qT B;have s:∀ k,cH (c::cs) 0=U k->False:=λk v=>by
   simp only[cH]at v;split at v<;>try trivial
   rename_i T Q;cases Q;have:=Hz t S;cases this
  refine⟨by simp[w],u,λj k d=>?_,λi j k hi d=>?_,λj o d=>?_⟩;cases j with
  |zero=>exact(s k d).elim
  |succ j=>exact q j k (by simpa[cH]using d)
  cases i with
  |zero=>exact(s k hi).elim
  |succ i=>
   cases j with
   |zero=>exact(s k d).elim
   |succ j=>rw[z i j k (by simpa[cH]using hi) (by simpa[cH]using d)]
  cases j with
  |zero=>simp[kI]at d
  |succ j=>
   rcases A j o (by simpa[kI]using d)with ⟨a,p,C,c⟩|⟨k,a,b⟩
   exact .inl ⟨by simpa using a,p,C,c⟩;exact .inr ⟨k,by simpa using a,b⟩
def jh{all:List MI}{B:Nat->AV}:{L:List MI} -> {d:List Nat} -> {y:cR L}->bB all B m L d=U y->∀ i k,bz B m L i=U k ->
  (i=k/\∃ e cs,m k=U (.box e cs))\/(k ∉ d/\∃ e t l,m k=U (.arr e t l))
 |[],_,_,_,i,k,b=>by simp[bz]at b
 |.o t e ty::r,d,y,h,i,k,b=>by
  simp only[bB]at h;split at h<;>try trivial
  rename_i n;split at h<;>try trivial
  rename_i E;split at h<;>try trivial
  rename_i A p;simp only[bz,n]at b;split at b;cases b;exact jh p i k b;rename_i id n;split at h<;>try trivial
  rename_i w;split at h<;>try trivial
  rename_i s z l q;split at h<;>try trivial
  split at h<;>try trivial
  split at h<;>try trivial
  rename_i A p;simp only[bz,n]at b;split at b;cases b;exact .inr ⟨by simpa using w,s,z,l,q⟩;rcases jh p i k b with j|⟨j,u⟩
  exact .inl j;exact .inr ⟨λv=>j (ubj _ v),u⟩
 |.x id e ty::r,d,y,h,i,k,b=>by
  simp only[bB]at h;split at h<;>try trivial
  rename_i s cs q;split at h<;>try trivial
  split at h<;>try trivial
  split at h<;>try trivial
  rename_i A p;simp only[bz]at b;split at b;rename_i hi;cases b;exact .inl ⟨hi,s,cs,q⟩;exact jh p i k b
 |.r t id off::r,d,y,h,i,k,b=>by
  simp only[bB]at h;split at h<;>try trivial
  split at h<;>try trivial
  exact jh h i k b
 |.g t f id::r,d,y,h,i,k,b=>by
  simp only[bB]at h;split at h<;>try trivial
  split at h<;>try trivial
  exact jh h i k b
 |.al t O::r,d,y,h,i,k,b=>by
  simp only[bB]at h;split at h<;>try trivial
  all_goals (split at h<;>try trivial)
  all_goals exact jh h i k b
 |.y id e H::r,d,y,h,i,k,b=>by
  simp only[bB]at h;split at h<;>try trivial
  rename_i s cs q;split at h<;>try trivial
  split at h<;>try trivial
  rename_i x G F;split at h<;>try trivial
  rename_i A p;obtain⟨K,C,D,M,N⟩:=qT F;simp only[bz,q]at b;split at b;rename_i hi;cases b;exact .inl ⟨hi,s,cs,q⟩;split at b;obtain⟨a,_,c⟩:=D _ k b;exact .inr ⟨a,c⟩;rcases jh p i k b with j|⟨j,u⟩
  exact .inl j;exact .inr ⟨λv=>j (C k v),u⟩
def oK{all:List MI}{F:Nat->AV}:{L:List MI} -> {G:List Nat} -> {y:cR L}->bB all F m L G=U y->∀ i j k,bz F m L i=U k->bz F m L j=U k->i=j
 |[],_,_,_,i,j,k,hs,_=>by simp[bz]at hs
 |.o t e ty::r,G,y,h,i,j,k,hi,a=>by
  simp only[bB]at h;split at h<;>try trivial
  rename_i E;split at h<;>try trivial
  rename_i hrw;split at h<;>try trivial
  rename_i O v;simp only[bz,E]at hi a;split at hi;cases hi;split at a;cases a;exact oK v i j k hi a;rename_i id E;split at h<;>try trivial
  split at h<;>try trivial
  rename_i P ty' l C;split at h<;>try trivial
  split at h<;>try trivial
  split at h<;>try trivial
  rename_i O v;have u:∀ q,bz F m r q=U id->False:=λq D=>by
   rcases jh v q id D with ⟨_,H,cs,s⟩|⟨B,_⟩
   rw[C]at s;cases s;exact B (by simp)
  simp only[bz,E]at hi a;split at hi;rename_i n;split at a;rename_i d;rw[n,d];cases hi;exact(u j a).elim;split at a;cases a;exact(u i hi).elim;exact oK v i j k hi a
 |.x id e ty::r,G,y,h,i,j,k,hi,a=>by
  simp only[bB]at h;split at h<;>try trivial
  rename_i P cs C;split at h<;>try trivial
  split at h<;>try trivial
  split at h<;>try trivial
  rename_i O v;have u:∀ q,bz F m r q=U id->q=id:=λq D=>by
   rcases jh v q id D with ⟨B,_⟩|⟨_,H,N,M,s⟩
   exact B;rw[C]at s;cases s
  simp only[bz]at hi a;split at hi;rename_i n;cases hi;split at a;rename_i d;rw[n,d];rw[n,u j a];split at a;rename_i d;cases a;rw[d,u i hi];exact oK v i j k hi a
 |.r t id off::r,G,y,h,i,j,k,hi,a=>by
  simp only[bB]at h;split at h<;>try trivial
  split at h<;>try trivial
  exact oK h i j k hi a
 |.g t f id::r,G,y,h,i,j,k,hi,a=>by
  simp only[bB]at h;split at h<;>try trivial
  split at h<;>try trivial
  exact oK h i j k hi a
 |.al t s0::r,G,y,h,i,j,k,hi,a=>by
  simp only[bB]at h;split at h<;>try trivial
  all_goals (split at h<;>try trivial)
  all_goals exact oK h i j k hi a
 |.y id e fs::r,G,y,h,i,j,k,hi,a=>by
  simp only[bB]at h;split at h<;>try trivial
  rename_i P cs C;split at h<;>try trivial
  split at h<;>try trivial
  rename_i x us' hx;split at h<;>try trivial
  rename_i O v;obtain⟨g1,g2,Q,S,g5⟩:=qT hx;have w:∀ q,bz F m r q=U id->q=id:=λq D=>by
   rcases jh v q id D with ⟨B,_⟩|⟨_,H,N,M,s⟩
   exact B;rw[C]at s;cases s
  have z:∀ p q k,cH cs p=U k->bz F m r q=U k->False:=λp q k K D=>by
   obtain⟨_,b,H,N,M,c⟩:=Q p k K;rcases jh v q k D with ⟨_,e3,R,s⟩|⟨B,_⟩
   rw[c]at s;cases s;exact B b
  have A:∀ p,cH cs p=U id->False:=λp K=>by
   obtain⟨_,b,H,N,M,c⟩:=Q p id K;rw[C]at c;cases c
  simp only[bz,C]at hi a;split at hi;rename_i n;cases hi;split at a;rename_i d;rw[n,d];split at a;exact(A _ a).elim;rw[n,w j a];split at hi;rename_i T;split at a;cases a;exact(A _ hi).elim;split at a;rename_i W;have:=S _ _ k hi a;omega;exact(z _ _ k hi a).elim;split at a;rename_i d;cases a;rw[d,w i hi];split at a;exact(z _ _ k a hi).elim;exact oK v i j k hi a
def EZ(w:World)(v:Value)(j:Nat)(u:Value):Prop:=∃ b arr ty,v=.pointer (U ⟨b,0,V⟩)/\w.heap[b]?= U (.cells arr ty (0,0))/\arr[j]?= U u
def Td{e:Nat}{ty:Ty}{A:Prop}(n:e<dL):fI P B w F R (.slice V 0 0) (.arr e ty [])/\(A \/ ∀ b,¬ bK w (.arr e ty []) (.slice V 0 0) b):=by
 have a:∀ (i:Nat) (x:ty.den),([]:List ty.den)[i]? ≠ U x:=λi x h=>by simp at h
 refine⟨?_,.inr λb d=>?_⟩;by_cases h:e<cj;exact .inl ⟨h,[],by simpa using ucs w B e ty.size,λg l=>by simp[Value.ownBlock]at l,λi x f=>absurd f (a i x),λu m=>by simp at m⟩;exact .inr (.inl ⟨Nat.not_lt.1 h,n,[],by simpa using ucs w B (rY e) ty.size,λg l=>by simp[Value.ownBlock]at l,λu m=>by simp at m,λi x k c f=>absurd f (a i x),λi x f=>absurd f (a i x),λi j o p b hi=>absurd hi (Nat.not_lt_zero i)⟩);rcases d with d|⟨_,i,u,hi,_⟩|d
 simp[Value.ownBlock]at d;exact absurd hi (Nat.not_lt_zero i);cases d
def oN{all:List MI}{S:Nat->AV}(C:MemOK P B w F γ m):{L:List MI} -> {H:List Nat} -> {y:cR L}->bB all S m L H=U y->∀ i o,bG L y i=U o ->
  ∀ R':Nat->Value->Prop,(∀ id e p,MI.y id e p∈L->∀ j u,ql p j->EZ w (γ id) j u->R' (cg id+j) u)->fI P B w F R' (bQ γ S m L i) o/\((∃ k o0,bz S m L i=U k/\m k=U o0/\∀ b,bK w o (bQ γ S m L i) b->bK w o0 (γ k) b) \/ ∀ b,¬ bK w o (bQ γ S m L i) b)
 |[],_,_,_,i,o,n=>by simp[bG]at n
 |.o t e ty::r,H,y,h,i,o,n=>by
  intro R' z;simp only[bB]at h;split at h<;>try trivial
  rename_i E;split at h<;>try trivial
  rename_i D;split at h<;>try trivial
  rename_i y' G;cases h;by_cases hi:i=ba t;simp only[bG,ufv hi,ucl]at n;subst n;simp only[bQ,bz,ufv hi,E];exact Td D;simp only[bG,ufw hi]at n;have:=oN C G i o n R' (λid e p d=>z id e p (ubj _ d));simp only[bQ,bz,ufw hi]at this |-;exact this;rename_i id E;split at h<;>try trivial
  split at h<;>try trivial
  rename_i e' ty' l s;split at h<;>try trivial
  rename_i hty;split at h<;>try trivial
  rename_i A;split at h<;>try trivial
  rename_i y' G;cases h;by_cases hi:i=ba t;simp only[bG,ufv hi,ucl]at n;subst n;simp only[bQ,bz,ufv hi,E];subst hty;subst A;have hob:=C.ob id _ s;exact⟨hob,.inl ⟨id,_,rfl,s,λ_ h=>h⟩⟩;simp only[bG,ufw hi]at n;have:=oN C G i o n R' (λid e p d=>z id e p (ubj _ d));simp only[bQ,bz,ufw hi]at this |-;exact this
 |.x id e ty::r,H,y,h,i,o,n=>by
  intro R' z;simp only[bB]at h;split at h<;>try trivial
  rename_i e' cs s;split at h<;>try trivial
  rename_i A;split at h<;>try trivial
  rename_i x Q;split at h<;>try trivial
  rename_i y' G;cases h;by_cases hi:i=id;simp only[bG,ufv hi,ucl]at n;subst n;simp only[bQ,bz,ufv hi];subst A;obtain⟨b,arr,T,W,h3,h4,h5,h6⟩:=C.ob id _ s;have N:=ku ty Q;refine⟨⟨b,arr,T,W,h3,h4,?_,aA.enc ty x (aA.dec ty Q h6).1⟩,.inl ⟨id,_,rfl,s,λ_ h=>h⟩⟩;rw[fl,h5,N];simp;simp only[bG,ufw hi]at n;have:=oN C G i o n R' (λid e p d=>z id e p (ubj _ d));simp only[bQ,bz,ufw hi]at this |-;exact this
 |.r t id off::r,H,y,h,i,o,n=>by
  intro R' z;simp only[bB]at h;split at h<;>try trivial
  split at h<;>try trivial
  exact oN C h i o n R' (λid e p d=>z id e p (ubj _ d))
 |.g t f id::r,H,y,h,i,o,n=>by
  intro R' z;simp only[bB]at h;split at h<;>try trivial
  split at h<;>try trivial
  exact oN C h i o n R' (λid e p d=>z id e p (ubj _ d))
 |.al t s0::r,H,y,h,i,o,n=>by
  intro R' z;simp only[bB]at h;split at h<;>try trivial
  all_goals (split at h<;>try trivial)
  all_goals exact oN C h i o n R' (λid e p d=>z id e p (ubj _ d))
 |.y id e p::r,H,y,h,i,o,n=>by
  intro R' z;simp only[bB]at h;split at h<;>try trivial
  rename_i e' cs s;split at h<;>try trivial
  rename_i A;split at h<;>try trivial
  rename_i x us' Q;split at h<;>try trivial
  rename_i y' G;cases h;subst A;obtain⟨g1,g2,g3,g4,g5⟩:=qT Q;by_cases hi:i=id;simp only[bG,ufv hi,ucl]at n;subst n;simp only[bQ,bz,ufv hi];obtain⟨b,arr,T,W,h3,h4,h5,h6⟩:=C.ob id _ s;refine⟨⟨b,arr,T,W,h3,h4,?_,?_⟩,.inl ⟨id,_,rfl,s,λ_ h=>h⟩⟩;rw[h5,g1,CV];refine ki _ λj c K=>?_;have hj:j<p.length:=by
   have:=(uak.1 K).1;rw[CV]at this;exact this
  have hjc:j<cs.length:=by omega
  rcases HE Q 0 j c K with ⟨rfl,q⟩|⟨t0,x0,c0,q1,q2,q3⟩
  obtain⟨u,p1,p2,_⟩:=aN.at_ h6 (uaq hjc);refine⟨u,p1,p2,?_⟩;rw[uex];exact z id _ p ucc j u q ⟨b,arr,_,T,W,p1⟩;obtain⟨u,p1,p2⟩:=aN.at_ h6 q1;have hr1:aN P w F (ap m γ) [c0] (λi v=>i=0/\v=u):=⟨⟨u,⟨rfl,rfl⟩,p2⟩,uT⟩;have O:=aA.enc (P:=P) (R:=R') t0 x0 (aA.dec t0 q2 hr1).1;rw[<- q3]at O;obtain⟨⟨u',⟨_,rfl⟩,p3⟩,_⟩:=O;exact⟨u',p1,p3⟩;by_cases hk:cg id<=i/\i<cg id+p.length;simp only[bG,ufw hi,ufv hk]at n;simp only[bQ,bz,ufw hi,ufv hk,s];rcases g5 _ o n with ⟨a,e0,t0,rfl,D⟩|⟨k,a,b⟩
  have q:cH cs (i-cg id)=none:=by simp[cH,a]
  rw[q];exact Td D;have q:cH cs (i-cg id)=U k:=by simp[cH,a]
  rw[q];have M:=b;obtain⟨_,_,e2,t2,l2,K⟩:=g3 _ k q;rw[K]at M;cases M;exact⟨C.ob k _ K,.inl ⟨k,_,rfl,K,λ_ h=>h⟩⟩;simp only[bG,ufw hi,ufw hk]at n;have:=oN C G i o n R' (λid e p d=>z id e p (ubj _ d));simp only[bQ,bz,ufw hi,ufw hk]at this |-;exact this
def mS{all:List MI}{v:Nat->AV}{id:Nat}:{L:List MI} -> {p:List Nat} -> {y:cR L}->bB all v m L p=U y->iN id L=Z->(∀ t e ty,MI.o t e ty∈L->ba t≠id)->id<1000000000000000000000000000000->∃ o,bG L y id=U o/\bz v m L id=U id
 |[],_,_,_,h,_,_=>by simp[iN]at h
 |.o t e ty::r,p,y,h,d,a,c=>by
  have q:¬ id=ba t:=λs=>a t e ty (by simp) s.symm;simp only[bB]at h;split at h<;>try trivial
  split at h<;>try trivial
  rename_i A;split at h<;>try trivial
  rename_i u n;cases h;simp only[bG,bz,ufw q];exact mS n d (λl j b k=>a l j b (ubj _ k)) c;split at h<;>try trivial
  split at h<;>try trivial
  split at h<;>try trivial
  split at h<;>try trivial
  split at h<;>try trivial
  rename_i u n;cases h;simp only[bG,bz,ufw q];exact mS n d (λl j b k=>a l j b (ubj _ k)) c
 |.x i e ty::r,p,y,h,d,a,c=>by
  simp only[bB]at h;split at h<;>try trivial
  split at h<;>try trivial
  split at h<;>try trivial
  split at h<;>try trivial
  rename_i u n;cases h;by_cases hi:id=i;simp only[bG,bz,ufv hi];exact⟨_,rfl,by rw[hi]⟩;simp only[bG,bz,ufw hi];simp only[iN,udt,ufh]at d;exact mS n (d.resolve_left (λh=>hi h.symm)) (λl j b k=>a l j b (ubj _ k)) c
 |.r t i off::r,p,y,h,d,a,c=>by
  simp only[bB]at h;split at h<;>try trivial
  split at h<;>try trivial
  exact mS (L:=r) h d (λl j b k=>a l j b (ubj _ k)) c
 |.g t f i::r,p,y,h,d,a,c=>by
  simp only[bB]at h;split at h<;>try trivial
  split at h<;>try trivial
  exact mS (L:=r) h d (λl j b k=>a l j b (ubj _ k)) c
 |.al t B::r,p,y,h,d,a,c=>by
  simp only[bB]at h;split at h<;>try trivial
  all_goals (split at h<;>try trivial)
  all_goals exact mS (L:=r) h d (λl j b k=>a l j b (ubj _ k)) c
 |.y i e w::r,p,y,h,d,a,c=>by
  simp only[bB]at h;split at h<;>try trivial
  split at h<;>try trivial
  split at h<;>try trivial
  split at h<;>try trivial
  rename_i u n;cases h;by_cases hi:id=i;simp only[bG,bz,ufv hi];exact⟨_,rfl,by rw[hi]⟩;have z:¬ (cg i<=id/\id<cg i+w.length):=λs=>by
   have:=s.1;unfold cg at this;omega
  simp only[bG,bz,ufw hi,ufw z];simp only[iN,udt,ufh]at d;exact mS n (d.resolve_left (λh=>hi h.symm)) (λl j b k=>a l j b (ubj _ k)) c
end
def zD:List MI->List Nat
 |[]=>[]
 |.y id _ _::r=>id::zD r
 |_::r=>zD r
def bp:List MI->Bool
 |[]=>Z
 |.o t _ _::r=>J (t<1000000000000000000000000000000)&&bp r
 |.x id _ _::r=>J (id<1000000000000000000000000000000)&&bp r
 |.r _ id _::r=>J (id<1000000000000000000000000000000)&&bp r
 |.g _ _ a::r=>a.all (λid=>J (id<1000000000000000000000000000000))&&bp r
 |.al _ _::r=>bp r
 |.y id _ b::r=>J (id<1000000000000000000000000000000)&&(J (b.length<=1000)&&(!(zD r).contains id&&bp r))
def LS.low(L:LS):Bool:=bp L.ms
section
variable {P:Program} {B:Nat} {w w':World} {E:Env} {F F':Nat->Prop} {γ γ' γ0:Nat->Value} {Γ:Gm} {M m:aT} {R:Nat->Value->Prop}
def oZ{id:Nat}{t:Tmp}:{c:List MI}->bp c=Z -> .r t id off∈c->id<1000000000000000000000000000000
 |[],_,h=>by simp at h
 |.o _ _ _::r,h,b=>by
  simp only[bp,udc]at h;rcases uei.1 b with a|a
  cases a;exact oZ h.2 a
 |.x _ _ _::r,h,b=>by
  simp only[bp,udc]at h;rcases uei.1 b with a|a
  cases a;exact oZ h.2 a
 |.r _ _ _::r,h,b=>by
  simp only[bp,udc,ucu]at h;rcases uei.1 b with a|a
  cases a;exact h.1;exact oZ h.2 a
 |.g _ _ _::r,h,b=>by
  simp only[bp,udc]at h;rcases uei.1 b with a|a
  cases a;exact oZ h.2 a
 |.al _ _::r,h,b=>by
  simp only[bp]at h;rcases uei.1 b with a|a
  cases a;exact oZ h a
 |.y _ _ _::r,h,b=>by
  simp only[bp,udc]at h;rcases uei.1 b with a|a
  cases a;exact oZ h.2.2.2 a
def rq{c:List Nat}{t:Tmp}:{e:List MI}->bp e=Z -> .g t f c∈e->∀ id∈c,id<1000000000000000000000000000000
 |[],_,h=>by simp at h
 |.o _ _ _::r,h,b=>by
  simp only[bp,udc]at h;rcases uei.1 b with a|a
  cases a;exact rq h.2 a
 |.x _ _ _::r,h,b=>by
  simp only[bp,udc]at h;rcases uei.1 b with a|a
  cases a;exact rq h.2 a
 |.r _ _ _::r,h,b=>by
  simp only[bp,udc]at h;rcases uei.1 b with a|a
  cases a;exact rq h.2 a
 |.g _ _ _::r,h,b=>by
  simp only[bp,udc]at h;rcases uei.1 b with a|a
  cases a;exact λid d=>ucx (uc8.1 h.1 id d);exact rq h.2 a
 |.al _ _::r,h,b=>by
  simp only[bp]at h;rcases uei.1 b with a|a
  cases a;exact rq h a
 |.y _ _ _::r,h,b=>by
  simp only[bp,udc]at h;rcases uei.1 b with a|a
  cases a;exact rq h.2.2.2 a
def qtg{a:List MI}(h:bp a=Z){id:Nat}{t:Tmp}(b : .r t id off∈a):∀ c:Tmp,ba c≠id:=by
 have:=oZ h b;unfold ba;omega
def Cf:{a:List YF}->(y:jD a) -> {j:Nat}->ql a j->∃ e t l,kI a y j=U (.arr e t l)
 |[],_,_,⟨_,_,h⟩=>by simp at h
 |(U e,t)::_,y,0,_=>⟨e,t,y.1,rfl⟩
 |(U _,_)::r,y,j+1,⟨e,t,h⟩=>Cf y.2 ⟨e,t,by simpa using h⟩
 |(V,_)::r,y,j+1,⟨e,t,h⟩=>Cf y.2 ⟨e,t,by simpa using h⟩
def sr{id:Nat}{b:List YF}:{L:List MI} -> .y id e b∈L->id∈zD L
 |[],h=>by simp at h
 |.o _ _ _::r,h=>by
  rcases uei.1 h with a|a
  cases a;exact sr (L:=r) a
 |.x _ _ _::r,h=>by
  rcases uei.1 h with a|a
  cases a;exact sr (L:=r) a
 |.r _ _ _::r,h=>by
  rcases uei.1 h with a|a
  cases a;exact sr (L:=r) a
 |.g _ _ _::r,h=>by
  rcases uei.1 h with a|a
  cases a;exact sr (L:=r) a
 |.al _ _::r,h=>by
  rcases uei.1 h with a|a
  cases a;exact sr (L:=r) a
 |.y _ _ _::r,h=>by
  rcases uei.1 h with a|a
  cases a;simp[zD];exact ubj _ (sr a)
def oL{all:List MI}{sl:Nat->AV}(D:MemOK P B w F γ m){id:Nat}{v:List YF}(z:ql v j)(C:EZ w (γ id) j u):
  {L:List MI} -> {H:List Nat} -> {y:cR L}->bB all sl m L H=U y->bp L=Z -> .y id e v∈L->id<1000000000000000000000000000000->v.length<=1000 ->
  (∃ e t l,bG L y (cg id+j)=U (.arr e t l))/\bQ γ sl m L (cg id+j)=u
 |[],_,_,_,_,h,_,_=>by simp at h
 |.o t e' ty::r,H,y,h,c,f,p,n=>by
  simp only[bp,udc,ucu]at c;have key:∀ t':Nat,t'<1000000000000000000000000000000->¬ cg id+j=1000000000000000000000000000000+t':=λt' h=>by unfold cg;omega
  have s:¬ cg id+j=ba t:=key t c.1;have d:MI.y id e v∈r:=by
   rcases uei.1 f with i|i
   cases i;exact i
  simp only[bB]at h;split at h<;>try trivial
  split at h<;>try trivial
  rename_i hrw;split at h<;>try trivial
  rename_i y' G;cases h;have:=oL D z C G c.2 d p n;simpa only[bG,bQ,bz,ufw s]using this;split at h<;>try trivial
  split at h<;>try trivial
  split at h<;>try trivial
  split at h<;>try trivial
  split at h<;>try trivial
  rename_i y' G;cases h;have:=oL D z C G c.2 d p n;simpa only[bG,bQ,bz,ufw s]using this
 |.x q e' ty::r,H,y,h,c,f,p,n=>by
  simp only[bp,udc,ucu]at c;have s:¬ cg id+j=q:=by have:=c.1;unfold cg;omega
  have d:MI.y id e v∈r:=by
   rcases uei.1 f with i|i
   cases i;exact i
  simp only[bB]at h;split at h<;>try trivial
  split at h<;>try trivial
  split at h<;>try trivial
  split at h<;>try trivial
  rename_i y' G;cases h;have:=oL D z C G c.2 d p n;simpa only[bG,bQ,bz,ufw s]using this
 |.r t q off::r,H,y,h,c,f,p,n=>by
  simp only[bp,udc]at c;have d:MI.y id e v∈r:=by
   rcases uei.1 f with i|i
   cases i;exact i
  simp only[bB]at h;split at h<;>try trivial
  split at h<;>try trivial
  exact oL (L:=r) D z C h c.2 d p n
 |.g t f' q::r,H,y,h,c,f,p,n=>by
  simp only[bp,udc]at c;have d:MI.y id e v∈r:=by
   rcases uei.1 f with i|i
   cases i;exact i
  simp only[bB]at h;split at h<;>try trivial
  split at h<;>try trivial
  exact oL (L:=r) D z C h c.2 d p n
 |.al t s0::r,H,y,h,c,f,p,n=>by
  have d:MI.y id e v∈r:=by
   rcases uei.1 f with i|i
   cases i;exact i
  simp only[bB]at h;split at h<;>try trivial
  all_goals (split at h<;>try trivial)
  all_goals exact oL (L:=r) D z C h c d p n
 |.y q e' K::r,H,y,h,c,f,p,n=>by
  simp only[bp,udc,ucu,ucv,List.contains_eq_mem,uav]at c;obtain⟨l1,l2,l3,l4⟩:=c;simp only[bB]at h;split at h<;>try trivial
  rename_i e2 cs O;split at h<;>try trivial
  split at h<;>try trivial
  rename_i x us' hx;split at h<;>try trivial
  rename_i y' G;cases h;have s:¬ cg id+j=q:=by unfold cg;omega
  by_cases N:id=q;subst N;have E:v=K:=by
   rcases uei.1 f with i|i
   cases i;rfl;exact absurd (sr i) l3
  subst E;have R:=z.lt;have S:cg id<=cg id+j/\cg id+j<cg id+v.length:=⟨by omega,by omega⟩;simp only[bG,bQ,bz,ufw s,ufv S,O,uax];refine⟨Cf x z,?_⟩;obtain⟨g1,g2,g3,g4,g5⟩:=qT hx;obtain⟨ee,tt,ll,M⟩:=Cf x z;obtain⟨b,arr,ty,q1,q2,q3⟩:=C;obtain⟨b',arr',p1,p2,_,_,p5,p6⟩:=D.ob id _ O;rw[q1]at p1;cases p1;rw[q2]at p2;cases p2;rcases g5 j _ M with ⟨a,_⟩|⟨k,a,T⟩
  have A:cH cs j=none:=by simp[cH,a]
  rw[A];obtain⟨u',Q,_,W⟩:=aN.at_ p6 a;rw[q3]at Q;cases Q;exact W.symm;have A:cH cs j=U k:=by simp[cH,a]
  rw[A];obtain⟨u',Q,_,W⟩:=aN.at_ p6 a;rw[q3]at Q;cases Q;have r4:ap m γ k u:=W;simp only[ap,T]at r4;exact r4.symm;have d:MI.y id e v∈r:=by
   rcases uei.1 f with i|i
   cases i;exact absurd rfl N;exact i
  have R:=z.lt;have S:¬ (cg q<=cg id+j/\cg id+j<cg q+K.length):=by unfold cg;omega
  have:=oL D z C G l4 d p n;simpa only[bG,bQ,bz,ufw s,ufw S]using this
def ru{id:Nat}{c:List YF}:{d:List MI}->bp d=Z -> .y id e c∈d->id<1000000000000000000000000000000/\c.length<=1000
 |[],_,h=>by simp at h
 |.o _ _ _::r,h,b=>by
  simp only[bp,udc]at h;rcases uei.1 b with a|a
  cases a;exact ru h.2 a
 |.x _ _ _::r,h,b=>by
  simp only[bp,udc]at h;rcases uei.1 b with a|a
  cases a;exact ru h.2 a
 |.r _ _ _::r,h,b=>by
  simp only[bp,udc]at h;rcases uei.1 b with a|a
  cases a;exact ru h.2 a
 |.g _ _ _::r,h,b=>by
  simp only[bp,udc]at h;rcases uei.1 b with a|a
  cases a;exact ru h.2 a
 |.al _ _::r,h,b=>by
  simp only[bp]at h;rcases uei.1 b with a|a
  cases a;exact ru h a
 |.y _ _ _::r,h,b=>by
  simp only[bp,udc,ucu]at h;rcases uei.1 b with a|a
  cases a;exact⟨h.1,h.2.1⟩;exact ru h.2.2.2 a
def pK{all:List MI}{z:Nat->AV}{W:Nat->Value}(D:∀ t,i7 P w F (ap m γ) W (z t) (W t)):{L:List MI} -> {O:List Nat} -> {y:cR L}->bB all z m L O=U y->bp L=Z->∀ i,
  bx L i=.dead\/(bx L i=.c (.own (ba i))/\(∃ e t l,bG L y (ba i)=U (.arr e t l))/\bQ γ z m L (ba i)=W i/\(W i).oneCell'=Z/\i<1000000000000000000000000000000) \/
  (∃ id off,bx L i=.c (jS id off)/\z i=.c (jS id off)/\iN id all=Z/\∃ t,.r t id off∈L) \/
  (∃ f B,bx L i=.c (.fn f (px B))/\z i=.c (.fn f (px B))/\(∀ id∈B,iN id all=Z)/\∃ t,.g t f B∈L) \/
  ∃ C,bx L i=.c (.own (ba C))/\jj C all=Z/\((∃ k,z i=.c (.own k)/\z C=.c (.own k))\/(z i=.c .nil/\z C=.c .nil))
 |[],_,_,_,_,i=>.inl rfl
 |.o t e ty::r,O,y,h,b,i=>by
  have d:bp r=true:=by
   simp only[bp,udc]at b;exact b.2
  have hti:t<1000000000000000000000000000000:=by
   simp only[bp,udc,ucu]at b;exact b.1
  have Q:=D t;simp only[bB]at h;split at h<;>try trivial
  rename_i n;split at h<;>try trivial
  rename_i hrw;split at h<;>try trivial
  rename_i y' T;cases h;by_cases hi:i=t;subst hi;refine .inr (.inl ⟨by simp[bx],⟨e,ty,[],by simp[bG]⟩,?_,?_,hti⟩);simp only[bQ,bz,n];rw[n]at Q;exact Q.2.symm;rw[n]at Q;exact Q.1;have E:¬ ba i=ba t:=λM=>hi (by unfold ba at M;omega);rcases pK D T d i with a|a|⟨id,off,a,q,s,p,u⟩|⟨G,v,a,q,s,p,u⟩|⟨K,a,H⟩
  exact .inl (by simpa only[bx,ufw hi]using a);exact .inr (.inl (by simpa only[bx,bG,bQ,bz,ufw hi,ufw E]using a));exact .inr (.inr (.inl ⟨id,off,by simpa only[bx,ufw hi]using a,q,s,p,ubj _ u⟩));exact .inr (.inr (.inr (.inl ⟨G,v,by simpa only[bx,ufw hi]using a,q,s,p,ubj _ u⟩)));exact .inr (.inr (.inr (.inr ⟨K,by simpa only[bx,ufw hi]using a,H⟩)));rename_i id n;split at h<;>try trivial
  split at h<;>try trivial
  rename_i e' ty' l hmm;split at h<;>try trivial
  split at h<;>try trivial
  split at h<;>try trivial
  rename_i y' T;cases h;by_cases hi:i=t;subst hi;rw[n]at Q;refine .inr (.inl ⟨by simp[bx],⟨e,ty,_,by simp[bG];rfl⟩,?_,Q.1,hti⟩);simp only[bQ,bz,n];have:=Q.2;simp only[bc,ap,hmm]at this;exact this.symm;have E:¬ ba i=ba t:=λM=>hi (by unfold ba at M;omega);rcases pK D T d i with a|a|⟨id,off,a,q,s,p,u⟩|⟨G,v,a,q,s,p,u⟩|⟨K,a,H⟩
  exact .inl (by simpa only[bx,ufw hi]using a);exact .inr (.inl (by simpa only[bx,bG,bQ,bz,ufw hi,ufw E]using a));exact .inr (.inr (.inl ⟨id,off,by simpa only[bx,ufw hi]using a,q,s,p,ubj _ u⟩));exact .inr (.inr (.inr (.inl ⟨G,v,by simpa only[bx,ufw hi]using a,q,s,p,ubj _ u⟩)));exact .inr (.inr (.inr (.inr ⟨K,by simpa only[bx,ufw hi]using a,H⟩)))
 |.x id e ty::r,O,y,h,b,i=>by
  have d:bp r=Z/\id<1000000000000000000000000000000:=by
   simp only[bp,udc,ucu]at b;exact⟨b.2,b.1⟩
  simp only[bB]at h;split at h<;>try trivial
  split at h<;>try trivial
  split at h<;>try trivial
  split at h<;>try trivial
  rename_i y' T;cases h;have E:¬ ba i=id:=λM=>by
   unfold ba at M;omega
  rcases pK D T d.1 i with a|a|⟨A,off,a,q,s,p,u⟩|⟨G,v,a,q,s,p,u⟩|⟨K,a,H⟩
  exact .inl (by simpa only[bx]using a);exact .inr (.inl (by simpa only[bx,bG,bQ,bz,ufw E]using a));exact .inr (.inr (.inl ⟨A,off,by simpa only[bx]using a,q,s,p,ubj _ u⟩));exact .inr (.inr (.inr (.inl ⟨G,v,by simpa only[bx]using a,q,s,p,ubj _ u⟩)));exact .inr (.inr (.inr (.inr ⟨K,by simpa only[bx]using a,H⟩)))
 |.r t id off::r,O,y,h,b,i=>by
  have d:bp r=true:=by
   simp only[bp,udc]at b;exact b.2
  simp only[bB]at h;split at h<;>try trivial
  rename_i i' o' n;split at h<;>try trivial
  rename_i hc;obtain⟨rfl,rfl,N⟩:=hc;by_cases hi:i=t;subst hi;exact .inr (.inr (.inl ⟨i',o',by simp[bx],qwz n,N,i,by simp⟩));rcases pK (L:=r) D h d i with a|a|⟨A,off,a,q,s,p,u⟩|⟨G,v,a,q,s,p,u⟩|⟨K,a,H⟩
  exact .inl (by simpa only[bx,ufw hi]using a);exact .inr (.inl (by simpa only[bG,bQ,bz,bx,ufw hi]using a));exact .inr (.inr (.inl ⟨A,off,by simpa only[bx,ufw hi]using a,q,s,p,ubj _ u⟩));exact .inr (.inr (.inr (.inl ⟨G,v,by simpa only[bx,ufw hi]using a,q,s,p,ubj _ u⟩)));exact .inr (.inr (.inr (.inr ⟨K,by simpa only[bx,ufw hi]using a,H⟩)))
 |.g t f id::r,O,y,h,b,i=>by
  have d:bp r=true:=by
   simp only[bp,udc]at b;exact b.2
  simp only[bB]at h;split at h<;>try trivial
  rename_i f' cs n;split at h<;>try trivial
  rename_i hc;obtain⟨rfl,hp,N⟩:=hc;rw[Um hp]at n;by_cases hi:i=t;subst hi;exact .inr (.inr (.inr (.inl ⟨f',id,by simp[bx],n,λj hj=>uc8.1 N j hj,i,by simp⟩)));rcases pK (L:=r) D h d i with a|a|⟨A,off,a,q,s,p,u⟩|⟨G,v,a,q,s,p,u⟩|⟨K,a,H⟩
  exact .inl (by simpa only[bx,ufw hi]using a);exact .inr (.inl (by simpa only[bG,bQ,bz,bx,ufw hi]using a));exact .inr (.inr (.inl ⟨A,off,by simpa only[bx,ufw hi]using a,q,s,p,ubj _ u⟩));exact .inr (.inr (.inr (.inl ⟨G,v,by simpa only[bx,ufw hi]using a,q,s,p,ubj _ u⟩)));exact .inr (.inr (.inr (.inr ⟨K,by simpa only[bx,ufw hi]using a,H⟩)))
 |.al t C::r,O,y,h,b,i=>by
  have d:bp r=true:=by
   exact b
  have fin:bB all z m r O=U y->jj C all=Z->((∃ k,z t=.c (.own k)/\z C=.c (.own k))\/(z t=.c .nil/\z C=.c .nil)) ->
    bx (.al t C::r) i=.dead\/(bx (.al t C::r) i=.c (.own (ba i))/\(∃ e p l,bG (.al t C::r) y (ba i)=U (.arr e p l))/\bQ γ z m (.al t C::r) (ba i)=W i/\(W i).oneCell'=Z/\i<1000000000000000000000000000000) \/
    (∃ id off,bx (.al t C::r) i=.c (jS id off)/\z i=.c (jS id off)/\iN id all=Z/\∃ p,.r p id off∈(.al t C::r:List MI)) \/
    (∃ f B,bx (.al t C::r) i=.c (.fn f (px B))/\z i=.c (.fn f (px B))/\(∀ id∈B,iN id all=Z)/\∃ p,.g p f B∈(.al t C::r:List MI)) \/
    ∃ s1,bx (.al t C::r) i=.c (.own (ba s1))/\jj s1 all=Z/\((∃ k,z i=.c (.own k)/\z s1=.c (.own k))\/(z i=.c .nil/\z s1=.c .nil)):=λh N hs0=>by
   by_cases hi:i=t;subst hi;exact Or.inr (.inr (.inr (.inr ⟨C,by simp[bx],N,hs0⟩)));rcases pK (L:=r) D h d i with a|a|⟨A,off,a,q,s,p,u⟩|⟨G,v,a,q,s,p,u⟩|⟨K,a,H⟩
   exact .inl (by simpa only[bx,ufw hi]using a);exact .inr (.inl (by simpa only[bG,bQ,bz,bx,ufw hi]using a));exact .inr (.inr (.inl ⟨A,off,by simpa only[bx,ufw hi]using a,q,s,p,ubj _ u⟩));exact .inr (.inr (.inr (.inl ⟨G,v,by simpa only[bx,ufw hi]using a,q,s,p,ubj _ u⟩)));exact .inr (.inr (.inr (.inr ⟨K,by simpa only[bx,ufw hi]using a,H⟩)))
  simp only[bB]at h;split at h<;>try trivial
  rename_i k1 k2 R S;split at h<;>try trivial
  rename_i hc;obtain⟨rfl,N⟩:=hc;exact fin h N (.inl ⟨k1,R,S⟩);rename_i R S;split at h<;>try trivial
  rename_i N;exact fin h N (.inr ⟨R,S⟩)
 |.y id e fs::r,O,y,h,b,i=>by
  have d:bp r=Z/\id<1000000000000000000000000000000:=by
   simp only[bp,udc,ucu]at b;exact⟨b.2.2.2,b.1⟩
  simp only[bB]at h;split at h<;>try trivial
  split at h<;>try trivial
  split at h<;>try trivial
  split at h<;>try trivial
  rename_i y' T;cases h;have E:¬ ba i=id:=λM=>by
   unfold ba at M;omega
  rcases pK D T d.1 i with a|a|⟨A,off,a,q,s,p,u⟩|⟨G,v,a,q,s,p,u⟩|⟨K,a,H⟩
  exact .inl (by simpa only[bx]using a);have hk:¬ (cg id<=ba i/\ba i<cg id+fs.length):=λM=>by
   have:=M.1;unfold ba cg at this;omega
  exact .inr (.inl (by simpa only[bx,bG,bQ,bz,ufw E,ufw hk]using a));exact .inr (.inr (.inl ⟨A,off,by simpa only[bx]using a,q,s,p,ubj _ u⟩));exact .inr (.inr (.inr (.inl ⟨G,v,by simpa only[bx]using a,q,s,p,ubj _ u⟩)));exact .inr (.inr (.inr (.inr ⟨K,by simpa only[bx]using a,H⟩)))
def Ti{a:Nat}(h:ba a=ba b):a=b:=by
 unfold ba at h;omega
def qul{a id:Nat}(h:a<1000000000000000000000000000000):¬ cg id<=ba a:=by
 unfold ba cg;omega
def rg{b:Tmp}:{L:List MI}->bp L=Z->jj b L=Z->b<1000000000000000000000000000000
 |[],_,h=>by simp[jj]at h
 |.o t _ _::r,a,h=>by
  simp only[bp,udc,ucu]at a;simp only[jj,udt,ufh]at h;rcases h with rfl|h
  exact a.1;exact rg a.2 h
 |.x _ _ _::r,a,h=>by
  simp only[bp,udc]at a;exact rg a.2 h
 |.r _ _ _::r,a,h=>by
  simp only[bp,udc]at a;exact rg a.2 h
 |.g _ _ _::r,a,h=>by
  simp only[bp,udc]at a;exact rg a.2 h
 |.al _ _::r,a,h=>by
  exact rg (L:=r) a h
 |.y _ _ _::r,a,h=>by
  simp only[bp,udc]at a;exact rg a.2.2.2 h
def oM{all:List MI}{u:Nat->AV}{n:Tmp}(b:n<1000000000000000000000000000000):{L:List MI} -> {s:List Nat} -> {y:cR L}->bB all u m L s=U y->bp L=Z->jj n L=Z ->
  (∃ e t l,bG L y (ba n)=U (.arr e t l))/\((∃ k e t l,u n=.c (.own k)/\m k=U (.arr e t l)/\bQ γ u m L (ba n)=γ k)\/(u n=.c .nil/\bQ γ u m L (ba n)=.slice V 0 0))
 |[],_,_,_,_,h=>by simp[jj]at h
 |.o t e ty::r,s,y,h,a,j=>by
  simp only[bp,udc]at a;simp only[jj,udt,ufh]at j;simp only[bB]at h;split at h<;>try trivial
  rename_i d;split at h<;>try trivial
  rename_i D;split at h<;>try trivial
  rename_i z q;cases h;by_cases hi:t=n;subst hi;refine⟨⟨e,ty,[],by simp[bG]⟩,.inr ⟨d,?_⟩⟩;simp only[bQ,bz,if_true,d];have i:=λp=>hi (Ti p).symm;have:=oM b q a.2 (j.resolve_left hi);simpa only[bG,bQ,bz,ufw i]using this;rename_i id d;split at h<;>try trivial
  split at h<;>try trivial
  rename_i A w l v;split at h<;>try trivial
  split at h<;>try trivial
  split at h<;>try trivial
  rename_i z q;cases h;by_cases hi:t=n;subst hi;refine⟨⟨e,ty,_,by simp[bG];rfl⟩,.inl ⟨id,A,w,l,d,v,?_⟩⟩;simp only[bQ,bz,if_true,d];have i:=λp=>hi (Ti p).symm;have:=oM b q a.2 (j.resolve_left hi);simpa only[bG,bQ,bz,ufw i]using this
 |.x id e ty::r,s,y,h,a,j=>by
  simp only[bp,udc,ucu]at a;simp only[bB]at h;split at h<;>try trivial
  split at h<;>try trivial
  split at h<;>try trivial
  split at h<;>try trivial
  rename_i z q;cases h;have i:¬ ba n=id:=λp=>by
   unfold ba at p;omega
  have:=oM b q a.2 j;simpa only[bG,bQ,bz,ufw i]using this
 |.r t id off::r,s,y,h,a,j=>by
  simp only[bp,udc]at a;simp only[bB]at h;split at h<;>try trivial
  split at h<;>try trivial
  exact oM (L:=r) b h a.2 j
 |.g t f id::r,s,y,h,a,j=>by
  simp only[bp,udc]at a;simp only[bB]at h;split at h<;>try trivial
  split at h<;>try trivial
  exact oM (L:=r) b h a.2 j
 |.al t s1::r,s,y,h,a,j=>by
  simp only[bB]at h;split at h<;>try trivial
  all_goals (split at h<;>try trivial)
  all_goals exact oM (L:=r) b h a j
 |.y id e B::r,s,y,h,a,j=>by
  simp only[bp,udc,ucu]at a;simp only[bB]at h;split at h<;>try trivial
  split at h<;>try trivial
  split at h<;>try trivial
  split at h<;>try trivial
  rename_i z q;cases h;have i:¬ ba n=id:=λp=>by
   unfold ba at p;omega
  have C:¬ (cg id<=ba n/\ba n<cg id+B.length):=λp=>qul b p.1;have:=oM b q a.2.2.2 j;simpa only[bG,bQ,bz,ufw i,ufw C]using this
def Vj{f:Nat->AV}{b:Nat->Value}:{vs:List (Tmp×PT)} -> {x:ag (vs.map (·.2))}->cJ P w F (vs.map (·.2)) x (vs.map λv=>b v.1)->(∀ i,aE P w F R (f i) (b i))->∀ i,aE P w F R (pL vs x f i) (b i)
 |[],_,_,a,i=>a i
 |(t,p)::r,x,h,a,i=>by
  obtain⟨v,g,c,d,e⟩:=h;obtain⟨rfl,rfl⟩:=c;simp only[pL];split;rename_i hi;subst hi;exact P4 d;exact Vj e a i
def vG{a:Tmp->Value}:{x:AV} -> {u:Value}->aE P w F R x u->dP P w F R a x u
 |.dead,_,h=>h
 |.c _,_,h=>h
 |.agg _,_,h=>h
 |.tup _,_,h=>h
 |.optr _ _ _ _,_,h=>h
 |.aptr _ _ _,_,h=>h
 |.maybe _ _ _,_,h=>h.elim
def U0{a:Nat->AV}{b:Nat->Value}(h:∀ t,aE P w F R (a t) (b t)):(ts:List Nat)->bj P w F R (ts.map a) (ts.map b)
 |[]=>trivial
 |t::r=>⟨h t,U0 h r⟩
def rm{s:St}{a:Act}(hi:InvG P E s a w [] F γ)(t:Tmp):aE P w F (ap s.mem γ) (s.sl t) (a.tmps.getD t undef):=by
 have:=hi.sl t;cases c:s.sl t with
 |maybe g b v=>
  have:=hi.hg t g b v c;simp at this
 |_=>rw[c]at this;exact this
def eZ(a:Act)(E:Env)(t:Nat):Value:=if t<10000 then a.tmps.getD t undef else E.G (t-10000)
def RP{s:St}{a:Act}(hi:InvG P E s a w [] F γ)(t:Nat):aE P w F (ap s.mem γ) (s.at t) (eZ a E t):=by
 unfold St.at eZ;split;exact rm hi t;exact hi.gh _
def qxg{a:Tmp->Value}{x:AV}(h:aE P w F R x u):i7 P w F R a x u:=by
 cases x<;>first|exact h|exact h.elim
def qtu{m:aT}(f:MemOK P B w F γ m)(g:∀ b,F b->b<w.heap.size):(i:MI)->∃ F',Step B w F γ m w F' γ (CG m i)/\MemOK P B w F' γ (CG m i):=by
 intro i;unfold CG;split<;>try exact⟨F,Step.refl g,f⟩
 rename_i id H E;split<;>try exact⟨F,Step.refl g,f⟩
 rename_i e cs n;split<;>try exact⟨F,Step.refl g,f⟩
 rename_i cs' u p;split<;>try exact⟨F,Step.refl g,f⟩
 rename_i K s a;obtain⟨b,arr,j,k,L,t,x,y⟩:=f.ob id _ n;obtain⟨F1,s1,r,R,C,D⟩:=yR f g (cX.of λ_ _ h=>h) p y;obtain⟨G,q,l,M,z,N,O,Q⟩:=r.ob id _ a;rw[j]at l;simp at l;subst l;have A:∀ i v,ap (ax m u) γ i v->ap (upd (ax m u) id (.box e cs')) γ i v:=nx a (by simp);have d:Step B w F1 γ (ax m u) w F1 γ (upd (ax m u) id (.box e cs')):=
  ⟨λc h=>h,λ_ _=>rfl,A,λ_ _=>rfl,rfl,rfl,rfl,ue9 _,s1.bd,λc h=>.inl h⟩
 have o:MemOK P B w F1 γ (upd (ax m u) id (.box e cs')):=by
  refine r.change a (by simp) d.hF d.hw (λc h=>?_) (λc _ _=>⟨rfl,λh=>h⟩) ?_;rw[j]at h |-;exact h;exact⟨b,arr,j,k,z,t,by rw[x,C],d.repCL D⟩
 refine⟨F1,?_,?_⟩;rw[gc];exact s1.trans d;rw[gc];exact o
def SR:(L:List MI) -> {m:aT} -> {F:Nat->Prop}->MemOK P B w F γ m->(∀ b,F b->b<w.heap.size)->∃ F',Step B w F γ m w F' γ (yk L m)/\MemOK P B w F' γ (yk L m)
 |[],m,F,c,a=>⟨F,Step.refl a,c⟩
 |i::r,m,F,c,a=>by
  obtain⟨F1,s1,d⟩:=qtu c a i;obtain⟨F2,f,e⟩:=SR r d s1.bd;exact⟨F2,s1.trans f,e⟩
def jG(hΓ:kN P Γ){L:LS}(m:L.low=Z){s:St}{a:Act}(hi:I P E s a w){x:L.X}{n:List Prop}(h:L.ext Γ s=U (x,n))(hn:av n):I P E (L.tpl s.n x) a w:=by
 obtain⟨F,γ,hi⟩:=hi;have hsl:=RP hi;unfold LS.ext at h;split at h<;>try trivial
 rename_i xs u hrs;split at h<;>try trivial
 rename_i xv n' hdec;split at h<;>try trivial
 rename_i y c;cases h;have T:bj P w F (ap s.mem γ) (L.vs.map λv=>s.at v.1) (L.vs.map λv=>eZ a E v.1):=by
  have:=U0 hsl (L.vs.map (·.1));simpa[Function.comp_def]using this
 obtain⟨F0,hs0,hm0,_,hxs0⟩:=iy hi.mem (dv hi) (cX.of λ_ _ h=>h) hrs T;obtain⟨F',H,hm⟩:=SR L.ms hm0 hs0.bd;have hs:=hs0.trans H;have hxs:=zE H.hF H.hw H.hR hxs0;generalize yk L.ms (ax s.mem u)=z at *;have hps:=mK hΓ hdec hn hxs;have r:=λt=>aE.mono hs.hF hs.hw hs.hR _ (hsl t);have G:=pK (λt=>qxg (r t)) c m;have S:=oN hm c;have O:∀ id e fs,MI.y id e fs∈L.ms->∀ j v,ql fs j->EZ w (γ id) j v->ap (bG L.ms y) (bQ γ s.at z L.ms) (cg id+j) v:=by
  intro id e fs N j v hj hc;obtain⟨h30,hfs⟩:=ru m N;obtain⟨⟨e',t',l,A⟩,D⟩:=oL hm hj hc c m N h30 hfs;unfold ap;rw[A];exact D.symm
 have B:∀ t,aE P w F' (ap (bG L.ms y) (bQ γ s.at z L.ms)) (pL L.vs xv (bx L.ms) t) (eZ a E t):=by
  refine Vj hps (λi=>?_);rcases G i with A|⟨A,⟨e,t',l,D⟩,M,h4,_⟩|⟨id,off,A,D,M,t',h4⟩|⟨f,id,A,D,M,t',h4⟩|⟨s0,A,hx,h5⟩
  rw[A];trivial;rw[A];refine⟨h4,?_⟩;show ap (bG L.ms y) (bQ γ s.at z L.ms) (ba i) (eZ a E i);unfold ap;rw[D];exact M.symm;rw[A];have d:=r i;rw[D]at d;obtain⟨b,hR,hre⟩:=qwx d.2;refine⟨d.1,hre _ ?_⟩;obtain⟨o,R,p⟩:=mS c M (λt e ty _=>qtg m h4 t) (oZ m h4);have hg:bQ γ s.at z L.ms id=γ id:=by unfold bQ;rw[p]
  have hv':(Value.pointer (U ⟨b,0,V⟩))=γ id:=by
   rcases jh c id id p with ⟨_,e,cs,C⟩|⟨_,e,t2,l2,C⟩
   simpa[ap,C]using hR;simpa[ap,C]using hR
  unfold ap;rw[R];cases o<;>first|trivial|exact hv'.trans hg.symm
  rw[A];have d:=r i;rw[D]at d;obtain⟨one,arr,hv,hsz,hcl⟩:=d;refine⟨one,arr,hv,hsz,?_⟩;have Q:=rq m h4;have key:∀ (q:List Nat) (g:Nat->Value->Prop),(∀ id∈q,iN id L.ms=Z)->(∀ id∈q,id<1000000000000000000000000000000)->aN P w F' (ap z γ) (px q) g->aN P w F' (ap (bG L.ms y) (bQ γ s.at z L.ms)) (px q) g:=by
   intro q
   induction q with
   |nil=>intro g _ _ _;trivial
   |cons id q ih=>
    intro g M hl hr;obtain⟨⟨u0,K,k2,b,hR,k4⟩,W⟩:=hr;refine⟨⟨u0,K,k2,b,?_,k4⟩,ih _ (λj hj=>M j (ubj _ hj)) (λj hj=>hl j (ubj _ hj)) W⟩;obtain⟨o,R,p⟩:=mS c (M id (by simp)) (λt e ty _=>by have:=hl id (by simp);unfold ba;omega) (hl id (by simp));have hg:bQ γ s.at z L.ms id=γ id:=by unfold bQ;rw[p]
    have hv':(Value.pointer (U ⟨b,0,V⟩))=γ id:=by
     rcases jh c id id p with ⟨_,e,cs,C⟩|⟨_,e,t2,l2,C⟩
     simpa[ap,C]using hR;simpa[ap,C]using hR
    unfold ap;rw[R];cases o<;>first|trivial|exact hv'.trans hg.symm
  exact key _ _ M Q hcl;rw[A];obtain⟨⟨e,t',l,D⟩,h6⟩:=oM (rg m hx) c m hx;have d:=r i;have key:eZ a E i=bQ γ s.at z L.ms (ba s0)/\(eZ a E i).oneCell'=true:=by
   rcases h6 with ⟨k,e1,t1,l1,K,k2,k3⟩|⟨K,k2⟩
   rcases h5 with ⟨k',q1,q2⟩|⟨q1,q2⟩
   rw[q2]at K;cases K;rw[q1]at d;have hv:ap z γ _ (eZ a E i):=d.2;simp only[ap,k2]at hv;exact⟨hv.trans k3.symm,d.1⟩;rw[q2]at K;cases K;rcases h5 with ⟨k',q1,q2⟩|⟨q1,q2⟩
   rw[q2]at K;cases K;rw[q1]at d;exact⟨d.2.trans k2.symm,d.1⟩
  refine⟨key.2,?_⟩;show ap (bG L.ms y) (bQ γ s.at z L.ms) (ba s0) (eZ a E i);unfold ap;rw[D];exact key.1
 refine⟨F',bQ γ s.at z L.ms,hi.n,hi.df,?_,⟨λid o ho=>(S id o ho _ O).1,λi j oi oj b hij hoi hoj C hb'=>?_⟩,λt=>?_,λt g want v ht=>?_,λt=>?_⟩;obtain⟨γ0,h0⟩:=hi.step;have:=h0.trans hs;exact⟨γ0,this.hF,this.hw,λ_ _ hh=>hh.elim,this.old,this.os,this.tape,this.output,this.size,this.bd,this.new⟩;rcases(S i oi hoi _ O).2 with ⟨k,o0,s1,m1,e1⟩|e1
 rcases(S j oj hoj _ O).2 with ⟨k',o0',s2,z,e2⟩|e2
 by_cases hk:k=k';subst hk;exact hij (oK c i j k s1 s2);exact hm.apart k k' o0 o0' b hk m1 z (e1 b C) (e2 b hb');exact e2 b hb';exact e1 b C;show dP P w F' _ _ (if t<10000 then pL L.vs xv (bx L.ms) t else .dead) _;split;rename_i ht;have:=B t;unfold eZ at this;rw[ufv ht]at this;exact vG this;trivial;exfalso;have ht':(if t<10000 then pL L.vs xv (bx L.ms) t else .dead)=.maybe g want v:=ht;split at ht';have:=B t;rw[ht']at this;exact this;cases ht';have:=B (t+10000);unfold eZ at this;rw[ufw (by omega),ub0]at this;exact this
end
end Go.Ab
