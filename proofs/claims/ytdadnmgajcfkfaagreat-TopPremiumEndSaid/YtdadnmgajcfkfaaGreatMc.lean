/-
  Parts of the proof, one behind the other.
-/
import Derived.Test.YtdadnmgajcfkfaaGreatMb
import Derived.Orders
import Derived.Scope
set_option linter.all false
set_option maxRecDepth 100000
set_option maxHeartbeats 4000000
noncomputable section
open Option renaming some->U,none->V
open Bool renaming true->Z,false->Y
open Decidable renaming decide->J
open List renaming replicate->Lrp
open BitVec renaming ofInt->Bvo
open Go Go.RowKit
variable {T α σ ρ β:Type} {P:Program} {ad:Addr} {arr cs cur:Array Value} {f:FuncId} {x a y day:Int} {k:IntKind} {l:List Int} {xs vs news:List Value} {off i n b c d B m len:Nat} {F F' K:Nat->Prop} {R g R':Nat->Value->Prop} {o:Oper} {p:Prop} {e ety t ty el:TypeId} {v u vx:Value} {w w' W' W:World}
namespace Go.Ab
open Go Go.RowKit
structure Env where
 w0:World
 F0:Nat->Prop
 G:Nat->Value
 D:List Deferred
 B:Nat
 hB:B<=w0.heap.size
section
variable {P:Program} {B:Nat} {o:Oper} {a:Act} {w w':World} {E:Env} {F F':Nat->Prop} {γ γ' γ0:Nat->Value} {M m:aX} {R:Nat->Value->Prop} {Γ:Gm}
def qdi{d:Tmp->Value}{c:Operand}{a:Bool}{x:AV}(f:∀ t,c=.tmp t->d t=.bool a)(h:kp P w F R d x u):kp P w F R d (Iz c a x) u:=by
 unfold Iz;split;rename_i g i v;split;rename_i t;split;rename_i b;obtain⟨rfl,rfl⟩:=b;have e:=h (f g rfl);cases v<;>first|exact e|exact e.elim
 exact h;exact h;exact h
def zji{p:Bool}{x y v:AV}(h:Cw p x y=U v):iL x=Z/\iL y=true:=by unfold Cw at h;split at h<;>first|exact⟨rfl,rfl⟩|cases h
def KS(s:io P Γ){K:Op}{R:List AV}{e:Eff}(A:o.op=K)(z:MemOK P B w F γ M)(u:∀ b,F b->b<w.heap.size)(L:B<=w.heap.size)(l:∀ i y,m i=U y->M i=U y)(N:m d=V->M d=V)(k:Fg P Γ d K R m=U e)(O:az e.need)(D:qK P w F (av M γ) (λg=>a.tmps.getD g undef) R (K.operands.toList.map a.eval)):wz P B o a w F γ M e.v e.wr:=by
 unfold Fg at k;split at k;rename_i c ao bo;split at k<;>try trivial
 rename_i p x y;split at k<;>try trivial
 rename_i v Q;cases k;obtain⟨f,T,W,_⟩:=D;obtain⟨_,f⟩:=f;simp only[bx]at f;obtain⟨n1,n2⟩:=zji Q;have r:∀ h,p=h->∀ t,c=.tmp t->a.tmps.getD t undef=.bool h:=by rintro h rfl t rfl;exact f
 have G:=λC=>(qdi (r Z C) T).plain n1;have H:=λC=>(qdi (r Y C) W).plain n2;have E:=zjj Q G H;refine eo z u ?_ E;unfold execOp;rw[A];simp[f,asBool];split at k<;>try trivial
 rename_i n;split at k;rename_i S;cases k;exact qpf s A z u L l N S O (D.plain n);exact qpe s A z u L l N k O (D.plain n)
def fw(P:Program)(w:World)(F:Nat->Prop)(R:Nat->Value->Prop)(b:Tmp->Value):AV->Value->Prop
 |.maybe g a v,u=>(b g=.bool a->aK P w F R v u)/\(b g ≠ .bool a->u=undef)
 |v,u=>aK P w F R v u
def fw.toM{a:Tmp->Value}{x:AV}(h:fw P w F R a x u):kp P w F R a x u:=by cases x<;>first|exact h|exact h.1
def fw.mono{i:Tmp->Value}{x:AV}(d:∀ b,F b->F' b)(f:∀ b,F b->w'.heap[b]?= w.heap[b]?)(e:∀ id v,R id v->R' id v)(h:fw P w F R i x u):fw P w' F' R' i x u:=by
 cases x with
 |maybe g k v=>exact⟨λm=>aK.mono d f e v (h.1 m),h.2⟩
 |dead=>trivial
 |c a=>exact aK.mono d f e (.c a) h
 |agg l=>exact aK.mono d f e (.agg l) h
 |tup n=>exact aK.mono d f e (.tup n) h
 |optr _ _ _ _=>exact aK.mono (P:=P) d f e (.optr _ _ _ _) h
 |aptr _ _ _=>exact aK.mono d f e (.aptr _ _ _) h
structure InvG (P:Program) (E:Env) (st:St) (a:Act) (w:World) (W:List Tmp) (F:Nat->Prop) (γ:Nat->Value):Prop where
 n:a.tmps.size=st.n
 df:a.defers=E.D
 step:∃ γ0,Step E.B E.w0 E.F0 γ0 (λ_=>none) w F γ st.mem
 mem:MemOK P E.B w F γ st.mem
 sl:∀ t,fw P w F (av st.mem γ) (λg=>a.tmps.getD g undef) (st.sl t) (a.tmps.getD t undef)
 hg:∀ t g want v,st.sl t=.maybe g want v->g∈W
 gh:∀ t,aK P w F (av st.mem γ) (st.gs t) (E.G t)
def Wo{p:Nat->AV}{i:Tmp->Value}(h:∀ t,fw P w F R i (p t) (i t)):(n:Nat) -> {g:Tmp} -> {a:Bool} -> {o:List (Tmp×Bool×Bool)}->pW p n g a=U o->i g=.bool a ->
  ∀ x∈o,i x.1=.bool x.2.1/\x.2.2=x.2.1
 |0,_,_,_,d,_=>by simp[pW]at d
 |n+1,g,a,o,d,k=>by
  have m:=h g;unfold pW at d;split at d<;>try trivial
  rename_i b e;cases d;rw[e]at m;have:i g=.bool b:=m.2;rw[k]at this;cases this;intro x f;simp at f;subst f;exact⟨k,rfl⟩;rename_i r u b e;split at d<;>try trivial
  rename_i l s;cases d;rw[e]at m;by_cases c:i r=.bool u;have:=(m.1 c).2;rw[k]at this;cases this;intro x f;rcases uej.1 f with rfl|f
  exact⟨k,rfl⟩;exact Wo h n s c x f;have:=m.2 c;rw[k]at this;simp[undef]at this
def zq9{a:List (Tmp×Bool×Bool)}(h:a.foldr (λx q=>x.2.2=x.2.1->q) p)(b:∀ x∈a,x.2.2=x.2.1):p:=by
 induction a with
 |nil=>exact h
 |cons x a d=>exact d (h (b x (by simp))) (λy c=>b y (by simp[c]))
def zq8{b:List (Tmp×Bool×Bool)}{a:List Prop}(h:az (PU b a))(d:∀ x∈b,x.2.2=x.2.1):az a:=by
 induction a with
 |nil=>trivial
 |cons p a e=>have c:az (b.foldr (λx q=>x.2.2=x.2.1->q) p::PU b a):=h;rw[lk]at c |-;exact⟨zq9 c.1 d,e c.2⟩
def zrb{b:Tmp->Value}{c:List (Tmp×Bool×Bool)}{x:AV}(i:∀ x∈c,b x.1=.bool x.2.1)(h:kp P w F R b x u):kp P w F R b (sM c x) u:=by
 unfold sM;split;rename_i g f v;split;rename_i a;obtain⟨y,k,d⟩:=List.any_eq_true.1 a;simp at d;obtain⟨rfl,rfl⟩:=d;have e:=h (i y k);cases v<;>first|exact e|exact e.elim
 exact h;exact h
def Hw(a:Act)(d:Option Tmp)(v:Value)(t:Tmp)(b:∀ x,d=U x->x<a.tmps.size):(a.put d v).tmps.getD t undef=if d=U t then v else a.tmps.getD t undef:=by
 cases d with
 |none=>simp[Act.put]
 |some x=>
  have c:=b x rfl;by_cases h:x=t;subst h;simp[Act.put,c];have:(U x=U t)=False:=by simp[h]
  simp only[Act.put,this];simp[uaa h]
def Fs{b:Nat->AV}(h:∀ t,fw P w F R (λg=>a.tmps.getD g undef) (b t) (a.tmps.getD t undef))(x:Operand):kp P w F R (λg=>a.tmps.getD g undef) (jq b x) (a.eval x):=by
 cases x with
 |tmp t=>exact(h t).toM
 |const v=>
  have:=wC (P:=P) (w:=w) (F:=F) (R:=R) v;show kp _ _ _ _ _ (nK v) v;unfold nK at *;split;split<;>simp_all[kp]
  trivial
  simp_all[kp]
 |global g=>trivial
 |func f=>exact⟨rfl,#[],rfl,rfl,uT⟩
def rp{b:Nat->AV}(h:∀ t,fw P w F R (λg=>a.tmps.getD g undef) (b t) (a.tmps.getD t undef)):(c:List Operand)->qK P w F R (λg=>a.tmps.getD g undef) (c.map (jq b)) (c.map a.eval)
 |[]=>trivial
 |x::r=>⟨Fs h x,rp h r⟩
def U1{d:Nat->AV}{b:List (Tmp×Bool×Bool)}(c:∀ x∈b,a.tmps.getD x.1 undef=.bool x.2.1)(h:∀ t,fw P w F R (λg=>a.tmps.getD g undef) (d t) (a.tmps.getD t undef)):
  (e:List Operand)->qK P w F R (λg=>a.tmps.getD g undef) (e.map λx=>sM b (jq d x)) (e.map a.eval)
 |[]=>trivial
 |x::r=>⟨zrb c (Fs h x),U1 c h r⟩
def CX(a:Nat->AV)(d:Option Tmp)(v:AV)(t:Nat):fX a d v t=if d=U t then v else a t:=by
 cases d with
 |none=>simp[fX]
 |some x=>by_cases h:t=x;subst h;simp[fX];simp[fX,h,Ne.symm h]
def ot{e:St}{W:List Tmp}{d:Option Tmp}{v:AV}{wr:List (Nat×Ob)}(i:InvG P E e a w W F γ)(A:∀ x,d=U x->x<e.n/\x ∉ W)(k:Step E.B w F γ e.mem w' F' γ' (aB e.mem wr))(K:MemOK P E.B w' F' γ' (aB e.mem wr))(L:fw P w' F' (av (aB e.mem wr) γ') (λg=>a.tmps.getD g undef) v u)(m:∀ g b y,v=.maybe g b y->g∈W):
  InvG P E ⟨e.n,fX e.sl d v,aB e.mem wr,e.gs⟩ (a.put d u) w' (d.toList++W) F' γ':=by
 have f:=λt=>Hw a d u t (λx r=>by rw[i.n];exact(A x r).1);have p:∀ g,g∈W->(a.put d u).tmps.getD g undef=a.tmps.getD g undef:=λg H=>by rw[f,ufx];intro G;exact(A g G).2 H
 have c:∀ (x:AV) (y:Value),(∀ g b z,x=.maybe g b z->g∈W)->fw P w' F' (av (aB e.mem wr) γ') (λg=>a.tmps.getD g undef) x y->fw P w' F' (av (aB e.mem wr) γ') (λg=>(a.put d u).tmps.getD g undef) x y:=by
  intro x y r h;cases x with
  |maybe g b z=>have:=p g (r g b z rfl);exact⟨λo=>h.1 (this.symm.trans o),λo=>h.2 (λD=>o (this.trans D))⟩
  |_=>exact h
 refine⟨?_,?_,?_,K,λt=>?_,λt g b z l=>?_,λt=>k.repA (i.gh t)⟩;show(a.put d u).tmps.size=e.n;rw[<- i.n];cases d<;>simp[Act.put]
 rw[<- i.df];cases d<;>rfl
 obtain⟨s,C⟩:=i.step;exact⟨s,C.trans k⟩;rw[f];simp only[CX];by_cases h:d=U t;rw[ufw h,ufw h];exact c v u m L;rw[ufx h,ufx h];exact c _ _ (i.hg t) ((i.sl t).mono k.hF k.hw k.hR);simp only[CX]at l;by_cases h:d=U t;rw[ufw h]at l;exact ua6 _ (m g b z l);rw[ufx h]at l;exact ua6 _ (i.hg t g b z l)
def qA{c:St}{W:List Tmp}(b:InvG P E c a w W F γ):E.B<=w.heap.size:=by obtain⟨d,h⟩:=b.step;exact uep E.hB h.size
def eE{d:St}{W:List Tmp}(c:InvG P E d a w W F γ):∀ b,F b->b<w.heap.size:=by obtain⟨e,h⟩:=c.step;exact h.bd
def Om(S:io P Γ){k:Array Oper}{B:St}{W:List Tmp}{e:Ef}{bs:Nat}(l:InvG P E B a w W F γ)(p:fF P Γ bs k.toList o B.sl B.mem=U e)(hn:az e.need)(hd:∀ x,o.dst=U x->x<B.n/\x ∉ W)(hgW:∀ j b g,o.guard=U (j,b)->(k[j]?).bind (·.dst)=U g->g∈W)(K:Act->World->Prop)(Q:Exit->Act->World->Prop)(hK:∀ a' w' F' γ',InvG P E (e.go B) a' w' (o.dst.toList++W) F' γ'->K a' w'):
  if Region.wanted o (yielded k a.tmps)then o.wp P a w K Q else K (a.put o.dst undef) w:=by
 have s:∀ (T:List Nat) (i:Nat) (y:Ob),l9 T B.mem i=U y->B.mem i=U y:=by intro T i y h;unfold l9 at h;split at h;exact h;cases h
 have R:∀ (T:List Nat) (d:Nat),l9 (d::T) B.mem d=V->B.mem d=none:=by intro T d h;unfold l9 at h;simpa using h
 unfold fF at p;split at p
 rename_i r;have L:Region.wanted o (yielded k a.tmps)=true:=by simp[Region.wanted,r]
 rw[ufw L];simp only at p;split at p<;>try trivial
 rename_i N f;cases p;have c:=KS S rfl l.mem (eE l) (qA l) (s _) (R _ _) f hn (rp l.sl _);refine c K Q λu w' F' γ' hs hm H=>hK _ w' F' γ' ?_;have A:iL N.v=true:=by
  cases t:N.v with
  |maybe _ _ _=>rw[t]at H;exact H.elim
  |_=>rfl
 refine ot l hd hs hm ?_ (λg b y t=>by have hv':N.v=_:=t;rw[hv']at A;cases A);cases t:N.v with
 |maybe _ _ _=>rw[t]at A;cases A
 |_=>rw[t]at H;exact H
 rename_i j b r;split at p<;>try trivial
 rename_i g hg;have O:(k[j]?).bind (·.dst)=U g:=by simpa using hg
 have D:=hgW j b g r O;have m:(yielded k a.tmps j==U b)=Z↔a.tmps.getD g undef=.bool b:=by
  unfold yielded;rw[O];simp;cases M:a.tmps[g]? with
  |none=>simp[M,undef]
  |some y=>simp only[uac,M,udd];cases y<;>simp
 split at p<;>try trivial
 rename_i gs hgs;simp only at p;split at p<;>try trivial
 rename_i N f;split at p<;>try trivial
 rename_i hwr;cases p;by_cases L:Region.wanted o (yielded k a.tmps)=Z;rw[ufw L];have z:=m.1 (by simpa[Region.wanted,r]using L);have C:=Wo l.sl 5 hgs z;have G:=zq8 hn (λx M=>(C x M).2);have c:=KS S rfl l.mem (eE l) (qA l) (s _) (R _ _) f G (U1 (λx M=>(C x M).1) l.sl _);rw[hwr]at c;refine c K Q λu w' F' γ' hs hm H=>hK _ w' F' γ' ?_;exact ot l hd hs hm ⟨λ_=>H,λh=>absurd z h⟩ (λg' w'' y t=>by cases t;exact D);rw[ufx L];have z:=λh=>L (by simpa[Region.wanted,r]using m.2 h);refine hK _ w F γ (ot l hd (Step.refl (eE l)) l.mem ⟨λh=>absurd h z,λ_=>rfl⟩ (λg' w'' y t=>by cases t;exact D))
end
section
variable {P:Program} {B:Nat} {o:Oper} {a:Act} {w w':World} {E:Env} {F F':Nat->Prop} {b:Nat} {γ γ' γ0:Nat->Value} {M m:aX} {R:Nat->Value->Prop} {Γ:Gm}
def qcx{a:Op}{t:Tmp}(h : .tmp t∈a.operands.toList):t∈zN a:=ub9.2 ⟨.tmp t,h,rfl⟩
def U3{c a:Nat->AV}{b:Op}(h:∀ t∈zN b,a t=c t):b.operands.toList.map (jq a)=b.operands.toList.map (jq c):=
 List.map_congr_left λx d=>by
  cases x with
  |tmp t=>exact h t (qcx d)
  |_=>rfl
def Wn{i c:Nat->AV}:(n:Nat) -> {g:Tmp} -> {a:Bool} -> {d:List (Tmp×Bool×Bool)}->pW i n g a=U d->(∀ t∈d.map (·.1),c t=i t)->pW c n g a=U d
 |0,_,_,_,h,_=>by simp[pW]at h
 |n+1,g,a,d,h,f=>by
  unfold pW at h |-;split at h<;>try trivial
  rename_i b e;cases h;rw[f g (by simp),e];rename_i o p b e;split at h<;>try trivial
  rename_i l k;cases h;rw[f g (by simp),e];simp only;rw[Wn n k (λt m=>f t (by simp only[uel,uej];exact .inr m))]
def qwo{A C:Type}{l:List A}{f g:A->List C}(h:∀ i∈l,f i=g i):l.flatMap f=l.flatMap g:=by
 induction l with
 |nil=>rfl
 |cons x l b=>rw[List.flatMap_cons,List.flatMap_cons,h x (by simp),b (λi a=>h i (ubj _ a))]
def Xr{b:Op}{a:List AV}{m c:aX}(h:∀ k∈ya b a m,c k=m k):ya b a c=ya b a m:=by unfold ya at *;split;rename_i e;refine ufu (List.flatMap xR a ++ ·) (qwo λi d=>?_);rw[h i (ubk _ d)];rfl;rfl
def ZZ{a:List Nat}{m b:aX}(h:∀ k∈a,b k=m k):l9 a b=l9 a m:=by funext i;unfold l9;split;rename_i c;exact h i (by simpa using c);rfl
def Uc{g:List Oper}{l d:Nat->AV}{m v:aX}{e:Ef}(c:fF P Γ b g o l m=U e)(s:∀ t∈e.rd,d t=l t)(i:∀ k∈e.ks,v k=m k):fF P Γ b g o d v=U e:=by
 unfold fF at c |-;split at c;rename_i p;simp only at c |-;split at c<;>try trivial
 rename_i y a;cases c;have n:=U3 s;rw[n,Xr (λk f=>i k (ubj _ f)),ZZ i,a];rename_i j w p;split at c<;>try trivial
 split at c<;>try trivial
 rename_i h r;simp only at c;split at c<;>try trivial
 rename_i y a;split at c<;>try trivial
 rename_i u;cases c;rw[Wn 5 r (λt z=>s t (ubk _ z))];simp only;have n:(o.op.operands.toList.map λx=>sM h (jq d x))=(o.op.operands.toList.map λx=>sM h (jq l x)):=
  List.map_congr_left λx A=>by
   cases x with
   |tmp t=>show sM h (d t)=sM h (l t);rw[s t (ua6 _ (qcx A))]
   |_=>rfl
 rw[n,Xr (λk f=>i k (ubj _ f)),ZZ i,a];simp only[u]
def qdo{u:List (Nat×Ob)}{k:Nat}(h:∀ x∈u,x.1≠k)(M:aX):aB M u k=M k:=by
 induction u generalizing M with
 |nil=>rfl
 |cons x u b=>obtain⟨id,c⟩:=x;simp only[aB];rw[b (λy a=>h y (ubj _ a)),gL _ _ (Ne.symm (h (id,c) (by simp)))]
def zrc{j:Nat}{x y:Ob}(h:i≠j)(M:aX):upd (upd M i x) j y=upd (upd M j y) i x:=by funext k;unfold upd;by_cases a:k=i<;>by_cases b:k=j<;>simp_all
def zrg{u:List (Nat×Ob)}{x:Ob}(h:∀ y∈u,i≠y.1)(M:aX):aB (upd M i x) u=upd (aB M u) i x:=by
 induction u generalizing M with
 |nil=>rfl
 |cons y u b=>obtain⟨id,c⟩:=y;simp only[aB];rw[zrc (h (id,c) (by simp)),b (λz a=>h z (ubj _ a))]
def zrf{u v:List (Nat×Ob)}(h:∀ x∈u,∀ y∈v,x.1≠y.1)(M:aX):aB (aB M u) v=aB (aB M v) u:=by
 induction u generalizing M with
 |nil=>rfl
 |cons x u c=>obtain⟨id,d⟩:=x;simp only[aB];rw[c (λy a z b=>h y (ubj _ a) z b),zrg (λy a=>h (id,d) (by simp) y a)]
def Gr{e f:Ef}(h:me e f=Z):(∀ t,e.dst=U t->t ∉ f.rd/\f.dst≠U t)/\(∀ t,f.dst=U t->t ∉ e.rd) /\
  (∀ x∈e.wr,x.1 ∉ f.ks)/\(∀ x∈e.wr,∀ y∈f.wr,x.1≠y.1)/\∀ y∈f.wr,y.1 ∉ e.ks:=by
 unfold me at h;simp only[udc]at h;obtain⟨⟨⟨d,g⟩,i⟩,k⟩:=h;refine⟨λt a=>?_,λt a=>?_,λx b=>?_,λx b y c=>?_,λy c=>?_⟩;rw[a]at d;simpa using d;rw[a]at g;simpa using g;have:=uc8.1 i x b;simp at this;simpa using this.1;have:=uc8.1 i x b;simp only[udc]at this;have:=uc8.1 this.2 y c;simpa using this;have:=uc8.1 k y c;simpa using this
def znu(a:Nat->AV){d e:Option Tmp}{x y:AV}(h:∀ t,d=U t->e≠U t):fX (fX a d x) e y=fX (fX a e y) d x:=by funext t;simp only[CX];by_cases b:d=U t<;>by_cases c:e=U t<;>simp_all
def VM{e f:Ef}(h:me e f=Z)(s:St):f.go (e.go s)=e.go (f.go s):=by obtain⟨a,d,g,b,i⟩:=Gr h;unfold Ef.go;simp only[St.mk.injEq,true_and];exact⟨znu _ (λt c=>(a t c).2),zrf b _,uT⟩
def Ua{a:List Oper}{e f:Ef}{s:St}(h:me e f=Z)(i:fF P Γ b a o (e.go s).sl (e.go s).mem=U f):fF P Γ b a o s.sl s.mem=U f:=by obtain⟨d,p,g,r,u⟩:=Gr h;refine Uc i (λt m=>?_) (λk l=>?_);simp only[Ef.go,CX];rw[ufx (λc=>(d t c).1 m)];simp only[Ef.go];exact(qdo (λx n c=>g x n (c ▸ l)) _).symm
def Ub{a:List Oper}{e f:Ef}{s:St}(h:me e f=Z)(i:fF P Γ b a o s.sl s.mem=U e):fF P Γ b a o (f.go s).sl (f.go s).mem=U e:=by obtain⟨p,d,r,u,g⟩:=Gr h;refine Uc i (λt m=>?_) (λk l=>?_);simp only[Ef.go,CX];rw[ufx (λc=>d t c m)];simp only[Ef.go];exact qdo (λx n c=>g x n (c ▸ l)) _
end
section
variable {P:Program} {w w':World} {E:Env} {F F':Nat->Prop} {b:Nat} {γ γ' γ0:Nat->Value} {Γ:Gm} {ops:Array Oper} {es:List Ef}
structure StatOK (n:Nat) (ops:Array Oper):Prop where
 lt:∀ (i:Nat) (o:Oper) (t:Nat),ops[i]?= some o->o.dst=some t->t<n
 once:∀ (i j:Nat) (o o':Oper) (t:Nat),ops[i]?= some o->ops[j]?= some o'->o.dst=some t->o'.dst=some t->i=j
 guard:∀ (i:Nat) (o:Oper) (j:Nat) (want:Bool),ops[i]?= some o->o.guard=some (j,want)->j<i/\∃ e∈o.after,e.on=j/\Region.binds .any e=true
 back:∀ (i:Nat) (o:Oper),ops[i]?= some o->∀ e∈o.after,Region.binds .any e=true->e.on<i
def qbw:(l:List Oper)->(k:Nat)->(W:List Tmp)->ss n k W l=Z->∀ (i:Nat) (o:Oper),l[i]?= U o ->
  (∀ t,o.dst=U t->t<n/\t ∉ W/\∀ (g:Nat) (v:Oper),g<i->l[g]?= U v->v.dst≠U t) /\
  (∀ j d,o.guard=U (j,d)->j<k+i/\∃ e∈o.after,e.on=j/\Region.binds .any e=Z) /\
  (∀ e∈o.after,Region.binds .any e=Z->e.on<k+i)
 |[],_,_,_,i,o,h=>by simp at h
 |x::r,k,W,B,i,o,h=>by
  simp only[ss,udc]at B;obtain⟨⟨⟨u,w⟩,F⟩,G⟩:=B;cases i with
  |zero=>simp at h;subst h;refine⟨λt A=>?_,λj d y=>?_,λe p m=>?_⟩;rw[A]at u;simp at u;exact⟨u.1,u.2,λg _ s=>absurd s (Nat.not_lt_zero _)⟩;rw[y]at w;simp only[udc,ucu,List.any_eq_true,ufj]at w;obtain⟨a,e,p,m⟩:=w;exact⟨a,e,ubh.1 p,m⟩;have:=uc8.1 F e (ubh.2 p);rw[m]at this;simpa using this
  |succ i=>
   obtain⟨C,D,E⟩:=qbw r (k+1) _ G i o h;refine⟨λt A=>?_,λj d y=>?_,λe p m=>?_⟩;obtain⟨a,b,c⟩:=C t A;refine⟨a,λz=>b (ua6 _ z),λg v s f=>?_⟩;cases g with
   |zero=>simp at f;subst f;intro z;exact b (ubk _ (by simp[z]))
   |succ g=>exact c g v (by omega) f
   obtain⟨a,b⟩:=D j d y;exact⟨by omega,b⟩;have:=E e p m;omega
def HM(h:ss n 0 [] ops.toList=Z):StatOK n ops:=by
 have d:=qbw ops.toList 0 [] h;have a:∀ (i:Nat) (o:Oper),ops[i]?= U o->ops.toList[i]?= U o:=λi o b=>by simpa using b
 refine⟨λi o t b k=>((d i o (a i o b)).1 t k).1,λi j o l t b c k f=>?_,λi o j g b v=>?_,λi o b e u s=>?_⟩;rcases uct i j with r|m|p
 exact absurd k (((d j l (a j l c)).1 t f).2.2 i o r (a i o b));exact m;exact absurd f (((d i o (a i o b)).1 t k).2.2 j l p (a j l c));have:=(d i o (a i o b)).2.1 j g v;exact⟨by omega,this.2⟩;have:=(d i o (a i o b)).2.2 e u s;omega
def dv(P:Program)(f:Gm)(b:Nat)(a:Array Oper)(c:List Ef)(d:St):List Nat->St->Prop
 |[],s=>s=d
 |i::r,s=>∃ o e,a[i]?= U o/\c[i]?= U e/\fF P f b a.toList o s.sl s.mem=U e/\dv P f b a c d r (e.go s)
def qaz{n:St}:(l:List Oper)->(k:Nat)->(s:St)->(c:List Ef)->sk P Γ b ops.toList l s=U (c,n)->(∀ i o,l[i]?= U o->ops[k+i]?= U o) ->
  (∀ i e,c[i]?= U e->es[k+i]?= U e)->dv P Γ b ops es n (List.range' k l.length) s
 |[],k,s,c,h,_,_=>by simp only[sk,ucl,ueh]at h;exact h.2
 |o::r,k,s,c,h,m,g=>by
  simp only[sk]at h;split at h<;>try trivial
  rename_i e a;split at h<;>try trivial
  rename_i d v t;cases h;refine⟨o,e,by simpa using m 0 o rfl,by simpa using g 0 e rfl,a,?_⟩;refine qaz r (k+1) _ d t (λi u f=>?_) (λi p f=>?_);have:=m (i+1) u (by simpa using f)
  rwa [show k+1+i=k+(i+1) by omega]
  have:=g (i+1) p (by simpa using f)
  rwa [show k+1+i=k+(i+1) by omega]
def Cl:{l:List Nat}->l.Pairwise (· < ·)->l.Nodup
 |[],_=>List.Pairwise.nil
 |x::r,h=>by obtain⟨a,b⟩:=uca.1 h;exact uca.2 ⟨λy c=>Nat.ne_of_lt (a y c),Cl b⟩
def V7{B:St}{j:Nat}:(c:List Nat)->(s:St)->dv P Γ b ops es B c s->c.Pairwise (· < ·)->j∈c ->
  (∀ i∈c,i<j->∀ e f,es[i]?= U e->es[j]?= U f->me e f=Z) ->
  ∃ o f,ops[j]?= U o/\es[j]?= U f/\fF P Γ b ops.toList o s.sl s.mem=U f/\dv P Γ b ops es B (c.erase j) (f.go s)
 |[],_,_,_,t,_=>by simp at t
 |i::r,s,E,A,t,y=>by
  obtain⟨o,e,z,p,d,n⟩:=E;by_cases g:i=j;subst g;refine⟨o,e,z,p,d,?_⟩;rw[ubl];exact n
  ·have m:j∈r:=by
    rcases uej.1 t with h|h
    exact absurd h.symm g;exact h
   have v:=(uca.1 A).1 j m;obtain⟨F,f,w,l,C,x⟩:=V7 r (e.go s) n (uca.1 A).2 m (λk D u=>y k (ubj _ D) u);have a:=y i (by simp) v e f p l;refine⟨F,f,w,l,Ua a C,?_⟩;rw[List.erase_cons_tail (by simpa using g)];refine⟨o,e,z,p,Ub a d,?_⟩;rw[<- VM a];exact x
def qJ(P:Program)(E:Env)(h:Gm)(b:Nat)(c:Array Oper)(g:List Ef)(f:St)(d:List Nat)(a:Act)(w:World):Prop:=
 ∃ e W F i,InvG P E e a w W F i/\(∀ t,t∈W↔∃ k o,c[k]?= U o/\k ∉ d/\o.dst=U t)/\dv P h b c g f d e/\e.n=f.n
def ZK(hΓ:io P Γ){s':St}{c:List Nat}{a:Act}(hi:qJ P E Γ b ops es s' c a w){j:Nat}(hj:j∈c)(hp:c.Pairwise (· < ·))(p:∀ i∈c,i<j->∀ e f,es[i]?= U e->es[j]?= U f->me e f=Z)(r:∀ o C l,ops[j]?= U o->o.guard=U (C,l)->C ∉ c)(L:StatOK s'.n ops)(v:∀ e∈es,az e.need)(K:Act->World->Prop)(Q:Exit->Act->World->Prop)(hK:∀ M w',qJ P E Γ b ops es s' (c.erase j) M w'->K M w'):wpOp P ops Q j K a w:=by
 obtain⟨st,W,F,γ,H,R,z,hn⟩:=hi;obtain⟨o,f,B,hf,G,hr⟩:=V7 c st z hp hj p;have S:=Cl hp;unfold wpOp;rw[B];simp only;have s:=Om hΓ H G (v f (ubg hf)) (λx hx=>⟨by rw[hn];exact L.lt j o x B hx,λhxW=>by
   obtain⟨k,ok,T,O,A⟩:=(R x).1 hxW;have:=L.once j k o ok x B T hx A;subst this;exact O hj⟩)
  (λC l g hg A=>by
   have m:=r o C l B hg;cases y:ops[C]? with
   |none=>rw[y]at A;cases A
   |some o'=>rw[y]at A;exact(R g).2 ⟨C,o',y,m,A⟩)
  K Q (λM w' F' γ' u=>hK M w' ⟨f.go st,_,F',γ',u,λt=>?_,hr,hn⟩)
 split;rename_i hw;rw[ufw hw]at s;exact .inl s;rename_i hw;rw[ufx hw]at s;exact s;have d:∀ k,k ∉ c.erase j↔k=j\/k ∉ c:=λk=>by rw[S.mem_erase_iff];constructor;intro h;by_cases O:k=j;exact .inl O;exact .inr λh'=>h ⟨O,h'⟩;rintro(h|h) ⟨m,D⟩;exact m h;exact h D
 rw[udt,R];constructor;rintro(h|⟨k,ok,m,D,N⟩);exact⟨j,o,B,(d j).2 (.inl rfl),by simpa using h⟩;exact⟨k,ok,m,(d k).2 (.inr D),N⟩;rintro⟨k,ok,m,D,N⟩;rcases(d k).1 D with rfl|h
 rw[B]at m;cases m;exact .inl (by simp[N]);exact .inr ⟨k,ok,m,h,N⟩
def Zo{l:List Nat}(h:l.Pairwise (· < ·))(j:Nat):(l.erase j).Pairwise (· < ·):=h.sublist List.erase_sublist
def ZL(g:io P Γ){p:St}(d:StatOK p.n ops)(c:∀ e∈es,az e.need)(Q:Exit->Act->World->Prop)(s:∀ a w,qJ P E Γ b ops es p [] a w->Q .normal a w):
  (m k:Nat)->∀ (a:Act) (w:World),qJ P E Γ b ops es p (List.range' k m) a w->wpOps P ops Q (List.range' k m) a w
 |0,k,a,w,h=>s a w h
 |m+1,k,a,w,h=>by
  rw[ude]at h;have z:(k::List.range' (k+1) m).Pairwise (· < ·):=by rw[<- ude];exact uaw
  refine ZK g h (by simp) z (λi v x=>?_) (λo A l y u f=>?_) d c _ Q (λt B r=>?_);rw[<- ude,ucw]at v;omega;have:=(d.guard k o A l y u).1;rw[<- ude,ucw]at f;omega;rw[ubl]at r;exact ZL g d c Q s m (k+1) t B r
def NO:(l:List Oper)->(a:List Nat)->(∀ i,i<a.length->(iK a l)[i]?= a[i]?) /\
  ∀ i o,l[i]?= U o->∃ m,(iK a l)[a.length+i]?= U m/\∀ b,m.testBit b=Z->∃ e∈o.after,Region.binds .any e=Z/\(b=e.on\/((iK a l).getD e.on 0).testBit b=Z)
 |[],a=>⟨λi v=>rfl,λi o h=>by simp at h⟩
 |x::r,a=>by
  simp only[iK];generalize D:x.after.toList.foldr (λe s=>if Region.binds .any e then 2 ^ e.on ||| a.getD e.on 0 ||| s else s) 0=m;obtain⟨u,y⟩:=NO r (a++[m]);have c:∀ i,i<a.length->(iK (a++[m]) r)[i]?= a[i]? := λi v=>by rw[u i (by simp;omega),uaj v]
  refine⟨c,λi o t=>?_⟩;cases i with
  |zero=>
   simp at t;subst t;refine⟨m,by rw[uez,u a.length (by simp)];simp,λb B=>?_⟩;have f:∀ (l:List Edge) , (∀ e∈l,e∈x.after)->(l.foldr (λe s=>if Region.binds .any e then 2 ^ e.on ||| a.getD e.on 0 ||| s else s) 0).testBit b=Z ->
     ∃ e∈x.after,Region.binds .any e=Z/\(b=e.on\/((iK (a++[m]) r).getD e.on 0).testBit b=Z):=by
    intro l
    induction l with
    |nil=>intro _ h;simp at h
    |cons e l w=>
     intro k h;simp only[List.foldr_cons]at h;split at h;rename_i g;simp only[Nat.testBit_or,Nat.testBit_two_pow,udu,ucu]at h;rcases h with (h|h)|h
     exact⟨e,k e (by simp),g,.inl h.symm⟩;refine⟨e,k e (by simp),g,.inr ?_⟩;by_cases p:e.on<a.length;rw[uah,c _ p,<- uah];exact h;rw[uah,ua4 (by omega)]at h;simp at h;exact w (λn d=>k n (ubj _ d)) h;exact w (λn d=>k n (ubj _ d)) h
   exact f x.after.toList (λe C=>ubh.1 C) (by rw[D];exact B)
  |succ i=>
   obtain⟨E,z,A⟩:=y i o t;refine⟨E,?_,A⟩;rw[ub6,ua7]at z
   rwa [show a.length+(i+1)=a.length+1+i by omega]
def Zn{k a:Nat}{f:Ef}:(l:List Ef)->(i0:Nat)->GW k a f i0 l=Z->∀ i e,l[i]?= U e->i0+i<k->a.testBit (i0+i)=Z\/me e f=Z
 |[],_,_,i,e,h,_=>by simp at h
 |x::r,i0,b,i,e,h,c=>by
  simp only[GW]at b;rw[ufw (by omega)]at b;simp at b;cases i with
  |zero=>simp at h;subst h;exact b.1
  |succ i=>
   have:=Zn r (i0+1) b.2 i e h (by omega)
   rwa [show i0+(i+1)=i0+1+i by omega]
def YP(h:uN ops.toList es=Z){j:Nat}{e f:Ef}(c:es[i]?= U e)(b:es[j]?= U f)(d:i<j):
  ((iK [] ops.toList).getD j 0).testBit i=Z\/me e f=true:=by
 unfold uN at h;have:=uc8.1 h j (uea.2 (uak.1 b).1);rw[b]at this;cases a:(iK [] ops.toList)[j]? with
 |none=>rw[a]at this;cases this
 |some m=>rw[a]at this;have:=Zn es 0 this i e c (by omega);rw[uah,a];simpa using this
def ZJ(hΓ:io P Γ){s':St}(C:StatOK s'.n ops)(A:∀ e∈es,az e.need)(F:uN ops.toList es=Z)(Q:Exit->Act->World->Prop)(hQ:∀ a w,qJ P E Γ b ops es s' [] a w->Q .normal a w):
  (g:Nat)->∀ (s:List Nat) (c:Array Bool) (a:Act) (w:World),s.length<=g->s.Pairwise (· < ·)->c.size=ops.size->(∀ i,i<ops.size->(c.getD i Z=Y↔i∈s))->(∀ i∈s,i<ops.size) ->
   (∀ k,k<ops.size->k ∉ s->∀ i,((iK [] ops.toList).getD k 0).testBit i=Z->i ∉ s)->qJ P E Γ b ops es s' s a w->wpAny P .any ops Q g c a w
 |g,[],c,a,w,_,_,N,L,_,_,hi=>by
  have t:Region.ready .any ops c=[]:=by apply List.eq_nil_iff_forall_not_mem.2;intro i d;obtain⟨G,o,ho,_⟩:=ufq.1 d;have B:=(uaf.1 ho).1;simpa using (L i B).1 G
  cases g with
  |zero=>exact⟨t,hQ a w hi⟩
  |succ g=>exact⟨λ_=>hQ a w hi,λi d=>by rw[t]at d;simp at d⟩
 |0,i::r,_,_,_,D,_,_,_,_,_,_=>by simp at D
 |g+1,i::r,c,a,w,D,hp,N,L,B,z,hi=>by
  have u:i∈Region.ready .any ops c:=by
   have hio:=B i (by simp);refine ufq.2 ⟨(L i hio).2 (by simp),ops[i],by simp,λe H v=>?_⟩;have hback:=C.back i ops[i] (by simp) e H v;have hnot:e.on ∉ i::r:=λhh=>by
    rcases uej.1 hh with h|h
    omega;have:=(uca.1 hp).1 _ h;omega
   have G:=λh=>hnot ((L e.on (by omega)).1 h);have hsz':e.on<c.size:=by omega
   simp only[uac,uam hsz']at G |-;simpa using G
  refine⟨λt=>by rw[t]at u;simp at u,λj hj=>?_⟩;obtain⟨hj1,o,ho,x⟩:=ufq.1 hj;have R:=(uaf.1 ho).1;have y:=(L j R).1 hj1;have p:∀ b,c.getD b Y=Z->b<ops.size/\b ∉ i::r:=λb v=>by
   have hbs:b<c.size:=by
    rcases ueq b c.size with h|h
    exact h;simp[ua1 h]at v
   refine⟨by omega,λd=>?_⟩;have:=(L b (by omega)).2 d;simp only[uac,uam hbs,udd]at v this;rw[v]at this;cases this
  obtain⟨m,T,hm2⟩:=(NO ops.toList []).2 j o (by simpa using ho);simp at T;have W:∀ b,((iK [] ops.toList).getD j 0).testBit b=Z->b ∉ i::r:=λb v=>by
   rw[uah,T]at v;obtain⟨e,H,hb',hor⟩:=hm2 b v;obtain⟨G,O⟩:=p e.on (x e H hb');rcases hor with rfl|h
   exact O;exact z e.on G O b h
  have hnd:=Cl hp;refine ZK hΓ hi y hp (λk K l e f H hf=>?_) (λo' j' want M hg d=>?_) C A _ Q (λa' w' h'=>?_);exact(YP F H hf l).resolve_left λh=>W k h K;obtain⟨_,e,H,heq,v⟩:=C.guard j o' j' want M hg;rw[ho]at M;cases M;have:=(p e.on (x e H v)).2;rw[heq]at this;exact this d;refine ZJ hΓ C A F Q hQ g _ (c.setIfInBounds j Z) a' w' ?_ (Zo hp j) (by simpa using N) (λk K=>?_) (λk K=>B k (ua8 K)) (λk K S b v=>?_) h';rw[List.length_erase_of_mem y];omega;rw[hnd.mem_erase_iff];by_cases l:j=k;subst l;simp[N];simp only[uac,uaa l];rw[<- uac,L k K];constructor;exact λh=>⟨Ne.symm l,h⟩;exact λh=>h.2;rw[hnd.mem_erase_iff]at S |-;rintro⟨G,O⟩;by_cases l:k=j;subst l;exact W b v O;exact z k K (λhh=>S ⟨l,hh⟩) b v O
end
section
variable {P:Program} {w w':World} {E:Env} {F F':Nat->Prop} {bs:Nat} {γ γ' γ0:Nat->Value} {Γ:Gm} {es:List Ef} {R:Nat->Value->Prop}
def I(P:Program)(E:Env)(s:St)(a:Act)(w:World):Prop:=∃ F b,InvG P E s a w [] F b
def WX{st:St}{a:Act}{W:List Tmp}(h:InvG P E st a w W F γ):InvG P E st a { w with drawn:=w.drawn+1 } W F γ:=by
 obtain⟨h1,h2,⟨γ0,h3⟩,h4,h5,h6,h7⟩:=h;refine⟨h1,h2,⟨γ0,⟨h3.hF,h3.hw,h3.hR,h3.old,h3.os,h3.tape,h3.output,h3.size,h3.bd,h3.new⟩⟩,⟨λid o ho=>?_,h4.apart⟩,λt=>?_,h6,λt=>aK.mono (w:=w) (w':={ w with drawn:=w.drawn+1 }) (λ_ h=>h) (λ_ _=>rfl) (λ_ _ h=>h) _ (h7 t)⟩
 ·refine(h4.ob id o ho).keep (λ_ h=>h) (λ_ _=>rfl) (λ_ _ h=>h) (λb hb=>⟨rfl,?_⟩);exact(jN (h4.ob id o ho) hb).2.1
 ·exact fw.mono (w:=w) (λ_ h=>h) (λ_ _=>rfl) (λ_ _ h=>h) (h5 t)
def rE{d:St}{a:Act}{W:List Tmp}(h:InvG P E d a w W F γ):InvG P E (gS d) a w [] F γ:=by obtain⟨f,i,k,l,m,p,n⟩:=h;refine⟨f,i,k,l,λt=>?_,λt g c v o=>?_,n⟩;have:=m t;show fw P w F _ _ (kx d.sl t) _;unfold kx;split;trivial;exact this;exfalso;have b:kx d.sl t=.maybe g c v:=o;unfold kx at b;split at b;cases b;rename_i e;exact e _ _ _ b
def qar{c:List Oper}{d:St}:(l:List Oper)->(s:St)->(b:List Ef)->sk P Γ bs c l s=U (b,d)->d.n=s.n
 |[],s,b,h=>by simp only[sk,ucl,ueh]at h;rw[h.2]
 |o::r,s,b,h=>by
  simp only[sk]at h;split at h<;>try trivial
  split at h<;>try trivial
  rename_i a f e;cases h;have:=qar r _ a e;exact this
def Tr.sat(Q:XE->St->Prop):Tr->Prop
 |.leaf e s=>Q e s
 |.br b x y=>(b=Z->x.sat Q)/\(b=Y->y.sat Q)
 |.need p x=>p/\x.sat Q
 |.two p x y=>(p->x.sat Q)/\y.sat Q
def zW{Q c:XE->St->Prop}(h:∀ e s,Q e s->c e s):{t:Tr}->t.sat Q->t.sat c
 |.leaf _ _,a=>h _ _ a
 |.br _ _ _,a=>⟨λb=>zW h (a.1 b),λb=>zW h (a.2 b)⟩
 |.need _ _,a=>⟨a.1,zW h a.2⟩
 |.two _ _ _,a=>⟨λb=>zW h (a.1 b),zW h a.2⟩
def lz{Q:XE->St->Prop}{t:Tr}:(a:List Prop)->(needL a t).sat Q->az a/\t.sat Q
 |[],h=>⟨uT,h⟩
 |p::a,h=>by have b:=h;obtain⟨c,d⟩:=lz a b.2;exact⟨lk.2 ⟨b.1,c⟩,d⟩
def NY{Q:XE->St->Prop}{t:Tr}:(es:List Ef)->(NX es t).sat Q->(∀ e∈es,az e.need)/\t.sat Q
 |[],h=>⟨λ_ f=>by simp at f,h⟩
 |e::es,h=>by
  have b:=lz _ h;obtain⟨c,d⟩:=NY es b.2;exact⟨λx a=>by
   rcases uej.1 a with rfl|a
   exact b.1;exact c x a,d⟩
def XE.ex:XE->Exit
 |.normal=>.normal
 |.exit id=>.exit id
 |.ret=>.ret
 |.panic p=>.panic [{ v:=p.val,recovered:=Y }]
 |.val _=>.goto 0
 |.jump l=>.goto l
def fR(P:Program)(E:Env)(Q:XE->St->Prop)(e:Exit)(a:Act)(w:World):Prop:=∃ x s,x.ex=e/\I P E s a w/\Q x s
def Jf(P:Program)(E:Env)(a:Act)(Q:XE->St->Prop)(e:Ending)(f:World):Prop:=
 ∃ x c d b,Q x c/\InvG P E c a f [] d b/\match x with
  |.val v=>∃ u,e=.returned u/\aK P f d (av c.mem b) v u
  |.panic p=>e=.panicked [{ v:=p.val,recovered:=Y }]
  |_=>False
def jC(P:Program)(K:Nat->FuncId->List AV->St->Option Tr):Prop:=
 ∀ d f b s t,K d f b s=U t->(∀ b w,(callFunc f b).run P w=.ok (.enter f b) w) /\
  ∀ (E:Env) (a:Act) (w:World) (F:Nat->Prop) (e:Nat->Value) (c:List Value) (Q:XE->St->Prop),InvG P E s a w [] F e->bI P w F (av s.mem e) b c->t.sat Q->Calls P f c.toArray w (Jf P E a Q)
structure CxOK (P:Program) (C:Cx):Prop where
 mo:P.follows .mixedOrders=true
 ct:io P C.Γ
 pc:∀ f pc,C.Pi f=some pc->lM P f pc
 kk:jC P C.K
def InvG.weaken{c:St}{a:Act}(h:InvG P E c a w [] F γ)(W:List Tmp):InvG P E c a w W F γ:=
 ⟨h.n,h.df,h.step,h.mem,h.sl,λt g b v d=>absurd (h.hg t g b v d) (by simp),h.gh⟩
def vA{d:Tmp->Value}:{a:List AV} -> {c:List Value}->qK P w F R d a c->a.all iL=Z->bI P w F R a c
 |[],[],_,_=>trivial
 |x::a,v::c,h,b=>by simp only[uek,udc]at b;exact⟨h.1.plain b.1,vA h.2 b.2⟩
def Tc{a:List AC}(b:arr.size=a.length)(e:aS P w F R a (λj u=>arr[j]?= U u)):bI P w F R (a.map .c) arr.toList:=by
 have:∀ (a:List AC) (l:List Value),l.length=a.length->aS P w F R a (λj u=>l[j]?= U u)->bI P w F R (a.map .c) l:=by
  intro a
  induction a with
  |nil=>
   intro l d _;cases l with
   |nil=>trivial
   |cons _ _=>simp at d
  |cons c r i=>
   intro l d h;cases l with
   |nil=>simp at d
   |cons v l=>obtain⟨⟨u,b,e,f⟩,g⟩:=h;simp at b;subst b;exact⟨⟨e,f⟩,i l (by simpa using d) (by simpa using g)⟩
 exact this a arr.toList (by simpa using b) (by simpa using e)
def Hz:{c d:List AV} -> {b a:List Value}->bI P w F R c b->bI P w F R d a->bI P w F R (c++d) (b++a)
 |[],_,[],_,_,h=>h
 |_::_,_,_::_,_,h,k=>⟨h.1,Hz h.2 k⟩
def OH{a:Tmp->Value}:{x:AV} -> {u:Value}->aK P w F R x u->fw P w F R a x u
 |.dead,_,h=>h
 |.c _,_,h=>h
 |.agg _,_,h=>h
 |.tup _,_,h=>h
 |.optr _ _ _ _,_,h=>h
 |.aptr _ _ _,_,h=>h
 |.maybe _ _ _,_,h=>h.elim
def Tr.sat.turn{Q a:XE->St->Prop}{t:Tr}(h:t.sat Q)(b:∀ e s,Q e s->a e s):t.sat a:=zW b h
def NZ{A:Option Addr}(a:P.underlying t=U (.slice el)):(Op.equalIn (d+1) t (.slice A n c) (.slice V 0 0)).run P w=.ok A.isNone w:=by cases A<;>simp[Op.equalIn,ud6 a]
def zgs{A:Option Addr}(f:P.underlying t=U (.slice el))(x y:Operand):
  (do eqGuard .eql t x y (.slice A n c) (.slice V 0 0);binOp .eql t (.slice A n c) (.slice V 0 0):Sem Value).run P w=.ok (.bool A.isNone) w:=by
 have a:binOp .eql t (.slice A n c) (.slice V 0 0)=(do pure (.bool (<- Op.equal t (.slice A n c) (.slice V 0 0)))):=rfl;have b:Op.equal t (.slice A n c) (.slice V 0 0)=Op.equalIn (9999+1) t (.slice A n c) (.slice V 0 0):=rfl;have e:=NZ (w:=w) (A:=A) (n:=n) (c:=c) (d:=9999) f;rw[a,b];simp[eqGuard,e]
def G9 {C:Cx} (A:CxOK P C) {s:St} {a:Act} {t:Tr} {c:List AV} (n:InvG P E (gS s) a w [] F γ) (h:C.K d f c (gS s)=U t) (k:bI P w F (av s.mem γ) c vs) (K:Act->World->Prop) (Q:Exit->Act->World->Prop)
  (l:(∀ c w,(callFunc f c).run P w=.ok (.enter f c) w)->(execOp a.eval o).run P w=.ok (.enter f vs.toArray) w)
  (H:t.sat λx m=>match x with
   |.val v=>∀ u w' F' γ',InvG P E m a w' [] F' γ'->aK P w' F' (av m.mem γ') v u->K (a.put o.dst u) w'
   |.panic p=>∀ w',I P E m a w'->Q (.panic [{ v:=p.val,recovered:=Y }]) a w'
   |_=>True):o.wp P a w K Q:=by
 obtain⟨r,g⟩:=A.kk _ _ _ _ _ h;have B:=g E a w F γ _ _ n k H;unfold Oper.wp;rw[l r];refine B.mono λe z G=>?_;obtain⟨x,m,F',γ',y,i,b⟩:=G;cases x with
 |val v=>obtain⟨u,rfl,L⟩:=b;exact y u z F' γ' i L
 |panic p=>have D:e=.panicked [{ v:=p.val,recovered:=Y }]:=b;subst D;exact y z ⟨F',γ',i⟩
 |normal=>exact b.elim
 |exit _=>exact b.elim
 |ret=>exact b.elim
 |jump _=>exact b.elim
def WY{a:Act}{e:Operand}{d:String}{b:Array Operand}{r:Array TypeId}{g:Value}(k:o.op=.call ⟨.invoke e d,b,r⟩)(l:a.eval e=.iface ty g)(i:(callMethod (.iface ty g) d (b.map a.eval)).run P w=(callFunc f (#[u]++b.map a.eval)).run P w)(h:∀ c w,(callFunc f c).run P w=.ok (.enter f c) w):(execOp a.eval o).run P w=.ok (.enter f (u::(b.map a.eval).toList).toArray) w:=by
 unfold execOp;rw[k];simp only[resolve,uet,uev,ucm,invoke,l];have m:(#[Value.iface ty g]++Array.map a.eval b)[0]?= U (.iface ty g):=by simp[Array.getElem?_append]
 have n:(Array.map a.eval b).extract 0 b.size=Array.map a.eval b:=by
  have:b.size=(Array.map a.eval b).size:=by simp
  rw[this];exact Array.extract_size
 rw[m];have p:(#[Value.iface ty g]++Array.map a.eval b).extract 1 (#[Value.iface ty g]++Array.map a.eval b).size=Array.map a.eval b:=by simp[n]
 simp only[p];rw[i,h];simp
def qbl {C:Cx} (hC:CxOK P C) {st:St} {a:Act} {W:List Tmp} {t:Tr} (D:InvG P E st a w W F γ) (h:Da P C b o st=U t) (K:Act->World->Prop) (Q:Exit->Act->World->Prop)
  (hq:t.sat λx s'=>match x with
   |.val v=>∀ u w' F' γ',InvG P E s' a w' [] F' γ'->aK P w' F' (av s'.mem γ') v u->K (a.put o.dst u) w'
   |.panic p=>∀ w',I P E s' a w'->Q (.panic [{ v:=p.val,recovered:=Y }]) a w'
   |_=>True):o.guard=V/\o.wp P a w K Q:=by
 have N:=rE D;unfold Da at h;split at h<;>try trivial
 rotate_left
 rename_i f0 d ts f id m hg O H;refine⟨hg,?_⟩;split at h<;>try trivial
 rename_i g;have k:=rp D.sl o.op.operands.toList;rw[H]at k;have z:o.op.operands.toList.map a.eval=a.eval f0::(d.map a.eval).toList:=by simp[O,Op.operands,Call.operands]
 rw[z]at k;obtain⟨⟨_,b',e1,e2⟩,i⟩:=k;refine G9 hC N h (vs:=.pointer (U ⟨b',0,V⟩)::(d.map a.eval).toList) ⟨⟨rfl,b',e1,rfl⟩,vA i g⟩ K Q (λs=>?_) hq;unfold execOp;rw[O];simp[resolve,e2,Deferred.ofValue,invoke,s];rename_i recv name d ts ty id m hg O H;refine⟨hg,?_⟩;have k:=rp D.sl o.op.operands.toList;rw[H]at k;have z:o.op.operands.toList.map a.eval=a.eval recv::(d.map a.eval).toList:=by simp[O,Op.operands,Call.operands]
 rw[z]at k;obtain⟨⟨_,b',e1,e2⟩,i⟩:=k;split at h<;>try trivial
 rename_i f G;split at h<;>try trivial
 rename_i ety r hid;split at h<;>try trivial
 rename_i g;obtain⟨b2,arr,q1,q2,q3,q4,q5,q6,q7⟩:=nM (off:=0) D.mem hid ⟨b',e1,rfl⟩;cases q2;obtain⟨u,z1,z2,z3⟩:=q7.1;have hcell:w.cell? ⟨b',0,V⟩=U u:=by rw[xg q3];exact z1
 exact G9 hC N h (vs:=u::(d.map a.eval).toList) ⟨⟨z2,z3⟩,vA i g⟩ K Q (λs=>WY O e2 ((qax G _ _).2 rfl u hcell) s) hq;rename_i f G;split at h<;>try trivial
 rename_i g;exact G9 hC N h (vs:=.pointer (U ⟨b',0,V⟩)::(d.map a.eval).toList) ⟨⟨rfl,b',e1,rfl⟩,vA i g⟩ K Q (λs=>WY O e2 ((qax G _ _).1 rfl) s) hq
 ·rename_i t0 x0 y0 yt T l hg O H;split at h<;>try (simp at h;done)
  rename_i el hu;simp at h;subst h;refine⟨hg,?_⟩;have k:=rp D.sl o.op.operands.toList;rw[H]at k;have z:o.op.operands.toList.map a.eval=[a.eval x0,a.eval y0]:=by simp[O,Op.operands]
  rw[z]at k;obtain⟨⟨_,A,c,e1,e2,e3,e4⟩,⟨_,e5⟩,_⟩:=k;have e1':=e1.symm;have e5':=e5;have L:(execOp a.eval o).run P w=.ok (.value (.bool A.isNone)) w:=by refine dn (by unfold execOp;rw[O]) ?_;rw[e1',e5'];exact zgs hu x0 y0
  unfold Oper.wp;rw[L];cases A with
  |none=>
   have hl:l=[]:=by
    cases l with
    |nil=>rfl
    |cons x r=>obtain⟨ad,h,_⟩:=e4 0 x rfl;cases h
   exact hq.1 hl _ w F γ N ⟨rfl,rfl⟩
  |some ad=>exact hq.2 _ w F γ N ⟨rfl,rfl⟩
 rename_i f0 d ts f caps m hg O H;refine⟨hg,?_⟩;have k:=rp D.sl o.op.operands.toList;rw[H]at k;have z:o.op.operands.toList.map a.eval=a.eval f0::(d.map a.eval).toList:=by simp[O,Op.operands,Call.operands]
 rw[z]at k;obtain⟨⟨_,hfv⟩,i⟩:=k;obtain⟨cv,e1,e2,e3⟩:=hfv;have hcaps:=Tc e2 e3;have L:(∀ m w,(callFunc f m).run P w=.ok (.enter f m) w)->(execOp a.eval o).run P w=.ok (.enter f (d.map a.eval++cv)) w:=λs=>by unfold execOp;rw[O];simp[resolve,e1,Deferred.ofValue,invoke,s]
 have fU:((d.map a.eval).toList++cv.toList).toArray=d.map a.eval++cv:=by simp
 split at h;rename_i pc hpc;split at h<;>try trivial
 rename_i xs u hrs;split at h<;>try trivial
 rename_i x n hdec;cases h;obtain⟨hn,hq⟩:=lz _ hq;obtain⟨hn1,hn2⟩:=lj.1 hn;have g:(m++caps.map AV.c).all iL=true:=by
  have:∀ (l:List AV) (u:List Value),(∃ xs u',fe st.mem l=U (xs,u'))->l.all iL=true:=by
   intro l
   induction l with
   |nil=>intros;rfl
   |cons y l ih=>
    rintro us ⟨xs,u',hx⟩;simp only[fe]at hx;split at hx<;>try trivial
    rename_i h1 h2;simp only[uek,udc];refine⟨?_,ih [] ⟨_,_,h2⟩⟩;cases y<;>first|rfl|(simp[sj]at h1)
  exact this _ [] ⟨_,_,hrs⟩
 have hargs':bI P w F (av st.mem γ) (m++caps.map AV.c) ((d.map a.eval).toList++cv.toList):=by refine Hz (vA i ?_) hcaps;rw[udo,udc]at g;exact g.1
 obtain⟨F1,s1,m1,_,r1⟩:=ke D.mem (eE D) (dM.of λ_ _ h=>h) hrs hargs';have hps:=pI hC.ct hdec hn1 r1;obtain⟨s,hcalls⟩:=hC.pc f pc hpc;have hc:=hcalls w F1 x _ s1.bd hps hn2;unfold Oper.wp;rw[L s];rw[fU]at hc;have M:∀ w2 F2,(∀ b,F1 b->F2 b)->(∀ b,F2 b->(F1 b\/w.heap.size<=b)/\b<w2.heap.size)->Below w.heap.size w w2->InvG P E (gS ⟨st.n,st.sl,aB st.mem u,st.gs⟩) a w2 [] F2 γ:=λw2 F2 hF2 R B=>by obtain⟨s2,m2⟩:=Step.below m1 (qA D) s1.bd B hF2 R;have s3:=s1.trans s2;refine rE ⟨D.n,D.df,?_,m2,λt=>(D.sl t).mono s3.hF s3.hw s3.hR,D.hg,λt=>s3.repA (D.gh t)⟩;obtain⟨γ0,h0⟩:=D.step;exact⟨γ0,h0.trans s3⟩
 refine hc.mono λe w2 hp=>?_;rcases hp with ⟨S,v2,F2,rfl,B,hF2,R,hrep⟩|⟨S,rfl,B⟩
 exact hq.2 S v2 w2 F2 γ (M w2 F2 hF2 R B) (xq hrep);exact hq.1 S w2 ⟨F1,γ,M w2 F1 (λ_ h=>h) (λb hb=>⟨.inl hb,ucb (s1.bd b hb) B.size⟩) B⟩
 split at h<;>try trivial
 rename_i g;refine G9 hC N h (Hz (vA i g) hcaps) K Q (λs=>?_) hq;rw[fU];exact L s
def vY{f:AV->St->Option Tr}{Q:XE->St->Prop}:{t c:Tr}->t.bindV f=U c->c.sat Q->t.sat λe s=>match e with
  |.val v=>∃ u,f v s=U u/\u.sat Q
  |.panic p=>Q (.panic p) s
  |_=>False
 |.leaf e s,c,h,a=>by
  cases e with
  |val v=>exact⟨c,h,a⟩
  |panic p=>simp only[Tr.bindV,ucl]at h;subst h;exact a
  |normal=>simp[Tr.bindV]at h
  |exit _=>simp[Tr.bindV]at h
  |ret=>simp[Tr.bindV]at h
  |jump _=>simp[Tr.bindV]at h
 |.br b x y,c,h,a=>by
  simp only[Tr.bindV]at h;split at h<;>try trivial
  rename_i k l g i;cases h;exact⟨λd=>vY g (a.1 d),λd=>vY i (a.2 d)⟩
 |.need p x,c,h,a=>by
  simp only[Tr.bindV]at h;split at h<;>try trivial
  rename_i k g;cases h;exact⟨a.1,vY g a.2⟩
 |.two p x y,c,h,a=>by
  simp only[Tr.bindV]at h;split at h<;>try trivial
  rename_i k l g i;cases h;exact⟨λd=>vY g (a.1 d),vY i a.2⟩
def On{C:Cx}(hC:CxOK P C){c:Array Oper}(f:StatOK n c){Q:XE->St->Prop}:(l:List Oper)->(k:Nat)->(∀ i o,l[i]?= U o->c[k+i]?= U o)->∀ (L:St) (a:Act) (w:World) (W:List Tmp) (F:Nat->Prop) (γ:Nat->Value) (t:Tr),
  InvG P E L a w W F γ->L.n=n->(∀ x,x∈W↔∃ i o,i<k/\c[i]?= U o/\o.dst=U x)->yz P C bs c.toList l L=U t->t.sat Q->wpOps P c (fR P E Q) (List.range' k l.length) a w
 |[],k,_,L,a,w,W,F,γ,t,N,hn,hW,h,K=>by simp only[yz,ucl]at h;subst h;exact⟨.normal,_,rfl,⟨F,γ,rE N⟩,K⟩
 |o::r,k,hl,L,a,w,W,F,γ,t,N,hn,hW,h,K=>by
  have d:c[k]?= U o:=by simpa using hl 0 o rfl
  have R:∀ i o,r[i]?= U o->c[k+1+i]?= U o:=λi o' hi'=>by
   have:=hl (i+1) o' (by simpa using hi')
   rwa [show k+1+i=k+(i+1) by omega]
  have hd:∀ x,o.dst=U x->x<L.n/\x ∉ W:=λx A=>⟨by rw[hn];exact f.lt k o x d A,λhxW=>by obtain⟨i,B,O,hoi,hdi⟩:=(hW x).1 hxW;have:=f.once k i o B x d hoi A hdi;omega⟩
  have M:∀ x,x∈o.dst.toList++W↔∃ i B,i<k+1/\c[i]?= U B/\B.dst=U x:=λx=>by rw[udt,hW];constructor;rintro(h|⟨i,B,h1,H,h3⟩);exact⟨k,o,by omega,d,by simpa using h⟩;exact⟨i,B,by omega,H,h3⟩;rintro⟨i,B,h1,H,h3⟩;by_cases O:i=k;subst O;rw[d]at H;cases H;exact .inl (by simp[h3]);exact .inr ⟨i,B,by omega,H,h3⟩
  rw[uc9,ude,wpOps_cons];unfold wpOp;rw[d];simp only;simp only[yz]at h;split at h;rename_i e he;split at h<;>try trivial
  rename_i t' ht';cases h;obtain⟨hne,K⟩:=lz _ K;have s:=Om hC.ct N he hne hd (λj D g hg m=>by
   have hj:=(f.guard k o j D d hg).1;cases G:c[j]? with
   |none=>rw[G]at m;cases m
   |some o'=>rw[G]at m;exact(hW g).2 ⟨j,o',hj,G,m⟩) (wpOps P c (fR P E Q) (List.range' (k+1) r.length)) (fR P E Q)
   (λa' w' F' γ' b=>On hC f r (k+1) R _ a' w' _ F' γ' t' b hn M ht' K)
  split;rename_i hw;rw[ufw hw]at s;exact .inl s;rename_i hw;rw[ufx hw]at s;exact s;split at h<;>try trivial
  rename_i t1 ht1;have hsat:=vY h K;obtain⟨hg,hwp⟩:=qbl hC N ht1 (wpOps P c (fR P E Q) (List.range' (k+1) r.length)) (fR P E Q) (hsat.turn λx s' A=>by
   cases x with
   |val v=>
    obtain⟨u,hu,hqu⟩:=A;intro v2 w2 F2 γ2 b z;have S:s'.n=n:=by have h1:=b.n;have H:=N.n;omega
    have T:=ot (wr:=[]) (b.weaken W) (λx A=>⟨by rw[S];exact f.lt k o x d A,(hd x A).2⟩) (Step.refl (eE b)) b.mem (OH z) (λg D y hv=>by subst hv;exact z.elim)
    exact On hC f r (k+1) R _ _ w2 _ F2 γ2 u T S M hu hqu
   |panic p=>exact λw2 b=>⟨.panic p,s',rfl,b,A⟩
   |normal=>trivial
   |exit _=>trivial
   |ret=>trivial
   |jump _=>trivial)
  have hw:Region.wanted o (yielded c a.tmps)=true:=by simp[Region.wanted,hg]
  rw[ufw hw];exact .inl hwp
def zh8(C:io P Γ){D:Array Oper}{c:St}{a:Act}{W:List Tmp}{e:Ef}(M:o.guard=V)(r:InvG P E c a w W F γ)(p:fF P Γ bs D.toList o c.sl c.mem=U e)(O:az e.need)(L:∀ x,o.dst=U x->x<c.n/\x ∉ W)(K:Act->World->Prop)(Q:Exit->Act->World->Prop)(H:∀ u w' F' γ',InvG P E (e.go c) (a.put o.dst u) w' (o.dst.toList++W) F' γ'->K (a.put o.dst u) w'):o.wp P a w K Q:=by
 have l:∀ (s:List Nat) (i:Nat) (y:Ob),l9 s c.mem i=U y->c.mem i=U y:=by intro s i y h;unfold l9 at h;split at h;exact h;cases h
 have A:∀ (s:List Nat) (d:Nat),l9 (d::s) c.mem d=V->c.mem d=none:=by intro s d h;unfold l9 at h;simpa using h
 unfold fF at p;rw[M]at p;simp only at p;split at p<;>try trivial
 rename_i t f;cases p;have k:=KS C rfl r.mem (eE r) (qA r) (l _) (A _ _) f O (rp r.sl _);refine k K Q λu w' F' γ' R N z=>H u w' F' γ' ?_;have b:iL t.v=true:=by
  cases m:t.v with
  |maybe _ _ _=>rw[m]at z;exact z.elim
  |_=>rfl
 refine ot r L R N ?_ (λg G y m=>by have B:t.v=_:=m;rw[B]at b;cases b);cases m:t.v with
 |maybe _ _ _=>rw[m]at b;cases b
 |_=>rw[m]at z;exact z
def lJ(a:Act)(W:List Tmp)(b:List (Tmp×Bool)):Prop:=∀ x∈b,x.1∈W/\a.tmps.getD x.1 undef=.bool x.2
def N6:{a:List (Tmp×Bool)} -> {t:Tmp} -> {v:Bool}->yb a t=U v->(t,v)∈a
 |[],_,_,h=>by simp[yb]at h
 |(x,c)::r,t,v,h=>by
  simp only[yb]at h;split at h;rename_i b;injection h with h
  subst b;subst h;exact ucc;exact ubj _ (N6 h)
def Em{a:Act}{W:List Tmp}{b:List (Tmp×Bool)}(d:lJ a W b){x:Operand}{c:Bool}(h:El b x=U c):a.eval x=.bool c:=by unfold El at h;split at h;exact(d _ (N6 h)).2;cases h;rfl;cases h
def qyd{a:Act}{W:List Tmp}{g:List (Tmp×Bool)}(f:lJ a W g){x:Operand}(h:MM g o.op=U x):(execOp a.eval o).run P w=.ok (.value (a.eval x)) w:=by unfold MM at h;split at h;rename_i y b;cases h;unfold execOp;rw[b];simp;rename_i c y z b;split at h;rename_i d;cases h;have e:=Em f d;unfold execOp;rw[b];simp[e,asBool];rename_i d;cases h;have e:=Em f d;unfold execOp;rw[b];simp[e,asBool];cases h;cases h
def lJ.put{a:Act}{W:List Tmp}{e:List (Tmp×Bool)}{d:Option Tmp}(h:lJ a W e)(c:∀ x,d=U x->x<a.tmps.size/\x ∉ W):lJ (a.put d u) (d.toList++W) e:=λx i=>by obtain⟨b,f⟩:=h x i;refine⟨ua6 _ b,?_⟩;rw[Hw a d u x.1 (λy k=>(c y k).1),ufx (λg=>(c x.1 g).2 b)];exact f
def zh0{C:Cx}(hC:CxOK P C){ops:Array Oper}{Q:XE->St->Prop}{O:List (Tmp×Bool)}{r:St}{a:Act}{W:List Tmp}{kf:List (Tmp×Bool)->St->Option Tr}{t:Tr}(K:Act->World->Prop)(l:InvG P E r a w W F γ)(G:lJ a W O)(hn:r.n=n)(N:∀ x,o.dst=U x->x<r.n/\x ∉ W)(h:yy P C bs ops.toList O o r kf=U t)(B:t.sat Q)(f:∀ kn' M a' w' F' γ' t',kf kn' M=U t'->t'.sat Q->InvG P E M a' w' (o.dst.toList++W) F' γ'->lJ a' (o.dst.toList++W) kn'->M.n=n->K a' w'):o.wp P a w K (fR P E Q):=by
 have m:∀ x,o.dst=U x->x<a.tmps.size/\x ∉ W:=λx A=>by rw[l.n];exact N x A
 have s:∀ t,(match fF P C.Γ bs ops.toList (Gb o) r.sl r.mem with
   |some e=>match kf O (e.go r)with
    |some t=>U (needL e.need t)
    |none=>V
   |none=>match Da P C bs (Gb o) r with
    |some t=>t.bindV λv L=>kf O ⟨L.n,fX L.sl o.dst v,L.mem,L.gs⟩
    |none=>V)=U t->t.sat Q->o.wp P a w K (fR P E Q):=by
  intro t h B;split at h;rename_i e he;split at h<;>try trivial
  rename_i t' ht';cases h;obtain⟨hne,B⟩:=lz _ B;exact zh8 hC.ct rfl l he hne N K _ λu w' F' γ' b=>f O _ _ w' F' γ' t' ht' B b (G.put m) hn;split at h<;>try trivial
  rename_i t1 ht1;have hsat:=vY h B;refine(qbl hC l ht1 K (fR P E Q) (hsat.turn λx L A=>?_)).2;cases x with
  |val v=>
   obtain⟨u,hu,hqu⟩:=A;intro v2 w2 F2 γ2 b D;have R:L.n=n:=by have h1:=b.n;have h2:=l.n;omega
   have S:=ot (wr:=[]) (b.weaken W) (λx A=>⟨by rw[R,<- hn];exact(N x A).1,(N x A).2⟩) (Step.refl (eE b)) b.mem (OH D) (λg k y z=>by subst z;exact D.elim)
   exact f O _ _ w2 F2 γ2 u hu hqu S (G.put m) R
  |panic p=>exact λw2 b=>⟨.panic p,L,rfl,b,A⟩
  |normal=>trivial
  |exit _=>trivial
  |ret=>trivial
  |jump _=>trivial
 unfold yy at h;split at h;rename_i x d A i;have T:=qyd (P:=P) (w:=w) G A;have hwp:K (a.put o.dst (a.eval x)) w->o.wp P a w K (fR P E Q):=λhK=>by unfold Oper.wp;rw[T];exact hK
 have hx1:=Fs l.sl x;split at h;rename_i c hc;refine hwp (f _ _ _ w F γ t h B ?_ ?_ hn);have z:=Em G hc;rw[z,<- i];exact ot (wr:=[]) l N (Step.refl (eE l)) l.mem (show fw P w F _ _ (AV.c (.bool c)) (.bool c) from ⟨rfl,rfl⟩) (λg k y z=>by cases z);intro y hy;rcases uej.1 hy with rfl|hy
 refine⟨by simp[i],?_⟩;rw[Hw a o.dst _ d (λy hy=>(m y hy).1),ufw i];exact Em G hc;exact G.put m y hy;split at h;cases h;rename_i v hnm;refine hwp (f _ _ _ w F γ t h B ?_ (G.put m) hn);have H:iL (jq r.sl x)=true:=by
  cases z:jq r.sl x with
  |maybe g k y=>exact absurd z (hnm g k y)
  |_=>rfl
 rw[<- i];exact ot (wr:=[]) l N (Step.refl (eE l)) l.mem (OH (hx1.plain H)) (λg k y z=>by rw[z]at H;cases H);exact s t h B
def Oo{C:Cx}(hC:CxOK P C){b:Array Oper}(z:StatOK n b){Q:XE->St->Prop}:(l:List Oper)->(k:Nat)->(∀ i o,l[i]?= U o->b[k+i]?= U o)->∀ (A:List (Tmp×Bool)) (B:St) (a:Act) (w:World) (W:List Tmp) (F:Nat->Prop) (γ:Nat->Value) (t:Tr),
  InvG P E B a w W F γ->lJ a W A->B.n=n->(∀ x,x∈W↔∃ i o,i<k/\b[i]?= U o/\o.dst=U x)->ni P C bs b.toList A l B=U t->t.sat Q->wpOps P b (fR P E Q) (List.range' k l.length) a w
 |[],k,_,A,B,a,w,W,F,γ,t,K,S,hn,hW,h,G=>by simp only[ni,ucl]at h;subst h;exact⟨.normal,_,rfl,⟨F,γ,rE K⟩,G⟩
 |o::r,k,hl,A,B,a,w,W,F,γ,t,K,S,hn,hW,h,G=>by
  have f:b[k]?= U o:=by simpa using hl 0 o rfl
  have hl':∀ i o,r[i]?= U o->b[k+1+i]?= U o:=λi o' hi'=>by
   have:=hl (i+1) o' (by simpa using hi')
   rwa [show k+1+i=k+(i+1) by omega]
  have hd:∀ x,o.dst=U x->x<B.n/\x ∉ W:=λx H=>⟨by rw[hn];exact z.lt k o x f H,λhxW=>by obtain⟨i,N,hik,hoi,hdi⟩:=(hW x).1 hxW;have:=z.once k i o N x f hoi H hdi;omega⟩
  have hW':∀ x,x∈o.dst.toList++W↔∃ i N,i<k+1/\b[i]?= U N/\N.dst=U x:=λx=>by rw[udt,hW];constructor;rintro(h|⟨i,N,h1,R,h3⟩);exact⟨k,o,by omega,f,by simpa using h⟩;exact⟨i,N,by omega,R,h3⟩;rintro⟨i,N,h1,R,h3⟩;by_cases hik:i=k;subst hik;rw[f]at R;cases R;exact .inl (by simp[h3]);exact .inr ⟨i,N,by omega,R,h3⟩
  have hon:∀ d O,lJ a W d->yy P C bs b.toList d o B (λA s=>ni P C bs b.toList A r s)=U O->O.sat Q->o.wp P a w (wpOps P b (fR P E Q) (List.range' (k+1) r.length)) (fR P E Q):=λd O u h' hq'=>zh0 hC (wpOps P b (fR P E Q) (List.range' (k+1) r.length)) K u hn hd h' hq' λkn2 st2 a2 w2 F2 γ2 t2 R hq2 hi2 hk2 hn2=>Oo hC z r (k+1) hl' kn2 st2 a2 w2 _ F2 γ2 t2 hi2 hk2 hn2 hW' R hq2
  have hsz:∀ x,o.dst=U x->x<a.tmps.size/\x ∉ W:=λx H=>by rw[K.n];exact hd x H
  have L:∀ d O,lJ a W d->ni P C bs b.toList d r ⟨B.n,fX B.sl o.dst .dead,B.mem,B.gs⟩=U O->O.sat Q->wpOps P b (fR P E Q) (List.range' (k+1) r.length) (a.put o.dst undef) w:=λd O u h' hq'=>Oo hC z r (k+1) hl' d _ _ w _ F γ O (ot (wr:=[]) (v:=.dead) K hd (Step.refl (eE K)) K.mem trivial (λg c y hv=>by cases hv)) (u.put hsz) hn hW' h' hq'
  rw[uc9,ude,wpOps_cons];unfold wpOp;rw[f];simp only;simp only[ni]at h;split at h;rename_i hg;have hw:Region.wanted o (yielded b a.tmps)=true:=by simp[Region.wanted,hg]
  rw[ufw hw];exact .inl (hon A t S h G);rename_i j c hgd;split at h<;>try trivial
  rename_i g hg;have m:(b[j]?).bind (·.dst)=U g:=by simpa using hg
  have hgW:g∈W:=by
   have hj:=(z.guard k o j c f hgd).1;cases T:b[j]? with
   |none=>rw[T]at m;cases m
   |some o'=>rw[T]at m;exact(hW g).2 ⟨j,o',hj,T,m⟩
  have e:Region.wanted o (yielded b a.tmps)=Z↔a.tmps.getD g undef=.bool c:=by
   have:(yielded b a.tmps j==U c)=Z↔a.tmps.getD g undef=.bool c:=by
    unfold yielded;rw[m];simp;cases H:a.tmps[g]? with
    |none=>simp[H,undef]
    |some y=>simp only[uac,H,udd];cases y<;>simp
   simpa[Region.wanted,hgd]using this
  have M:∀ v,a.tmps.getD g undef=.bool v->∀ d,lJ a W d->lJ a W ((g,v)::d):=λv hv d u y hy=>by
   rcases uej.1 hy with rfl|hy
   exact⟨hgW,hv⟩;exact u y hy
  split at h;rename_i v hv;have hgv:=(S _ (N6 hv)).2;split at h;rename_i hvw;subst hvw;rw[ufw (e.2 hgv)];exact .inl (hon A t S h G);rename_i hvw;rw[ufx (λhw=>hvw (by have:=e.1 hw;rw[hgv]at this;cases this;rfl))];exact L A t S h G;split at h<;>try trivial
  rename_i p hsl;split at h<;>try trivial
  rename_i x y H hy;cases h;have hs:=K.sl g;rw[hsl]at hs;have D:=hs.2;by_cases hpw:p=c;subst hpw;rw[ufw (e.2 D)];refine .inl (hon _ x (M p D A S) H ?_);cases p with
  |true=>exact G.1 rfl
  |false=>exact G.2 rfl
  rw[ufx (λhw=>hpw (by have:=e.1 hw;rw[D]at this;cases this;rfl))];have hpn:p=!c:=by cases p<;>cases c<;>first|rfl|exact absurd rfl hpw
  refine L _ y (M (!c) (by rw[D,hpn]) A S) hy ?_;cases c with
  |true=>subst hpn;exact G.2 rfl
  |false=>subst hpn;exact G.1 rfl
def zu3(P:Program)(ops:Array Oper)(Q:Exit->Act->World->Prop)(draw:Bool)(a:Act)(w:World):Prop:=
 bif draw then wpAny P .any ops Q ops.size (Array.replicate ops.size false) a { w with drawn:=w.drawn+1 }else wpOps P ops Q (List.range ops.size) a w
def ZM{C:Cx}(hC:CxOK P C){ops:Array Oper}{draw:Bool}{s:St}{t:Tr}(h:Hy P C.Γ bs ops.toList draw s=some t){Q:XE->St->Prop}(hq:t.sat Q){a:Act}(hi:I P E s a w):zu3 P ops (fR P E Q) draw a w:=by
 unfold Hy at h;split at h<;>try trivial
 rename_i hstat;split at h<;>try trivial
 rename_i es s' hrun;split at h<;>try trivial
 rename_i hord;cases h;obtain⟨hneed,hq⟩:=NY es hq;have hn:=qar _ _ _ hrun;have hst:StatOK s'.n ops:=by rw[hn];exact HM hstat
 have hruns:dv P C.Γ bs ops es s' (List.range' 0 ops.size) s:=by
  have:=qaz ops.toList 0 s es hrun (λi o hi=>by simpa using hi) (λi e hi=>by simpa using hi);simpa using this
 obtain⟨F,γ,hi⟩:=hi;have hend:∀ a' w',qJ P E C.Γ bs ops es s' [] a' w'->fR P E Q .normal a' w':=by
  rintro a' w' ⟨st,W,F',γ',hinv,_,hr,_⟩;have hr':=hr;subst hr';exact⟨.normal,_,rfl,⟨F',γ',rE hinv⟩,hq⟩
 have hstart:∀ w',InvG P E s a w' [] F γ->qJ P E C.Γ bs ops es s' (List.range' 0 ops.size) a w':=λw' hi'=>by
  refine⟨s,[],F,γ,hi',λt=>?_,hruns,hn.symm⟩;constructor
  ·intro hh;simp at hh
  ·rintro⟨k,o,hk,hnot,_⟩;exfalso;apply hnot;rw[ucw];have:=(uaf.1 hk).1;omega
 cases draw with
 |false=>
  show wpOps P ops _ (List.range ops.size) a w;rw[ubm];exact ZL hC.ct hst hneed _ hend _ 0 a w (hstart w hi)
 |true=>
  have hord':uN ops.toList es=true:=by simpa using hord
  refine ZJ hC.ct hst hneed hord' _ hend ops.size (List.range' 0 ops.size) _ a _ (by simp) uaw (by simp) (λi hi'=>?_) (λi hi'=>?_) (λk hk hnot=>?_) (hstart _ (WX hi))
  ·simp only[ucw,uac,uas,hi',if_true,udd,true_iff];omega
  ·rw[ucw]at hi';omega
  ·exfalso;apply hnot;rw[ucw];omega
def km(P:Program)(E:Env)(c:Code)(f:St->Option Tr):Prop:=
 ∀ s t,f s=U t->∀ Q,t.sat Q->∀ a w,I P E s a w->(Code.loop c).wp P (fR P E Q) a w
def co(P:Program)(E:Env)(Λ:Nat->St->Option Tr):Code->Nat->Prop
 |.seq a b,k=>co P E Λ a k/\co P E Λ b (k+cD a)
 |.cond _ a b,k=>co P E Λ a k/\co P E Λ b (k+cD a)
 |.block _ c,k=>co P E Λ c k
 |.scope c,k=>co P E Λ c k
 |.loop c,k=>km P E c (Λ k)
 |_,_=>True
def vX{f:St->Option Tr}{Q:XE->St->Prop}:{t c:Tr}->t.bind f=U c->c.sat Q->t.sat λe s=>match e with
  |.normal=>∃ u,f s=U u/\u.sat Q
  |e=>Q e s
 |.leaf e s,c,h,a=>by
  cases e with
  |normal=>exact⟨c,h,a⟩
  |exit i=>simp only[Tr.bind,ucl]at h;subst h;exact a
  |ret=>simp only[Tr.bind,ucl]at h;subst h;exact a
  |panic p=>simp only[Tr.bind,ucl]at h;subst h;exact a
  |val v=>simp only[Tr.bind,ucl]at h;subst h;exact a
  |jump l=>simp only[Tr.bind,ucl]at h;subst h;exact a
 |.br b x y,c,h,a=>by
  simp only[Tr.bind]at h;split at h<;>try trivial
  rename_i m n g k;cases h;exact⟨λd=>vX g (a.1 d),λd=>vX k (a.2 d)⟩
 |.need p x,c,h,a=>by
  simp only[Tr.bind]at h;split at h<;>try trivial
  rename_i m g;cases h;exact⟨a.1,vX g a.2⟩
 |.two p x y,c,h,a=>by
  simp only[Tr.bind]at h;split at h<;>try trivial
  rename_i m n g k;cases h;exact⟨λd=>vX g (a.1 d),vX k a.2⟩
def zU{id:Nat}{Q:XE->St->Prop}:{t:Tr}->(t.block id).sat Q->t.sat λe s=>match e with
  |.exit i=>if i=id then Q .normal s else Q (.exit i) s
  |e=>Q e s
 |.leaf e s,a=>by
  cases e with
  |normal=>exact a
  |exit i=>simp only[Tr.block]at a;simp only[Tr.sat];split;rename_i h;rw[ufw h]at a;exact a;rename_i h;rw[ufx h]at a;exact a
  |ret=>exact a
  |panic p=>exact a
  |val v=>exact a
  |jump l=>exact a
 |.br b x y,a=>⟨λc=>zU (a.1 c),λc=>zU (a.2 c)⟩
 |.need p x,a=>⟨a.1,zU a.2⟩
 |.two p x y,a=>⟨λc=>zU (a.1 c),zU a.2⟩
def zX{Q:XE->St->Prop}:{t:Tr}->t.scope.sat Q->t.sat λe s=>match e with
  |.jump _=>False
  |.val _=>False
  |e=>Q e s
 |.leaf e s,a=>by
  cases e with
  |normal=>exact a
  |exit i=>exact a
  |ret=>exact a
  |panic p=>exact a
  |val v=>exact a.1
  |jump l=>exact a.1
 |.br b x y,a=>⟨λc=>zX (a.1 c),λc=>zX (a.2 c)⟩
 |.need p x,a=>⟨a.1,zX a.2⟩
 |.two p x y,a=>⟨λc=>zX (a.1 c),zX a.2⟩
def qr4{s:St}{a:Act}{c:Operand}{p:Bool}(b:InvG P E s a w [] F γ)(h:jq s.sl c=.c (.bool p)):a.eval c=.bool p:=by have:=Fs b.sl c;rw[h]at this;exact this.2
def qx6{d:St}{a:Act}{k:Nat->Value}{m:aX}(b:InvG P E ⟨d.n,d.sl,m,d.gs⟩ a w [] F k)(id:Nat):∃ F',InvG P E ⟨d.n,d.sl,Gc m id,d.gs⟩ a w [] F' k:=by
 unfold Gc;split;rename_i x u h;have f:=h;have i:∃ v,bx P w F (av m k) (.own id) v:=by unfold oO at h;simp only[bx];unfold av;split at h;split at h;rename_i c _ _ _ _ g;cases c;simp[g];rename_i c _ _ _ g;cases c;simp[g];cases h;rename_i o;exact absurd rfl (o _)
 obtain⟨v,p⟩:=i;obtain⟨F',e,r,_,_⟩:=H6 b.mem (eE b) (dM.of λ_ _ h=>h) f p;refine⟨F',b.n,b.df,?_,r,λt=>(b.sl t).mono e.hF e.hw e.hR,b.hg,λt=>e.repA (b.gh t)⟩;obtain⟨l,f⟩:=b.step;exact⟨l,f.trans e⟩;exact⟨F,b⟩
def Gd{b:St}{a:Act}{e:Nat->Value}:(d:List Nat) -> {m:aX} -> {F:Nat->Prop}->InvG P E ⟨b.n,b.sl,m,b.gs⟩ a w [] F e->∃ F',InvG P E ⟨b.n,b.sl,d.foldl Gc m,b.gs⟩ a w [] F' e
 |[],_,F,c=>⟨F,c⟩
 |id::r,_,_,c=>by obtain⟨F1,f⟩:=qx6 c id;exact Gd r f
def zyy{C:Cx}(hC:CxOK P C){Λ:Nat->St->Option Tr}{id:Nat}{ops:Array Oper}{draw:Bool}{k:Nat}{s:St}{t:Tr}(h:cQ P C bs Λ (.region id ops draw) k s=some t){Q:XE->St->Prop}(hq:t.sat Q){a:Act}(hi:I P E s a w):
  zu3 P ops (fR P E Q) draw a w:=by
 simp only[cQ]at h;split at h
 ·rename_i t' ht';simp at h;subst h;exact ZM hC ht' hq hi
 ·split at h
  ·rename_i t' ht';simp at h;subst h;split at ht'<;>try (cases ht';done)
   rename_i hc;obtain⟨rfl,hstat⟩:=hc;obtain⟨F,γ,hinv⟩:=hi;show wpOps P ops _ (List.range ops.size) a w;rw[ubm];have:=On hC (HM hstat) ops.toList 0 (λi o hi=>by simpa using hi) s a w [] F γ t' hinv rfl (λx=>⟨λhh=>by simp at hh,λ⟨i,_,hi,_⟩=>by omega⟩) ht' hq;simpa using this
  ·split at h
   ·rename_i t' ht';simp at h;subst h;split at ht'<;>try (cases ht';done)
    rename_i hc;obtain⟨rfl,hstat⟩:=hc;obtain⟨F,γ,hinv⟩:=hi;show wpOps P ops _ (List.range ops.size) a w;rw[ubm];have:=Oo hC (HM hstat) ops.toList 0 (λi o hi=>by simpa using hi) [] s a w [] F γ t' hinv (λx hx=>by simp at hx) rfl (λx=>⟨λhh=>by simp at hh,λ⟨i,_,hi,_⟩=>by omega⟩) ht' hq;simpa using this
   ·split at h
    ·rename_i t' ht';simp at h;subst h;obtain⟨F,γ,hinv⟩:=hi;obtain⟨F',h'⟩:=Gd _ hinv;exact ZM hC ht' hq ⟨F',γ,h'⟩
    ·simp at h;subst h;exact hq.1.elim
def iG{C:Cx}(hC:CxOK P C){Λ:Nat->St->Option Tr}:(c:Code)->(k:Nat)->co P E Λ c k->∀ {s:St} {t:Tr},cQ P C bs Λ c k s=some t ->
  ∀ {Q:XE->St->Prop},t.sat Q->∀ {a:Act} {w:World},I P E s a w->c.wp P (fR P E Q) a w
 |.skip,k,_,s,t,h,Q,hq,a,w,hi=>by
  simp only[cQ,ucl]at h
  subst h
  exact wp_skip ⟨.normal,s,rfl,hi,hq⟩
 |.ret,k,_,s,t,h,Q,hq,a,w,hi=>by
  simp only[cQ,ucl]at h
  subst h
  exact wp_ret ⟨.ret,s,rfl,hi,hq⟩
 |.exit id,k,_,s,t,h,Q,hq,a,w,hi=>by
  simp only[cQ,ucl]at h
  subst h
  exact wp_exit ⟨.exit id,s,rfl,hi,hq⟩
 |.region id ops draw,k,_,s,t,h,Q,hq,a,w,hi=>by
  have:=zyy hC h hq hi
  cases draw with
  |false=>exact wp_region this
  |true=>exact wp_region_any hC.mo this
 |.seq x y,k,hl,s,t,h,Q,hq,a,w,hi=>by
  simp only[cQ]at h
  split at h<;>try (cases h;done)
  rename_i t1 h1
  refine wp_seq (wp_mono (iG hC x k hl.1 h1 (vX h hq) hi) ?_)
  rintro e a' w' ⟨xe,s',rfl,hi',hq'⟩
  cases xe with
  |normal=>
   obtain⟨u,hu,hqu⟩:=hq'
   exact iG hC y _ hl.2 hu hqu hi'
  |exit i=>exact⟨.exit i,s',rfl,hi',hq'⟩
  |ret=>exact⟨.ret,s',rfl,hi',hq'⟩
  |panic p=>exact⟨.panic p,s',rfl,hi',hq'⟩
  |val v=>exact⟨.val v,s',rfl,hi',hq'⟩
  |jump l=>exact⟨.jump l,s',rfl,hi',hq'⟩
 |.cond c x y,k,hl,s,t,h,Q,hq,a,w,hi=>by
  simp only[cQ]at h
  split at h<;>try (cases h;done)
  rename_i p hp
  split at h<;>try (cases h;done)
  rename_i x' y' hx hy
  simp at h
  subst h
  obtain⟨F,γ,hinv⟩:=id hi
  exact wp_cond_split (qr4 hinv hp) (λhb=>iG hC x _ hl.1 hx (hq.1 hb) hi) (λhb=>iG hC y _ hl.2 hy (hq.2 hb) hi)
 |.block id c,k,hl,s,t,h,Q,hq,a,w,hi=>by
  simp only[cQ]at h
  split at h<;>try (cases h;done)
  rename_i t1 h1
  simp at h
  subst h
  refine wp_block (wp_mono (iG hC c k hl h1 (zU hq) hi) ?_)
  rintro e a' w' ⟨xe,s',rfl,hi',hq'⟩
  cases xe with
  |normal=>exact⟨.normal,s',rfl,hi',hq'⟩
  |exit i=>
   simp only at hq'
   show Exit.inBlock id _ (.exit i) a' w'
   unfold Exit.inBlock
   simp only
   split
   ·rename_i h
    rw[ufw h]at hq'
    exact⟨.normal,s',rfl,hi',hq'⟩
   ·rename_i h
    rw[ufx h]at hq'
    exact⟨.exit i,s',rfl,hi',hq'⟩
  |ret=>exact⟨.ret,s',rfl,hi',hq'⟩
  |panic p=>exact⟨.panic p,s',rfl,hi',hq'⟩
  |val v=>exact⟨.val v,s',rfl,hi',hq'⟩
  |jump l=>exact⟨.jump l,s',rfl,hi',hq'⟩
 |.loop c,k,hl,s,t,h,Q,hq,a,w,hi=>by
  simp only[cQ]at h
  split at h
  ·rename_i t' ht'
   simp at h
   subst h
   exact hl s t' ht' Q hq a w hi
  ·simp at h
   subst h
   exact hq.1.elim
 |.label _,_,_,_,_,h,_,hq,_,_,hi=>by
  simp only[cQ,ucl]at h
  subst h
  exact wp_label ⟨.normal,_,rfl,hi,hq⟩
 |.goto l,_,_,_,_,h,_,hq,_,_,hi=>by
  simp only[cQ,ucl]at h
  subst h
  exact wp_goto ⟨.jump l,_,rfl,hi,hq⟩
 |.scope c,k,hl,s,t,h,Q,hq,a,w,hi=>by
  simp only[cQ]at h
  split at h<;>try (cases h;done)
  rename_i t1 h1
  simp at h
  subst h
  refine wp_scope_straight (wp_mono (iG hC c k hl h1 (zX hq) hi) ?_)
  rintro e a' w' ⟨xe,s',rfl,hi',hq'⟩
  cases xe with
  |normal=>exact⟨.normal,s',rfl,hi',hq'⟩
  |exit i=>exact⟨.exit i,s',rfl,hi',hq'⟩
  |ret=>exact⟨.ret,s',rfl,hi',hq'⟩
  |panic p=>exact⟨.panic p,s',rfl,hi',hq'⟩
  |val v=>exact hq'.elim
  |jump l=>exact hq'.elim
 |.rangeFunc ..,_,_,_,_,h,_,hq,_,_,_=>by
  simp only[cQ,ucl]at h
  subst h
  exact hq.1.elim
 |.refuse _,_,_,_,_,h,_,hq,_,_,_=>by
  simp only[cQ,ucl]at h
  subst h
  exact hq.1.elim
end
abbrev YF:Type:=Option TypeId×Ty
inductive MI where
 |o (t:Tmp) (e:TypeId) (ty:Ty)
 |x (id:Nat) (e:TypeId) (ty:Ty)
 |r (t:Tmp) (id off:Nat)
 |y (id:Nat) (e:TypeId) (fs:List YF)
 |g (t:Tmp) (f:FuncId) (ids:List Nat)
 |al (t s:Tmp)
@[reducible] def lW:List YF->Type
 |[]=>Unit
 |(U _,t)::r=>List t.q×lW r
 |(V,t)::r=>t.q×lW r
@[reducible] def dj:List MI->Type
 |[]=>Unit
 |.o _ _ a::r=>List a.q×dj r
 |.x _ _ a::r=>a.q×dj r
 |.r _ _ _::r=>dj r
 |.y _ _ b::r=>lW b×dj r
 |.g _ _ _::r=>dj r
 |.al _ _::r=>dj r
def mv(id a:Nat):AC:=if a<1000000 then .ptr id a else if a<1000000000 then .ifp (a-1000000) id else .fb (a-1000000000) id
def OB:AV->Option (Nat×Nat)
 |.c (.ptr i o)=>if o<1000000 then U (i,o)else V
 |.c (.ifp a i)=>if a<999000000 then U (i,a+1000000)else V
 |.c (.fb f i)=>U (i,f+1000000000)
 |_=>V
def zka{a:AV}{o:Nat}(h:OB a=U (i,o)):a=.c (mv i o):=by
 unfold OB at h;split at h<;>try trivial
 split at h<;>try trivial
 rename_i b;cases h;rw[mv,ufw b];split at h<;>try trivial
 rename_i f e d;cases h;rw[mv,ufx (Nat.not_lt.2 (Nat.le_add_left _ _)),ufw (by rw[show(1000000000:Nat)=999000000+1000000 from rfl];exact Nat.add_lt_add_right d _),ub0];cases h;rw[mv,ufx (Nat.not_lt.2 (uep (show 1000000<=1000000000 by decide) (Nat.le_add_left _ _))),ufx (Nat.not_lt.2 (Nat.le_add_left _ _)),ub0]
def zj8{o:Nat}(h:bx P w F R (mv i o) v):∃ b,R i (.pointer (U ⟨b,0,V⟩))/\∀ R':Nat->Value->Prop,R' i (.pointer (U ⟨b,0,V⟩))->bx P w F R' (mv i o) v:=by unfold mv at h |-;by_cases a:o<1000000;rw[ufw a]at h |-;obtain⟨b,a,c⟩:=h;exact⟨b,a,λR' h=>⟨b,h,c⟩⟩;rw[ufx a]at h |-;by_cases c:o<1000000000;rw[ufw c]at h |-;obtain⟨b,a,c⟩:=h;exact⟨b,a,λR' h=>⟨b,h,c⟩⟩;rw[ufx c]at h |-;obtain⟨b,a,c⟩:=h;exact⟨b,a,λR' h=>⟨b,h,c⟩⟩
def cH(id:Nat):Nat:=2000000000000000000000000000000+id*1000
def dl(a:List AC)(j:Nat):Option Nat:=match a[j]? with
 |some (.own k)=>U k
 |_=>V
def jX(id:Nat):(a:List YF)->lW a->Nat->List AC
 |[],_,_=>[]
 |(U _,_)::r,x,j=>.own (cH id+j)::jX id r x.2 (j+1)
 |(V,t)::r,x,j=>(enc t x.1).headD .nil::jX id r x.2 (j+1)
def mW:(a:List YF)->lW a->Nat->Option Ob
 |[],_,_=>V
 |(U e,t)::_,x,0=>U (.arr e t x.1)
 |(V,_)::_,_,0=>V
 |(U _,_)::r,x,j+1=>mW r x.2 j
 |(V,_)::r,x,j+1=>mW r x.2 j
def jr(m:aX):(i:List YF)->List AC->List Nat->Option (lW i×List Nat)
 |[],[],b=>U ((),b)
 |(U e,t)::r,c::d,b=>match c with
  |.nil=>if e<fh then match jr m r d b with
   |some (y,a)=>U (([],y),a)
   |none=>V
   else V
  |.own k=>if b.contains k then V else match m k with
   |some (.arr g f l)=>if h:f=t then if g=e then match jr m r d (k::b)with
     |some (y,a)=>U ((cY h l,y),a)
     |none=>V
    else V else V
   |_=>V
  |_=>V
 |(V,t)::r,c::d,b=>match dec t [c]with
  |some (x,[])=>match jr m r d b with
   |some (y,a)=>U ((x,y),a)
   |none=>V
  |_=>V
 |_,_,_=>V
def sY(a:List YF)(j:Nat):Prop:=∃ e t,a[j]?= U (U e,t)
def sY.lt{a:List YF}{j:Nat}(h:sY a j):j<a.length:=by obtain⟨e,t,h⟩:=h;exact(uak.1 h).1
def GU(id:Nat):(a:List YF)->(x:lW a)->(j:Nat)->(jX id a x j).length=a.length
 |[],_,_=>rfl
 |(U _,_)::r,x,j=>by simp[jX,GU id r x.2]
 |(V,_)::r,x,j=>by simp[jX,GU id r x.2]
def Lh{k:Nat}:(t:Ty) -> {cs:List AC} -> {x:t.q} -> {r:List AC}->dec t (.own k::cs)=U (x,r)->r=.own k::cs
 |.int _,_,_,_,h=>by simp[dec,rk]at h
 |.bool,_,_,_,h=>by simp[dec,rj]at h
 |.str,_,_,_,h=>by simp[dec,rm]at h
 |.sl _,_,_,_,h=>by simp[dec,rl]at h
 |.unit,_,_,_,h=>by simp only[dec,ucl,ueh]at h;exact h.2.symm
 |.pair a b,cs,x,r,h=>by
  simp only[dec]at h;split at h<;>try trivial
  rename_i i f d;split at h<;>try trivial
  rename_i l g e;obtain⟨_,rfl⟩:=h;have c:=Lh a d;subst c;exact Lh b e
 |.fm _,_,_,_,h=>by simp[dec,tQ]at h
 |.ic _ _,_,_,_,h=>by simp[dec,tP]at h
 |.fc _,_,_,_,h=>by simp[dec,tO]at h
def Rc(id:Nat)(d:List YF)(b:List AC)(e j:Nat)(c:AC):Prop:=
 (c=.own (cH id+(e+j))/\sY d j) \/ ∃ (t:Ty) (x:t.q) (a:AC),b[j]?= U a/\dec t [a]=U (x,[])/\[c]=enc t x
def Ly{m:aX}{id:Nat}:{B:List YF} -> {cs:List AC} -> {z k:List Nat} -> {y:lW B}->jr m B cs z=U (y,k)->∀ n j c,(jX id B y n)[j]?= U c->Rc id B cs n j c
 |[],[],_,_,_,_,n,j,c,g=>by simp[jX]at g
 |f::r,[],z,k,y,h,_,_,_,_=>by obtain⟨o,t⟩:=f;cases o<;>simp[jr]at h
 |[],c::cs,z,k,y,h,_,_,_,_=>by simp[jr]at h
 |(U e,t)::r,c::cs,z,k,y,h,n,j,v,g=>by
  have w:∀ {A l:List Nat} {u:lW r},jr m r cs A=U (u,l)->(jX id r u (n+1))[j-1]?= U v->j≠0->Rc id ((U e,t)::r) (c::cs) n j v:=by
   intro A l u p E N;obtain⟨i,rfl⟩:∃ i,j=i+1:=⟨j-1,by omega⟩;rcases Ly p (n+1) i v E with ⟨a,D,s,b⟩|⟨s,F,C,a,b,d⟩
   exact .inl ⟨by rw[a];congr 2;omega,D,s,by simpa using b⟩;exact .inr ⟨s,F,C,by simpa using a,b,d⟩
  simp only[jr]at h;split at h<;>try trivial
  split at h<;>try trivial
  rename_i M;split at h<;>try trivial
  rename_i u l p;cases h;cases j with
  |zero=>simp only[jX,uau,ucl]at g;exact .inl ⟨g.symm,e,t,rfl⟩
  |succ i=>exact w p (by simpa[jX]using g) (by omega)
  split at h<;>try trivial
  split at h<;>try trivial
  split at h<;>try trivial
  split at h<;>try trivial
  split at h<;>try trivial
  rename_i u l p;cases h;cases j with
  |zero=>simp only[jX,uau,ucl]at g;exact .inl ⟨g.symm,e,t,rfl⟩
  |succ i=>exact w p (by simpa[jX]using g) (by omega)
 |(V,t)::r,c::cs,z,k,y,h,n,j,v,g=>by
  simp only[jr]at h;split at h<;>try trivial
  rename_i x G;split at h<;>try trivial
  rename_i u l p;cases h;cases j with
  |zero=>
   simp only[jX,uau,ucl]at g;have K:=mN t G;have H:(enc t x).length=1:=by rw[gV];simpa using K.symm
   refine .inr ⟨t,x,c,rfl,G,?_⟩
   match L:enc t x,H with
   |[a],_=>rw[L]at g;rw[<- g];rfl
  |succ i=>
   rcases Ly p (n+1) i v (by simpa[jX]using g)with ⟨a,D,s,b⟩|⟨s,F,C,a,b,d⟩
   exact .inl ⟨by rw[a];congr 2;omega,D,s,by simpa using b⟩;exact .inr ⟨s,F,C,by simpa using a,b,d⟩
def rY(a:List Nat):List AC:=a.map λid=>.ptr id 0
def CB:List AC->Option (List Nat)
 |[]=>U []
 |.ptr i 0::r=>match CB r with
  |some l=>U (i::l)
  |none=>V
 |_=>V
def Z6:{d:List AC} -> {a:List Nat}->CB d=U a->d=rY a
 |[],a,h=>by
  simp only[CB,ucl]at h
  subst h
  rfl
 |c::r,a,h=>by
  unfold CB at h
  split at h<;>try (cases h;done)
  ·rename_i b
   cases b
  ·rename_i i f b
   cases b
   split at h<;>try (cases h;done)
   rename_i l e
   simp at h
   subst h
   rw[Z6 e]
   rfl
def bu(t:Tmp):Nat:=1000000000000000000000000000000+t
def kL(id:Nat):List MI->Bool
 |[]=>Y
 |.x i _ _::r=>i==id || kL id r
 |.y i _ _::r=>i==id || kL id r
 |_::r=>kL id r
def lw(s:Tmp):List MI->Bool
 |[]=>Y
 |.o t _ _::r=>t==s || lw s r
 |_::r=>lw s r
def bR(all:List MI)(b:Nat->AV)(m:aX):(L:List MI)->List Nat->Option (dj L)
 |[],_=>U ()
 |.o t e u::r,a=>match b t with
  |.c .nil=>if e<fh then match bR all b m r a with
   |some y=>U ([],y)
   |none=>V
   else V
  |.c (.own id)=>if a.contains id then V else match m id with
   |some (.arr k v l)=>if h:v=u then if k=e then match bR all b m r (id::a)with
     |some y=>U (cY h l,y)
     |none=>V
    else V else V
   |_=>V
  |_=>V
 |.x id e u::r,a=>match m id with
  |some (.box k d)=>if k=e then match dec u d with
    |some (x,[])=>match bR all b m r a with
     |some y=>U (x,y)
     |none=>V
    |_=>V
   else V
  |_=>V
 |.r t id p::r,a=>match OB (b t)with
  |some (i,o)=>if i=id/\o=p/\kL id all=Z then bR all b m r a else V
  |none=>V
 |.g t f n::r,a=>match b t with
  |.c (.fn z d)=>if z=f/\CB d=U n/\n.all (λid=>kL id all)=Z then bR all b m r a else V
  |_=>V
 |.al t s::r,a=>match b t,b s with
  |.c (.own i),.c (.own j)=>if i=j/\lw s all=Z then bR all b m r a else V
  |.c .nil,.c .nil=>if lw s all=Z then bR all b m r a else V
  |_,_=>V
 |.y id e A::r,a=>match m id with
  |some (.box k d)=>if k=e then match jr m A d a with
    |some (x,w)=>match bR all b m r w with
     |some y=>U (x,y)
     |none=>V
    |none=>V
   else V
  |_=>V
def ca:(L:List MI)->dj L->aX
 |[],_=>λ_=>V
 |.o t e b::r,x=>λi=>if i=bu t then U (.arr e b x.1)else ca r x.2 i
 |.x id e b::r,x=>λi=>if i=id then U (.box e (enc b x.1))else ca r x.2 i
 |.r _ _ _::r,x=>ca r x
 |.g _ _ _::r,x=>ca r x
 |.al _ _::r,x=>ca r x
 |.y id e a::r,x=>λi=>if i=id then U (.box e (jX id a x.1 0))else if cH id<=i/\i<cH id+a.length then mW a x.1 (i-cH id)else ca r x.2 i
def bL:List MI->Nat->AV
 |[],_=>.dead
 |.o t _ _::r,i=>if i=t then .c (.own (bu t))else bL r i
 |.x _ _ _::r,i=>bL r i
 |.r t id b::r,i=>if i=t then .c (mv id b)else bL r i
 |.y _ _ _::r,i=>bL r i
 |.g t f a::r,i=>if i=t then .c (.fn f (rY a))else bL r i
 |.al t s::r,i=>if i=t then .c (.own (bu s))else bL r i
def Ln:(p:PT)->p.q->AV
 |.d t,x=>eR t x
 |.ptr t,x=>.c (.sptr (enc t x))
 |.fn a b,g=>.c (.fv a b g)
 |.pf a b,g=>.c (.pv a b g.1 g.2)
 |.pfn a b,g=>.c (.sptr [.fv a b g])
 |.pk f,_=>.c (.sptr [.fn f []])
def sr:(a:List (Tmp×PT))->ap (a.map (·.2))->(Nat->AV)->Nat->AV
 |[],_,f,i=>f i
 |(t,p)::r,x,f,i=>if i=t then Ln p x.1 else sr r x.2 f i
def GJ(m:aX):MI->aX
 |.x id _ _=>match m id with
  |some (.box e b)=>match lB m b with
   |some (a,u)=>match aB m u id with
    |some (.box _ _)=>aB m (u++[(id,.box e a)])
    |_=>m
   |none=>m
  |_=>m
 |_=>m
def Cg:List MI->aX->aX
 |[],m=>m
 |i::r,m=>Cg r (GJ m i)
structure LS where
 vs:List (Tmp×PT)
 ms:List MI
@[reducible] def LS.X(L:LS):Type:=ap (L.vs.map (·.2))×dj L.ms
def LS.ext0(b:Gm)(L:LS)(s:St):Option (L.X×List Prop):=
 match fe s.mem (L.vs.map λv=>s.at v.1)with
 |some (a,u)=>match lm b (L.vs.map (·.2)) a with
  |some (x,n)=>match bR L.ms s.at (Cg L.ms (aB s.mem u)) L.ms []with
   |some y=>U ((x,y),n)
   |none=>V
  |none=>V
 |none=>V
def LS.ext(a:Gm)(L:LS)(s:St):Option (L.X×List Prop):=match L.ext0 a s with
 |some y=>U y
 |none=>L.ext0 a (zwb s)
def LS.tpl(L:LS)(n:Nat)(x:L.X):St:=⟨n,λi=>if i<10000 then sr L.vs x.1 (bL L.ms) i else .dead,ca L.ms x.2,λi=>sr L.vs x.1 (bL L.ms) (i+10000)⟩
section
variable {P:Program} {B:Nat} {w w':World} {E:Env} {F F':Nat->Prop} {γ γ' γ0:Nat->Value} {Γ:Gm} {M m:aX} {R:Nat->Value->Prop}
def Ug:{p:PT} -> {x:p.q} -> {v:Value}->Jk P w F p x v->aK P w F R (Ln p x) v
 |.d t,x,v,h=>iH h
 |.ptr t,x,v,h=>by obtain⟨ad,rfl,c,e⟩:=h;exact⟨rfl,ad,rfl,c,aG.enc t x e⟩
 |.fn k l,g,v,h=>by have b:=h;obtain⟨f,a,rfl,_⟩:=id b;exact⟨rfl,b⟩
 |.pf k l,g,v,h=>by have b:=h;obtain⟨f,a,rfl,_⟩:=id b;exact⟨rfl,b⟩
 |.pfn k l,g,v,h=>by
  obtain⟨ad,u,rfl,c,e,i⟩:=h;have m:u.oneCell'=true:=by obtain⟨f,a,rfl,_⟩:=id i;rfl
  exact⟨rfl,ad,rfl,c,⟨u,e,m,by simp only[bx];exact i⟩,uT⟩
 |.pk f,_,v,h=>by obtain⟨ad,rfl,c,e⟩:=h;exact⟨rfl,ad,rfl,c,⟨_,e,rfl,by simp only[bx];exact⟨#[],rfl,rfl,uT⟩⟩,uT⟩
def bM(a:Nat->AV)(m:aX):List MI->Nat->Option Nat
 |[],_=>V
 |.o t _ _::r,i=>if i=bu t then (match a t with
  |.c (.own id)=>U id
  |_=>V)else bM a m r i
 |.x id _ _::r,i=>if i=id then U id else bM a m r i
 |.r _ _ _::r,i=>bM a m r i
 |.g _ _ _::r,i=>bM a m r i
 |.al _ _::r,i=>bM a m r i
 |.y id _ d::r,i=>if i=id then U id else if cH id<=i/\i<cH id+d.length then (match m id with
  |some (.box _ b)=>dl b (i-cH id)
  |_=>V)else bM a m r i
def cp(b:Nat->Value)(a:Nat->AV)(m:aX)(L:List MI)(i:Nat):Value:=match bM a m L i with
 |some k=>b k
 |none=>.slice V 0 0
def tW:{G:List YF} -> {cs:List AC} -> {p g:List Nat} -> {y:lW G}->jr m G cs p=U (y,g) ->
  cs.length=G.length/\(∀ k,k∈p->k∈g)/\(∀ j k,dl cs j=U k->k ∉ p/\k∈g/\∃ e t l,m k=U (.arr e t l)) /\
  (∀ i j k,dl cs i=U k->dl cs j=U k->i=j)/\∀ j o,mW G y j=U o->(cs[j]?= U .nil/\∃ e t,o=.arr e t []/\e<fh) \/ ∃ k,cs[j]?= U (.own k)/\m k=U o
 |[],[],p,g,y,h=>by simp only[jr,ucl,ueh]at h;refine⟨rfl,λk z=>h.2 ▸ z,λj k d=>by simp[dl]at d,λi j k n=>by simp[dl]at n,λj o d=>by simp[mW]at d⟩
 |f::r,[],p,g,y,h=>by obtain⟨o,t⟩:=f;cases o<;>simp[jr]at h
 |[],c::cs,p,g,y,h=>by simp[jr]at h
 |(U e,t)::r,c::cs,p,g,y,h=>by
  simp only[jr]at h;split at h<;>try trivial
  split at h<;>try trivial
  rename_i M;split at h<;>try trivial
  rename_i R F D;cases h;obtain⟨A,w,u,B,C⟩:=tW D;refine⟨by simp[A],w,λj k d=>?_,λi j k n d=>?_,λj o d=>?_⟩;cases j with
  |zero=>simp[dl]at d
  |succ j=>exact u j k (by simpa[dl]using d)
  cases i with
  |zero=>simp[dl]at n
  |succ i=>
   cases j with
   |zero=>simp[dl]at d
   |succ j=>rw[B i j k (by simpa[dl]using n) (by simpa[dl]using d)]
  cases j with
  |zero=>simp only[mW,ucl]at d;exact .inl ⟨rfl,e,t,d.symm,M⟩
  |succ j=>
   rcases C j o (by simpa[mW]using d)with ⟨a,s,E,c⟩|⟨k,a,b⟩
   exact .inl ⟨by simpa using a,s,E,c⟩;exact .inr ⟨k,by simpa using a,b⟩
  rename_i H;split at h<;>try trivial
  rename_i O;split at h<;>try trivial
  rename_i s P l Q;split at h<;>try trivial
  rename_i N;split at h<;>try trivial
  rename_i K;split at h<;>try trivial
  rename_i R F D;cases h;obtain⟨A,w,u,B,C⟩:=tW D;have L:H ∉ p:=by simpa using O
  refine⟨by simp[A],λk z=>w k (ubj _ z),λj k d=>?_,λi j k n d=>?_,λj o d=>?_⟩;cases j with
  |zero=>simp only[dl,uau,ucl]at d;subst d;exact⟨L,w _ (by simp),s,P,l,Q⟩
  |succ j=>obtain⟨a,b,c⟩:=u j k (by simpa[dl]using d);exact⟨λT=>a (ubj _ T),b,c⟩
  cases i with
  |zero=>
   simp only[dl,uau,ucl]at n;subst n;cases j with
   |zero=>rfl
   |succ j=>exact absurd (by simp) (u j H (by simpa[dl]using d)).1
  |succ i=>
   cases j with
   |zero=>simp only[dl,uau,ucl]at d;subst d;exact absurd (by simp) (u i H (by simpa[dl]using n)).1
   |succ j=>rw[B i j k (by simpa[dl]using n) (by simpa[dl]using d)]
  cases j with
  |zero=>refine .inr ⟨H,rfl,?_⟩;rw[Q,<- d];subst K;subst N;rfl
  |succ j=>
   rcases C j o (by simpa[mW]using d)with ⟨a,s,E,c⟩|⟨k,a,b⟩
   exact .inl ⟨by simpa using a,s,E,c⟩;exact .inr ⟨k,by simpa using a,b⟩
 |(V,t)::r,c::cs,p,g,y,h=>by
  simp only[jr]at h;split at h<;>try trivial
  rename_i x W;split at h<;>try trivial
  rename_i R F D;cases h;obtain⟨A,w,u,B,C⟩:=tW D;have v:∀ k,dl (c::cs) 0=U k->False:=λk z=>by
   simp only[dl]at z;split at z<;>try trivial
   rename_i k' S;cases S;have:=Lh t W;cases this
  refine⟨by simp[A],w,λj k d=>?_,λi j k n d=>?_,λj o d=>?_⟩;cases j with
  |zero=>exact(v k d).elim
  |succ j=>exact u j k (by simpa[dl]using d)
  cases i with
  |zero=>exact(v k n).elim
  |succ i=>
   cases j with
   |zero=>exact(v k d).elim
   |succ j=>rw[B i j k (by simpa[dl]using n) (by simpa[dl]using d)]
  cases j with
  |zero=>simp[mW]at d
  |succ j=>
   rcases C j o (by simpa[mW]using d)with ⟨a,s,E,c⟩|⟨k,a,b⟩
   exact .inl ⟨by simpa using a,s,E,c⟩;exact .inr ⟨k,by simpa using a,b⟩
def lr{all:List MI}{E:Nat->AV}:{L:List MI} -> {d:List Nat} -> {y:dj L}->bR all E m L d=U y->∀ i k,bM E m L i=U k ->
  (i=k/\∃ e cs,m k=U (.box e cs))\/(k ∉ d/\∃ e t l,m k=U (.arr e t l))
 |[],_,_,_,i,k,b=>by simp[bM]at b
 |.o t e ty::r,d,y,h,i,k,b=>by
  simp only[bR]at h;split at h<;>try trivial
  rename_i p;split at h<;>try trivial
  rename_i H;split at h<;>try trivial
  rename_i D s;simp only[bM,p]at b;split at b;cases b;exact lr s i k b;rename_i id p;split at h<;>try trivial
  rename_i B;split at h<;>try trivial
  rename_i v C l u;split at h<;>try trivial
  split at h<;>try trivial
  split at h<;>try trivial
  rename_i D s;simp only[bM,p]at b;split at b;cases b;exact .inr ⟨by simpa using B,v,C,l,u⟩;rcases lr s i k b with n|⟨n,w⟩
  exact .inl n;exact .inr ⟨λz=>n (ubj _ z),w⟩
 |.x id e ty::r,d,y,h,i,k,b=>by
  simp only[bR]at h;split at h<;>try trivial
  rename_i v cs u;split at h<;>try trivial
  split at h<;>try trivial
  split at h<;>try trivial
  rename_i D s;simp only[bM]at b;split at b;rename_i A;cases b;exact .inl ⟨A,v,cs,u⟩;exact lr s i k b
 |.r t id off::r,d,y,h,i,k,b=>by
  simp only[bR]at h;split at h<;>try trivial
  split at h<;>try trivial
  exact lr h i k b
 |.g t f id::r,d,y,h,i,k,b=>by
  simp only[bR]at h;split at h<;>try trivial
  split at h<;>try trivial
  exact lr h i k b
 |.al t R::r,d,y,h,i,k,b=>by
  simp only[bR]at h;split at h<;>try trivial
  all_goals (split at h<;>try trivial)
  all_goals exact lr h i k b
 |.y id e N::r,d,y,h,i,k,b=>by
  simp only[bR]at h;split at h<;>try trivial
  rename_i v cs u;split at h<;>try trivial
  split at h<;>try trivial
  rename_i x M K;split at h<;>try trivial
  rename_i D s;obtain⟨O,F,G,P,Q⟩:=tW K;simp only[bM,u]at b;split at b;rename_i A;cases b;exact .inl ⟨A,v,cs,u⟩;split at b;obtain⟨a,_,c⟩:=G _ k b;exact .inr ⟨a,c⟩;rcases lr s i k b with n|⟨n,w⟩
  exact .inl n;exact .inr ⟨λz=>n (F k z),w⟩
def rx{all:List MI}{G:Nat->AV}:{L:List MI} -> {H:List Nat} -> {y:dj L}->bR all G m L H=U y->∀ i j k,bM G m L i=U k->bM G m L j=U k->i=j
 |[],_,_,_,i,j,k,hs,_=>by simp[bM]at hs
 |.o t e ty::r,H,y,h,i,j,k,d,a=>by
  simp only[bR]at h;split at h<;>try trivial
  rename_i F;split at h<;>try trivial
  rename_i hrw;split at h<;>try trivial
  rename_i Q w;simp only[bM,F]at d a;split at d;cases d;split at a;cases a;exact rx w i j k d a;rename_i id F;split at h<;>try trivial
  split at h<;>try trivial
  rename_i R ty' l D;split at h<;>try trivial
  split at h<;>try trivial
  split at h<;>try trivial
  rename_i Q w;have v:∀ q,bM G m r q=U id->False:=λq E=>by
   rcases lr w q id E with ⟨_,M,K,u⟩|⟨C,_⟩
   rw[D]at u;cases u;exact C (by simp)
  simp only[bM,F]at d a;split at d;rename_i s;split at a;rename_i n;rw[s,n];cases d;exact(v j a).elim;split at a;cases a;exact(v i d).elim;exact rx w i j k d a
 |.x id e ty::r,H,y,h,i,j,k,d,a=>by
  simp only[bR]at h;split at h<;>try trivial
  rename_i R K D;split at h<;>try trivial
  split at h<;>try trivial
  split at h<;>try trivial
  rename_i Q w;have v:∀ q,bM G m r q=U id->q=id:=λq E=>by
   rcases lr w q id E with ⟨C,_⟩|⟨_,M,P,O,u⟩
   exact C;rw[D]at u;cases u
  simp only[bM]at d a;split at d;rename_i s;cases d;split at a;rename_i n;rw[s,n];rw[s,v j a];split at a;rename_i n;cases a;rw[n,v i d];exact rx w i j k d a
 |.r t id off::r,H,y,h,i,j,k,d,a=>by
  simp only[bR]at h;split at h<;>try trivial
  split at h<;>try trivial
  exact rx h i j k d a
 |.g t f id::r,H,y,h,i,j,k,d,a=>by
  simp only[bR]at h;split at h<;>try trivial
  split at h<;>try trivial
  exact rx h i j k d a
 |.al t s0::r,H,y,h,i,j,k,d,a=>by
  simp only[bR]at h;split at h<;>try trivial
  all_goals (split at h<;>try trivial)
  all_goals exact rx h i j k d a
 |.y id e fs::r,H,y,h,i,j,k,d,a=>by
  simp only[bR]at h;split at h<;>try trivial
  rename_i R K D;split at h<;>try trivial
  split at h<;>try trivial
  rename_i x us' hx;split at h<;>try trivial
  rename_i Q w;obtain⟨g1,g2,S,W,g5⟩:=tW hx;have z:∀ q,bM G m r q=U id->q=id:=λq E=>by
   rcases lr w q id E with ⟨C,_⟩|⟨_,M,P,O,u⟩
   exact C;rw[D]at u;cases u
  have A:∀ p q k,dl K p=U k->bM G m r q=U k->False:=λp q k N E=>by
   obtain⟨_,b,M,P,O,c⟩:=S p k N;rcases lr w q k E with ⟨_,e3,T,u⟩|⟨C,_⟩
   rw[c]at u;cases u;exact C b
  have B:∀ p,dl K p=U id->False:=λp N=>by obtain⟨_,b,M,P,O,c⟩:=S p id N;rw[D]at c;cases c
  simp only[bM,D]at d a;split at d;rename_i s;cases d;split at a;rename_i n;rw[s,n];split at a;exact(B _ a).elim;rw[s,z j a];split at d;rename_i hik;split at a;cases a;exact(B _ d).elim;split at a;rename_i hjk;have:=W _ _ k d a;omega;exact(A _ _ k d a).elim;split at a;rename_i n;cases a;rw[n,z i d];split at a;exact(A _ _ k a d).elim;exact rx w i j k d a
def Jc(w:World)(v:Value)(j:Nat)(u:Value):Prop:=∃ b a c,v=.pointer (U ⟨b,0,V⟩)/\w.heap[b]?= U (.cells a c (0,0))/\a[j]?= U u
def Ys{e:Nat}{d:Ty}{A:Prop}(p:e<fh):iA P B w F R (.slice V 0 0) (.arr e d [])/\(A \/ ∀ b,¬ cg w (.arr e d []) (.slice V 0 0) b):=by
 have a:∀ (i:Nat) (x:d.q),([]:List d.q)[i]? ≠ U x:=λi x h=>by simp at h
 refine⟨?_,.inr λb f=>?_⟩;by_cases h:e<cJ;exact .inl ⟨h,[],by simpa using ucs w B e d.size,λg m=>by simp[Value.ownBlock]at m,λi x l=>absurd l (a i x),λu o=>by simp at o⟩;exact .inr (.inl ⟨Nat.not_lt.1 h,p,[],by simpa using ucs w B (vC e) d.size,λg m=>by simp[Value.ownBlock]at m,λu o=>by simp at o,λi x k c l=>absurd l (a i x),λi x l=>absurd l (a i x),λi j r s b n=>absurd n (Nat.not_lt_zero i)⟩);rcases f with f|⟨_,i,u,n,_⟩|f
 simp[Value.ownBlock]at f;exact absurd n (Nat.not_lt_zero i);cases f
def r7{all:List MI}{sl:Nat->AV}(E:MemOK P B w F γ m):{L:List MI} -> {N:List Nat} -> {y:dj L}->bR all sl m L N=U y->∀ i o,ca L y i=U o ->
  ∀ R':Nat->Value->Prop,(∀ id e s,MI.y id e s∈L->∀ j u,sY s j->Jc w (γ id) j u->R' (cH id+j) u)->iA P B w F R' (cp γ sl m L i) o/\((∃ k o0,bM sl m L i=U k/\m k=U o0/\∀ b,cg w o (cp γ sl m L i) b->cg w o0 (γ k) b) \/ ∀ b,¬ cg w o (cp γ sl m L i) b)
 |[],_,_,_,i,o,n=>by simp[ca]at n
 |.o t e ty::r,N,y,h,i,o,n=>by
  intro R' C;simp only[bR]at h;split at h<;>try trivial
  rename_i K;split at h<;>try trivial
  rename_i H;split at h<;>try trivial
  rename_i y' M;cases h;by_cases p:i=bu t;simp only[ca,ufw p,ucl]at n;subst n;simp only[cp,bM,ufw p,K];exact Ys H;simp only[ca,ufx p]at n;have:=r7 E M i o n R' (λid e s d=>C id e s (ubj _ d));simp only[cp,bM,ufx p]at this |-;exact this;rename_i id K;split at h<;>try trivial
  split at h<;>try trivial
  rename_i e' ty' l A;split at h<;>try trivial
  rename_i hty;split at h<;>try trivial
  rename_i D;split at h<;>try trivial
  rename_i y' M;cases h;by_cases p:i=bu t;simp only[ca,ufw p,ucl]at n;subst n;simp only[cp,bM,ufw p,K];subst hty;subst D;have hob:=E.ob id _ A;exact⟨hob,.inl ⟨id,_,rfl,A,λ_ h=>h⟩⟩;simp only[ca,ufx p]at n;have:=r7 E M i o n R' (λid e s d=>C id e s (ubj _ d));simp only[cp,bM,ufx p]at this |-;exact this
 |.x id e ty::r,N,y,h,i,o,n=>by
  intro R' C;simp only[bR]at h;split at h<;>try trivial
  rename_i e' cs A;split at h<;>try trivial
  rename_i D;split at h<;>try trivial
  rename_i x W;split at h<;>try trivial
  rename_i y' M;cases h;by_cases p:i=id;simp only[ca,ufw p,ucl]at n;subst n;simp only[cp,bM,ufw p];subst D;obtain⟨b,G,h1,h2,h3,h4,h5,h6⟩:=E.ob id _ A;have S:=mN ty W;refine⟨⟨b,G,h1,h2,h3,h4,?_,aG.enc ty x (aG.dec ty W h6).1⟩,.inl ⟨id,_,rfl,A,λ_ h=>h⟩⟩;rw[gV,h5,S];simp;simp only[ca,ufx p]at n;have:=r7 E M i o n R' (λid e s d=>C id e s (ubj _ d));simp only[cp,bM,ufx p]at this |-;exact this
 |.r t id off::r,N,y,h,i,o,n=>by
  intro R' C;simp only[bR]at h;split at h<;>try trivial
  split at h<;>try trivial
  exact r7 E h i o n R' (λid e s d=>C id e s (ubj _ d))
 |.g t f id::r,N,y,h,i,o,n=>by
  intro R' C;simp only[bR]at h;split at h<;>try trivial
  split at h<;>try trivial
  exact r7 E h i o n R' (λid e s d=>C id e s (ubj _ d))
 |.al t s0::r,N,y,h,i,o,n=>by
  intro R' C;simp only[bR]at h;split at h<;>try trivial
  all_goals (split at h<;>try trivial)
  all_goals exact r7 E h i o n R' (λid e s d=>C id e s (ubj _ d))
 |.y id e s::r,N,y,h,i,o,n=>by
  intro R' C;simp only[bR]at h;split at h<;>try trivial
  rename_i e' cs A;split at h<;>try trivial
  rename_i D;split at h<;>try trivial
  rename_i x us' W;split at h<;>try trivial
  rename_i y' M;cases h;subst D;obtain⟨g1,g2,g3,g4,g5⟩:=tW W;by_cases p:i=id;simp only[ca,ufw p,ucl]at n;subst n;simp only[cp,bM,ufw p];obtain⟨b,G,h1,h2,h3,h4,h5,h6⟩:=E.ob id _ A;refine⟨⟨b,G,h1,h2,h3,h4,?_,?_⟩,.inl ⟨id,_,rfl,A,λ_ h=>h⟩⟩;rw[h5,g1,GU];refine mF _ λj c O=>?_;have hj:j<s.length:=by have:=(uak.1 O).1;rw[GU]at this;exact this
  have hjc:j<cs.length:=by omega
  rcases Ly W 0 j c O with ⟨rfl,z⟩|⟨t0,x0,c0,q1,q2,q3⟩
  obtain⟨u,p1,p2,_⟩:=aS.at_ h6 (uaq hjc);refine⟨u,p1,p2,?_⟩;rw[uey];exact C id _ s ucc j u z ⟨b,G,_,h1,h2,p1⟩;obtain⟨u,p1,p2⟩:=aS.at_ h6 q1;have hr1:aS P w F (av m γ) [c0] (λi v=>i=0/\v=u):=⟨⟨u,⟨rfl,rfl⟩,p2⟩,uT⟩;have T:=aG.enc (P:=P) (R:=R') t0 x0 (aG.dec t0 q2 hr1).1;rw[<- q3]at T;obtain⟨⟨u',⟨_,rfl⟩,p3⟩,_⟩:=T;exact⟨u',p1,p3⟩;by_cases hk:cH id<=i/\i<cH id+s.length;simp only[ca,ufx p,ufw hk]at n;simp only[cp,bM,ufx p,ufw hk,A];rcases g5 _ o n with ⟨a,e0,t0,rfl,H⟩|⟨k,a,b⟩
  have z:dl cs (i-cH id)=none:=by simp[dl,a]
  rw[z];exact Ys H;have z:dl cs (i-cH id)=U k:=by simp[dl,a]
  rw[z];have Q:=b;obtain⟨_,_,e2,t2,l2,O⟩:=g3 _ k z;rw[O]at Q;cases Q;exact⟨E.ob k _ O,.inl ⟨k,_,rfl,O,λ_ h=>h⟩⟩;simp only[ca,ufx p,ufx hk]at n;have:=r7 E M i o n R' (λid e s d=>C id e s (ubj _ d));simp only[cp,bM,ufx p,ufx hk]at this |-;exact this
def pO{all:List MI}{A:Nat->AV}{id:Nat}:{L:List MI} -> {u:List Nat} -> {y:dj L}->bR all A m L u=U y->kL id L=Z->(∀ t e ty,MI.o t e ty∈L->bu t≠id)->id<1000000000000000000000000000000->∃ o,ca L y id=U o/\bM A m L id=U id
 |[],_,_,_,h,_,_=>by simp[kL]at h
 |.o t e ty::r,u,y,h,d,a,c=>by
  have v:¬ id=bu t:=λw=>a t e ty (by simp) w.symm;simp only[bR]at h;split at h<;>try trivial
  split at h<;>try trivial
  rename_i D;split at h<;>try trivial
  rename_i z s;cases h;simp only[ca,bM,ufx v];exact pO s d (λn k b l=>a n k b (ubj _ l)) c;split at h<;>try trivial
  split at h<;>try trivial
  split at h<;>try trivial
  split at h<;>try trivial
  split at h<;>try trivial
  rename_i z s;cases h;simp only[ca,bM,ufx v];exact pO s d (λn k b l=>a n k b (ubj _ l)) c
 |.x i e ty::r,u,y,h,d,a,c=>by
  simp only[bR]at h;split at h<;>try trivial
  split at h<;>try trivial
  split at h<;>try trivial
  split at h<;>try trivial
  rename_i z s;cases h;by_cases p:id=i;simp only[ca,bM,ufw p];exact⟨_,rfl,by rw[p]⟩;simp only[ca,bM,ufx p];simp only[kL,udu,ufj]at d;exact pO s (d.resolve_left (λh=>p h.symm)) (λn k b l=>a n k b (ubj _ l)) c
 |.r t i E::r,u,y,h,d,a,c=>by
  simp only[bR]at h;split at h<;>try trivial
  split at h<;>try trivial
  exact pO (L:=r) h d (λn k b l=>a n k b (ubj _ l)) c
 |.g t f i::r,u,y,h,d,a,c=>by
  simp only[bR]at h;split at h<;>try trivial
  split at h<;>try trivial
  exact pO (L:=r) h d (λn k b l=>a n k b (ubj _ l)) c
 |.al t F::r,u,y,h,d,a,c=>by
  simp only[bR]at h;split at h<;>try trivial
  all_goals (split at h<;>try trivial)
  all_goals exact pO (L:=r) h d (λn k b l=>a n k b (ubj _ l)) c
 |.y i e B::r,u,y,h,d,a,c=>by
  simp only[bR]at h;split at h<;>try trivial
  split at h<;>try trivial
  split at h<;>try trivial
  split at h<;>try trivial
  rename_i z s;cases h;by_cases p:id=i;simp only[ca,bM,ufw p];exact⟨_,rfl,by rw[p]⟩;have C:¬ (cH i<=id/\id<cH i+B.length):=λw=>by have:=w.1;unfold cH at this;omega
  simp only[ca,bM,ufx p,ufx C];simp only[kL,udu,ufj]at d;exact pO s (d.resolve_left (λh=>p h.symm)) (λn k b l=>a n k b (ubj _ l)) c
end
def DC:List MI->List Nat
 |[]=>[]
 |.y id _ _::r=>id::DC r
 |_::r=>DC r
def bO:List MI->Bool
 |[]=>Z
 |.o t _ _::r=>J (t<1000000000000000000000000000000)&&bO r
 |.x id _ _::r=>J (id<1000000000000000000000000000000)&&bO r
 |.r _ id _::r=>J (id<1000000000000000000000000000000)&&bO r
 |.g _ _ a::r=>a.all (λid=>J (id<1000000000000000000000000000000))&&bO r
 |.al _ _::r=>bO r
 |.y id _ b::r=>J (id<1000000000000000000000000000000)&&(J (b.length<=1000)&&(!(DC r).contains id&&bO r))
def LS.low(L:LS):Bool:=bO L.ms
section
variable {P:Program} {B:Nat} {w w':World} {E:Env} {F F':Nat->Prop} {γ γ' γ0:Nat->Value} {Γ:Gm} {M m:aX} {R:Nat->Value->Prop}
def rM{id:Nat}{t:Tmp}:{c:List MI}->bO c=Z -> .r t id off∈c->id<1000000000000000000000000000000
 |[],_,h=>by simp at h
 |.o _ _ _::r,h,b=>by
  simp only[bO,udc]at h;rcases uej.1 b with a|a
  cases a;exact rM h.2 a
 |.x _ _ _::r,h,b=>by
  simp only[bO,udc]at h;rcases uej.1 b with a|a
  cases a;exact rM h.2 a
 |.r _ _ _::r,h,b=>by
  simp only[bO,udc,ucu]at h;rcases uej.1 b with a|a
  cases a;exact h.1;exact rM h.2 a
 |.g _ _ _::r,h,b=>by
  simp only[bO,udc]at h;rcases uej.1 b with a|a
  cases a;exact rM h.2 a
 |.al _ _::r,h,b=>by
  simp only[bO]at h;rcases uej.1 b with a|a
  cases a;exact rM h a
 |.y _ _ _::r,h,b=>by
  simp only[bO,udc]at h;rcases uej.1 b with a|a
  cases a;exact rM h.2.2.2 a
def uF{c:List Nat}{t:Tmp}:{e:List MI}->bO e=Z -> .g t f c∈e->∀ id∈c,id<1000000000000000000000000000000
 |[],_,h=>by simp at h
 |.o _ _ _::r,h,b=>by
  simp only[bO,udc]at h;rcases uej.1 b with a|a
  cases a;exact uF h.2 a
 |.x _ _ _::r,h,b=>by
  simp only[bO,udc]at h;rcases uej.1 b with a|a
  cases a;exact uF h.2 a
 |.r _ _ _::r,h,b=>by
  simp only[bO,udc]at h;rcases uej.1 b with a|a
  cases a;exact uF h.2 a
 |.g _ _ _::r,h,b=>by
  simp only[bO,udc]at h;rcases uej.1 b with a|a
  cases a;exact λid d=>ucx (uc8.1 h.1 id d);exact uF h.2 a
 |.al _ _::r,h,b=>by
  simp only[bO]at h;rcases uej.1 b with a|a
  cases a;exact uF h a
 |.y _ _ _::r,h,b=>by
  simp only[bO,udc]at h;rcases uej.1 b with a|a
  cases a;exact uF h.2.2.2 a
def zf1{a:List MI}(h:bO a=Z){id:Nat}{t:Tmp}(b : .r t id off∈a):∀ c:Tmp,bu c≠id:=by have:=rM h b;unfold bu;omega
def Gf:{a:List YF}->(y:lW a) -> {j:Nat}->sY a j->∃ e t l,mW a y j=U (.arr e t l)
 |[],_,_,⟨_,_,h⟩=>by simp at h
 |(U e,t)::_,y,0,_=>⟨e,t,y.1,rfl⟩
 |(U _,_)::r,y,j+1,⟨e,t,h⟩=>Gf y.2 ⟨e,t,by simpa using h⟩
 |(V,_)::r,y,j+1,⟨e,t,h⟩=>Gf y.2 ⟨e,t,by simpa using h⟩
def vT{id:Nat}{b:List YF}:{L:List MI} -> .y id e b∈L->id∈DC L
 |[],h=>by simp at h
 |.o _ _ _::r,h=>by
  rcases uej.1 h with a|a
  cases a;exact vT (L:=r) a
 |.x _ _ _::r,h=>by
  rcases uej.1 h with a|a
  cases a;exact vT (L:=r) a
 |.r _ _ _::r,h=>by
  rcases uej.1 h with a|a
  cases a;exact vT (L:=r) a
 |.g _ _ _::r,h=>by
  rcases uej.1 h with a|a
  cases a;exact vT (L:=r) a
 |.al _ _::r,h=>by
  rcases uej.1 h with a|a
  cases a;exact vT (L:=r) a
 |.y _ _ _::r,h=>by
  rcases uej.1 h with a|a
  cases a;simp[DC];exact ubj _ (vT a)
def ry{all:List MI}{sl:Nat->AV}(E:MemOK P B w F γ m){id:Nat}{z:List YF}{j:Nat}(A:sY z j)(D:Jc w (γ id) j u):
  {L:List MI} -> {K:List Nat} -> {y:dj L}->bR all sl m L K=U y->bO L=Z -> .y id e z∈L->id<1000000000000000000000000000000->z.length<=1000 ->
  (∃ e t l,ca L y (cH id+j)=U (.arr e t l))/\cp γ sl m L (cH id+j)=u
 |[],_,_,_,_,h,_,_=>by simp at h
 |.o t e' ty::r,K,y,h,c,f,p,n=>by
  simp only[bO,udc,ucu]at c;have key:∀ t':Nat,t'<1000000000000000000000000000000->¬ cH id+j=1000000000000000000000000000000+t':=λt' h=>by unfold cH;omega
  have v:¬ cH id+j=bu t:=key t c.1;have d:MI.y id e z∈r:=by
   rcases uej.1 f with i|i
   cases i;exact i
  simp only[bR]at h;split at h<;>try trivial
  split at h<;>try trivial
  rename_i hrw;split at h<;>try trivial
  rename_i y' H;cases h;have:=ry E A D H c.2 d p n;simpa only[ca,cp,bM,ufx v]using this;split at h<;>try trivial
  split at h<;>try trivial
  split at h<;>try trivial
  split at h<;>try trivial
  split at h<;>try trivial
  rename_i y' H;cases h;have:=ry E A D H c.2 d p n;simpa only[ca,cp,bM,ufx v]using this
 |.x s e' ty::r,K,y,h,c,f,p,n=>by
  simp only[bO,udc,ucu]at c;have v:¬ cH id+j=s:=by have:=c.1;unfold cH;omega
  have d:MI.y id e z∈r:=by
   rcases uej.1 f with i|i
   cases i;exact i
  simp only[bR]at h;split at h<;>try trivial
  split at h<;>try trivial
  split at h<;>try trivial
  split at h<;>try trivial
  rename_i y' H;cases h;have:=ry E A D H c.2 d p n;simpa only[ca,cp,bM,ufx v]using this
 |.r t s off::r,K,y,h,c,f,p,n=>by
  simp only[bO,udc]at c;have d:MI.y id e z∈r:=by
   rcases uej.1 f with i|i
   cases i;exact i
  simp only[bR]at h;split at h<;>try trivial
  split at h<;>try trivial
  exact ry (L:=r) E A D h c.2 d p n
 |.g t f' s::r,K,y,h,c,f,p,n=>by
  simp only[bO,udc]at c;have d:MI.y id e z∈r:=by
   rcases uej.1 f with i|i
   cases i;exact i
  simp only[bR]at h;split at h<;>try trivial
  split at h<;>try trivial
  exact ry (L:=r) E A D h c.2 d p n
 |.al t s0::r,K,y,h,c,f,p,n=>by
  have d:MI.y id e z∈r:=by
   rcases uej.1 f with i|i
   cases i;exact i
  simp only[bR]at h;split at h<;>try trivial
  all_goals (split at h<;>try trivial)
  all_goals exact ry (L:=r) E A D h c d p n
 |.y s e' M::r,K,y,h,c,f,p,n=>by
  simp only[bO,udc,ucu,ucv,List.contains_eq_mem,uav]at c;obtain⟨l1,l2,l3,l4⟩:=c;simp only[bR]at h;split at h<;>try trivial
  rename_i e2 cs Q;split at h<;>try trivial
  split at h<;>try trivial
  rename_i x us' hx;split at h<;>try trivial
  rename_i y' H;cases h;have v:¬ cH id+j=s:=by unfold cH;omega
  by_cases O:id=s;subst O;have G:z=M:=by
   rcases uej.1 f with i|i
   cases i;rfl;exact absurd (vT i) l3
  subst G;have S:=A.lt;have T:cH id<=cH id+j/\cH id+j<cH id+z.length:=⟨by omega,by omega⟩;simp only[ca,cp,bM,ufx v,ufw T,Q,uax];refine⟨Gf x A,?_⟩;obtain⟨g1,g2,g3,g4,g5⟩:=tW hx;obtain⟨ee,tt,ll,N⟩:=Gf x A;obtain⟨b,arr,ty,q1,q2,q3⟩:=D;obtain⟨b',arr',p1,p2,_,_,p5,p6⟩:=E.ob id _ Q;rw[q1]at p1;cases p1;rw[q2]at p2;cases p2;rcases g5 j _ N with ⟨a,_⟩|⟨k,a,W⟩
  have C:dl cs j=none:=by simp[dl,a]
  rw[C];obtain⟨u',R,_,r3⟩:=aS.at_ p6 a;rw[q3]at R;cases R;exact r3.symm;have C:dl cs j=U k:=by simp[dl,a]
  rw[C];obtain⟨u',R,_,r3⟩:=aS.at_ p6 a;rw[q3]at R;cases R;have r4:av m γ k u:=r3;simp only[av,W]at r4;exact r4.symm;have d:MI.y id e z∈r:=by
   rcases uej.1 f with i|i
   cases i;exact absurd rfl O;exact i
  have S:=A.lt;have T:¬ (cH s<=cH id+j/\cH id+j<cH s+M.length):=by unfold cH;omega
  have:=ry E A D H l4 d p n;simpa only[ca,cp,bM,ufx v,ufx T]using this
def uG{id:Nat}{c:List YF}:{d:List MI}->bO d=Z -> .y id e c∈d->id<1000000000000000000000000000000/\c.length<=1000
 |[],_,h=>by simp at h
 |.o _ _ _::r,h,b=>by
  simp only[bO,udc]at h;rcases uej.1 b with a|a
  cases a;exact uG h.2 a
 |.x _ _ _::r,h,b=>by
  simp only[bO,udc]at h;rcases uej.1 b with a|a
  cases a;exact uG h.2 a
 |.r _ _ _::r,h,b=>by
  simp only[bO,udc]at h;rcases uej.1 b with a|a
  cases a;exact uG h.2 a
 |.g _ _ _::r,h,b=>by
  simp only[bO,udc]at h;rcases uej.1 b with a|a
  cases a;exact uG h.2 a
 |.al _ _::r,h,b=>by
  simp only[bO]at h;rcases uej.1 b with a|a
  cases a;exact uG h a
 |.y _ _ _::r,h,b=>by
  simp only[bO,udc,ucu]at h;rcases uej.1 b with a|a
  cases a;exact⟨h.1,h.2.1⟩;exact uG h.2.2.2 a
def sq{all:List MI}{B:Nat->AV}{tm:Nat->Value}(G:∀ t,kp P w F (av m γ) tm (B t) (tm t)):{L:List MI} -> {R:List Nat} -> {y:dj L}->bR all B m L R=U y->bO L=Z->∀ i,
  bL L i=.dead\/(bL L i=.c (.own (bu i))/\(∃ e t l,ca L y (bu i)=U (.arr e t l))/\cp γ B m L (bu i)=tm i/\(tm i).oneCell'=Z/\i<1000000000000000000000000000000) \/
  (∃ id off,bL L i=.c (mv id off)/\B i=.c (mv id off)/\kL id all=Z/\∃ t,.r t id off∈L) \/
  (∃ f D,bL L i=.c (.fn f (rY D))/\B i=.c (.fn f (rY D))/\(∀ id∈D,kL id all=Z)/\∃ t,.g t f D∈L) \/
  ∃ E,bL L i=.c (.own (bu E))/\lw E all=Z/\((∃ k,B i=.c (.own k)/\B E=.c (.own k))\/(B i=.c .nil/\B E=.c .nil))
 |[],_,_,_,_,i=>.inl rfl
 |.o t e ty::r,R,y,h,b,i=>by
  have d:bO r=true:=by simp only[bO,udc]at b;exact b.2
  have hti:t<1000000000000000000000000000000:=by simp only[bO,udc,ucu]at b;exact b.1
  have S:=G t;simp only[bR]at h;split at h<;>try trivial
  rename_i p;split at h<;>try trivial
  rename_i hrw;split at h<;>try trivial
  rename_i y' hy;cases h;by_cases n:i=t;subst n;refine .inr (.inl ⟨by simp[bL],⟨e,ty,[],by simp[ca]⟩,?_,?_,hti⟩);simp only[cp,bM,p];rw[p]at S;exact S.2.symm;rw[p]at S;exact S.1;have H:¬ bu i=bu t:=λO=>n (by unfold bu at O;omega);rcases sq G hy d i with a|a|⟨id,off,a,u,v,s,z⟩|⟨K,A,a,u,v,s,z⟩|⟨N,a,M⟩
  exact .inl (by simpa only[bL,ufx n]using a);exact .inr (.inl (by simpa only[bL,ca,cp,bM,ufx n,ufx H]using a));exact .inr (.inr (.inl ⟨id,off,by simpa only[bL,ufx n]using a,u,v,s,ubj _ z⟩));exact .inr (.inr (.inr (.inl ⟨K,A,by simpa only[bL,ufx n]using a,u,v,s,ubj _ z⟩)));exact .inr (.inr (.inr (.inr ⟨N,by simpa only[bL,ufx n]using a,M⟩)));rename_i id p;split at h<;>try trivial
  split at h<;>try trivial
  rename_i e' ty' l hmm;split at h<;>try trivial
  split at h<;>try trivial
  split at h<;>try trivial
  rename_i y' hy;cases h;by_cases n:i=t;subst n;rw[p]at S;refine .inr (.inl ⟨by simp[bL],⟨e,ty,_,by simp[ca];rfl⟩,?_,S.1,hti⟩);simp only[cp,bM,p];have:=S.2;simp only[bx,av,hmm]at this;exact this.symm;have H:¬ bu i=bu t:=λO=>n (by unfold bu at O;omega);rcases sq G hy d i with a|a|⟨id,off,a,u,v,s,z⟩|⟨K,A,a,u,v,s,z⟩|⟨N,a,M⟩
  exact .inl (by simpa only[bL,ufx n]using a);exact .inr (.inl (by simpa only[bL,ca,cp,bM,ufx n,ufx H]using a));exact .inr (.inr (.inl ⟨id,off,by simpa only[bL,ufx n]using a,u,v,s,ubj _ z⟩));exact .inr (.inr (.inr (.inl ⟨K,A,by simpa only[bL,ufx n]using a,u,v,s,ubj _ z⟩)));exact .inr (.inr (.inr (.inr ⟨N,by simpa only[bL,ufx n]using a,M⟩)))
 |.x id e ty::r,R,y,h,b,i=>by
  have d:bO r=Z/\id<1000000000000000000000000000000:=by simp only[bO,udc,ucu]at b;exact⟨b.2,b.1⟩
  simp only[bR]at h;split at h<;>try trivial
  split at h<;>try trivial
  split at h<;>try trivial
  split at h<;>try trivial
  rename_i y' hy;cases h;have H:¬ bu i=id:=λO=>by unfold bu at O;omega
  rcases sq G hy d.1 i with a|a|⟨C,off,a,u,v,s,z⟩|⟨K,A,a,u,v,s,z⟩|⟨N,a,M⟩
  exact .inl (by simpa only[bL]using a);exact .inr (.inl (by simpa only[bL,ca,cp,bM,ufx H]using a));exact .inr (.inr (.inl ⟨C,off,by simpa only[bL]using a,u,v,s,ubj _ z⟩));exact .inr (.inr (.inr (.inl ⟨K,A,by simpa only[bL]using a,u,v,s,ubj _ z⟩)));exact .inr (.inr (.inr (.inr ⟨N,by simpa only[bL]using a,M⟩)))
 |.r t id off::r,R,y,h,b,i=>by
  have d:bO r=true:=by simp only[bO,udc]at b;exact b.2
  simp only[bR]at h;split at h<;>try trivial
  rename_i i' o' p;split at h<;>try trivial
  rename_i hc;obtain⟨rfl,rfl,Q⟩:=hc;by_cases n:i=t;subst n;exact .inr (.inr (.inl ⟨i',o',by simp[bL],zka p,Q,i,by simp⟩));rcases sq (L:=r) G h d i with a|a|⟨C,off,a,u,v,s,z⟩|⟨K,A,a,u,v,s,z⟩|⟨N,a,M⟩
  exact .inl (by simpa only[bL,ufx n]using a);exact .inr (.inl (by simpa only[ca,cp,bM,bL,ufx n]using a));exact .inr (.inr (.inl ⟨C,off,by simpa only[bL,ufx n]using a,u,v,s,ubj _ z⟩));exact .inr (.inr (.inr (.inl ⟨K,A,by simpa only[bL,ufx n]using a,u,v,s,ubj _ z⟩)));exact .inr (.inr (.inr (.inr ⟨N,by simpa only[bL,ufx n]using a,M⟩)))
 |.g t f id::r,R,y,h,b,i=>by
  have d:bO r=true:=by simp only[bO,udc]at b;exact b.2
  simp only[bR]at h;split at h<;>try trivial
  rename_i f' cs p;split at h<;>try trivial
  rename_i hc;obtain⟨rfl,hp,Q⟩:=hc;rw[Z6 hp]at p;by_cases n:i=t;subst n;exact .inr (.inr (.inr (.inl ⟨f',id,by simp[bL],p,λj hj=>uc8.1 Q j hj,i,by simp⟩)));rcases sq (L:=r) G h d i with a|a|⟨C,off,a,u,v,s,z⟩|⟨K,A,a,u,v,s,z⟩|⟨N,a,M⟩
  exact .inl (by simpa only[bL,ufx n]using a);exact .inr (.inl (by simpa only[ca,cp,bM,bL,ufx n]using a));exact .inr (.inr (.inl ⟨C,off,by simpa only[bL,ufx n]using a,u,v,s,ubj _ z⟩));exact .inr (.inr (.inr (.inl ⟨K,A,by simpa only[bL,ufx n]using a,u,v,s,ubj _ z⟩)));exact .inr (.inr (.inr (.inr ⟨N,by simpa only[bL,ufx n]using a,M⟩)))
 |.al t E::r,R,y,h,b,i=>by
  have d:bO r=true:=by exact b
  have fin:bR all B m r R=U y->lw E all=Z->((∃ k,B t=.c (.own k)/\B E=.c (.own k))\/(B t=.c .nil/\B E=.c .nil)) ->
    bL (.al t E::r) i=.dead\/(bL (.al t E::r) i=.c (.own (bu i))/\(∃ e s l,ca (.al t E::r) y (bu i)=U (.arr e s l))/\cp γ B m (.al t E::r) (bu i)=tm i/\(tm i).oneCell'=Z/\i<1000000000000000000000000000000) \/
    (∃ id off,bL (.al t E::r) i=.c (mv id off)/\B i=.c (mv id off)/\kL id all=Z/\∃ s,.r s id off∈(.al t E::r:List MI)) \/
    (∃ f D,bL (.al t E::r) i=.c (.fn f (rY D))/\B i=.c (.fn f (rY D))/\(∀ id∈D,kL id all=Z)/\∃ s,.g s f D∈(.al t E::r:List MI)) \/
    ∃ s1,bL (.al t E::r) i=.c (.own (bu s1))/\lw s1 all=Z/\((∃ k,B i=.c (.own k)/\B s1=.c (.own k))\/(B i=.c .nil/\B s1=.c .nil)):=λh Q hs0=>by
   by_cases n:i=t;subst n;exact Or.inr (.inr (.inr (.inr ⟨E,by simp[bL],Q,hs0⟩)));rcases sq (L:=r) G h d i with a|a|⟨C,off,a,u,v,s,z⟩|⟨K,A,a,u,v,s,z⟩|⟨N,a,M⟩
   exact .inl (by simpa only[bL,ufx n]using a);exact .inr (.inl (by simpa only[ca,cp,bM,bL,ufx n]using a));exact .inr (.inr (.inl ⟨C,off,by simpa only[bL,ufx n]using a,u,v,s,ubj _ z⟩));exact .inr (.inr (.inr (.inl ⟨K,A,by simpa only[bL,ufx n]using a,u,v,s,ubj _ z⟩)));exact .inr (.inr (.inr (.inr ⟨N,by simpa only[bL,ufx n]using a,M⟩)))
  simp only[bR]at h;split at h<;>try trivial
  rename_i k1 k2 T W;split at h<;>try trivial
  rename_i hc;obtain⟨rfl,Q⟩:=hc;exact fin h Q (.inl ⟨k1,T,W⟩);rename_i T W;split at h<;>try trivial
  rename_i Q;exact fin h Q (.inr ⟨T,W⟩)
 |.y id e fs::r,R,y,h,b,i=>by
  have d:bO r=Z/\id<1000000000000000000000000000000:=by simp only[bO,udc,ucu]at b;exact⟨b.2.2.2,b.1⟩
  simp only[bR]at h;split at h<;>try trivial
  split at h<;>try trivial
  split at h<;>try trivial
  split at h<;>try trivial
  rename_i y' hy;cases h;have H:¬ bu i=id:=λO=>by unfold bu at O;omega
  rcases sq G hy d.1 i with a|a|⟨C,off,a,u,v,s,z⟩|⟨K,A,a,u,v,s,z⟩|⟨N,a,M⟩
  exact .inl (by simpa only[bL]using a);have hk:¬ (cH id<=bu i/\bu i<cH id+fs.length):=λO=>by have:=O.1;unfold bu cH at this;omega
  exact .inr (.inl (by simpa only[bL,ca,cp,bM,ufx H,ufx hk]using a));exact .inr (.inr (.inl ⟨C,off,by simpa only[bL]using a,u,v,s,ubj _ z⟩));exact .inr (.inr (.inr (.inl ⟨K,A,by simpa only[bL]using a,u,v,s,ubj _ z⟩)));exact .inr (.inr (.inr (.inr ⟨N,by simpa only[bL]using a,M⟩)))
def Yz{a:Nat}(h:bu a=bu b):a=b:=by unfold bu at h;omega
def zha{a id:Nat}(h:a<1000000000000000000000000000000):¬ cH id<=bu a:=by unfold bu cH;omega
def um{b:Tmp}:{L:List MI}->bO L=Z->lw b L=Z->b<1000000000000000000000000000000
 |[],_,h=>by simp[lw]at h
 |.o t _ _::r,a,h=>by
  simp only[bO,udc,ucu]at a;simp only[lw,udu,ufj]at h;rcases h with rfl|h
  exact a.1;exact um a.2 h
 |.x _ _ _::r,a,h=>by simp only[bO,udc]at a;exact um a.2 h
 |.r _ _ _::r,a,h=>by simp only[bO,udc]at a;exact um a.2 h
 |.g _ _ _::r,a,h=>by simp only[bO,udc]at a;exact um a.2 h
 |.al _ _::r,a,h=>by exact um (L:=r) a h
 |.y _ _ _::r,a,h=>by simp only[bO,udc]at a;exact um a.2.2.2 h
def rz{all:List MI}{z:Nat->AV}{p:Tmp}(b:p<1000000000000000000000000000000):{L:List MI} -> {w:List Nat} -> {y:dj L}->bR all z m L w=U y->bO L=Z->lw p L=Z ->
  (∃ e t l,ca L y (bu p)=U (.arr e t l))/\((∃ k e t l,z p=.c (.own k)/\m k=U (.arr e t l)/\cp γ z m L (bu p)=γ k)\/(z p=.c .nil/\cp γ z m L (bu p)=.slice V 0 0))
 |[],_,_,_,_,h=>by simp[lw]at h
 |.o t e ty::r,w,y,h,a,n=>by
  simp only[bO,udc]at a;simp only[lw,udu,ufj]at n;simp only[bR]at h;split at h<;>try trivial
  rename_i d;split at h<;>try trivial
  rename_i G;split at h<;>try trivial
  rename_i C v;cases h;by_cases u:t=p;subst u;refine⟨⟨e,ty,[],by simp[ca]⟩,.inr ⟨d,?_⟩⟩;simp only[cp,bM,if_true,d];have i:=λs=>u (Yz s).symm;have:=rz b v a.2 (n.resolve_left u);simpa only[ca,cp,bM,ufx i]using this;rename_i id d;split at h<;>try trivial
  split at h<;>try trivial
  rename_i D B l A;split at h<;>try trivial
  split at h<;>try trivial
  split at h<;>try trivial
  rename_i C v;cases h;by_cases u:t=p;subst u;refine⟨⟨e,ty,_,by simp[ca];rfl⟩,.inl ⟨id,D,B,l,d,A,?_⟩⟩;simp only[cp,bM,if_true,d];have i:=λs=>u (Yz s).symm;have:=rz b v a.2 (n.resolve_left u);simpa only[ca,cp,bM,ufx i]using this
 |.x id e ty::r,w,y,h,a,n=>by
  simp only[bO,udc,ucu]at a;simp only[bR]at h;split at h<;>try trivial
  split at h<;>try trivial
  split at h<;>try trivial
  split at h<;>try trivial
  rename_i C v;cases h;have i:¬ bu p=id:=λs=>by unfold bu at s;omega
  have:=rz b v a.2 n;simpa only[ca,cp,bM,ufx i]using this
 |.r t id H::r,w,y,h,a,n=>by
  simp only[bO,udc]at a;simp only[bR]at h;split at h<;>try trivial
  split at h<;>try trivial
  exact rz (L:=r) b h a.2 n
 |.g t f id::r,w,y,h,a,n=>by
  simp only[bO,udc]at a;simp only[bR]at h;split at h<;>try trivial
  split at h<;>try trivial
  exact rz (L:=r) b h a.2 n
 |.al t K::r,w,y,h,a,n=>by
  simp only[bR]at h;split at h<;>try trivial
  all_goals (split at h<;>try trivial)
  all_goals exact rz (L:=r) b h a n
 |.y id e E::r,w,y,h,a,n=>by
  simp only[bO,udc,ucu]at a;simp only[bR]at h;split at h<;>try trivial
  split at h<;>try trivial
  split at h<;>try trivial
  split at h<;>try trivial
  rename_i C v;cases h;have i:¬ bu p=id:=λs=>by unfold bu at s;omega
  have F:¬ (cH id<=bu p/\bu p<cH id+E.length):=λs=>zha b s.1;have:=rz b v a.2.2.2 n;simpa only[ca,cp,bM,ufx i,ufx F]using this
def qbf{f:Nat->AV}{b:Nat->Value}:{vs:List (Tmp×PT)} -> {x:ap (vs.map (·.2))}->dm P w F (vs.map (·.2)) x (vs.map λv=>b v.1)->(∀ i,aK P w F R (f i) (b i))->∀ i,aK P w F R (sr vs x f i) (b i)
 |[],_,_,a,i=>a i
 |(t,p)::r,x,h,a,i=>by obtain⟨v,k,c,d,e⟩:=h;obtain⟨rfl,rfl⟩:=c;simp only[sr];split;rename_i g;subst g;exact Ug d;exact qbf e a i
def zj{a:Tmp->Value}:{x:AV} -> {u:Value}->aK P w F R x u->fw P w F R a x u
 |.dead,_,h=>h
 |.c _,_,h=>h
 |.agg _,_,h=>h
 |.tup _,_,h=>h
 |.optr _ _ _ _,_,h=>h
 |.aptr _ _ _,_,h=>h
 |.maybe _ _ _,_,h=>h.elim
def ZR{a:Nat->AV}{b:Nat->Value}(h:∀ t,aK P w F R (a t) (b t)):(c:List Nat)->bI P w F R (c.map a) (c.map b)
 |[]=>trivial
 |t::r=>⟨h t,ZR h r⟩
def ux{s:St}{a:Act}(c:InvG P E s a w [] F γ)(t:Tmp):aK P w F (av s.mem γ) (s.sl t) (a.tmps.getD t undef):=by
 have:=c.sl t;cases d:s.sl t with
 |maybe g b v=>have:=c.hg t g b v d;simp at this
 |_=>rw[d]at this;exact this
def gK(a:Act)(E:Env)(t:Nat):Value:=if t<10000 then a.tmps.getD t undef else E.G (t-10000)
def WW{s:St}{a:Act}(b:InvG P E s a w [] F γ)(t:Nat):aK P w F (av s.mem γ) (s.at t) (gK a E t):=by unfold St.at gK;split;exact ux b t;exact b.gh _
def zkx{a:Tmp->Value}{x:AV}(h:aK P w F R x u):kp P w F R a x u:=by cases x<;>first|exact h|exact h.elim
def zgg{m:aX}(g:MemOK P B w F γ m)(k:∀ b,F b->b<w.heap.size):(i:MI)->∃ F',Step B w F γ m w F' γ (GJ m i)/\MemOK P B w F' γ (GJ m i):=by
 intro i;unfold GJ;split<;>try exact⟨F,Step.refl k,g⟩
 rename_i id R N;split<;>try exact⟨F,Step.refl k,g⟩
 rename_i e Q s;split<;>try exact⟨F,Step.refl k,g⟩
 rename_i f u x;split<;>try exact⟨F,Step.refl k,g⟩
 rename_i S C a;obtain⟨b,n,o,p,T,D,E,G⟩:=g.ob id _ s;obtain⟨l,A,z,t1,L,M⟩:=CR g k (dM.of λ_ _ h=>h) x G;obtain⟨O,y,r,W,H,f4,f5,f6⟩:=z.ob id _ a;rw[o]at r;simp at r;subst r;have K:∀ i v,av (aB m u) γ i v->av (upd (aB m u) id (.box e f)) γ i v:=qm a (by simp);have d:Step B w l γ (aB m u) w l γ (upd (aB m u) id (.box e f)):=
  ⟨λc h=>h,λ_ _=>rfl,K,λ_ _=>rfl,rfl,rfl,rfl,ufb _,A.bd,λc h=>.inl h⟩
 have t:MemOK P B w l γ (upd (aB m u) id (.box e f)):=by refine z.change a (by simp) d.hF d.hw (λc h=>?_) (λc _ _=>⟨rfl,λh=>h⟩) ?_;rw[o]at h |-;exact h;exact⟨b,n,o,p,H,D,by rw[E,L],d.repCL M⟩
 refine⟨l,?_,?_⟩;rw[iP];exact A.trans d;rw[iP];exact t
def Yd:(L:List MI) -> {m:aX} -> {F:Nat->Prop}->MemOK P B w F γ m->(∀ b,F b->b<w.heap.size)->∃ F',Step B w F γ m w F' γ (Cg L m)/\MemOK P B w F' γ (Cg L m)
 |[],m,F,c,a=>⟨F,Step.refl a,c⟩
 |i::r,m,F,c,a=>by obtain⟨F1,d,f⟩:=zgg c a i;obtain⟨e,h,g⟩:=Yd r f d.bd;exact⟨e,d.trans h,g⟩
def zvo(hΓ:io P Γ){L:LS}(m:L.low=Z){s:St}{a:Act}(R:I P E s a w){x:L.X}{n:List Prop}(h:L.ext0 Γ s=U (x,n))(hn:az n):I P E (L.tpl s.n x) a w:=by
 obtain⟨F,r,R⟩:=R;have hsl:=WW R;unfold LS.ext0 at h;split at h<;>try trivial
 rename_i xs u hrs;split at h<;>try trivial
 rename_i xv n' hdec;split at h<;>try trivial
 rename_i y c;cases h;have hreps:bI P w F (av s.mem r) (L.vs.map λv=>s.at v.1) (L.vs.map λv=>gK a E v.1):=by have:=ZR hsl (L.vs.map (·.1));simpa[Function.comp_def]using this
 obtain⟨F0,hs0,hm0,_,hxs0⟩:=ke R.mem (eE R) (dM.of λ_ _ h=>h) hrs hreps;obtain⟨F',M,hm⟩:=Yd L.ms hm0 hs0.bd;have hs:=hs0.trans M;have hxs:=DD M.hF M.hw M.hR hxs0;generalize Cg L.ms (aB s.mem u)=B at *;have hps:=pI hΓ hdec hn hxs;have A:=λt=>aK.mono hs.hF hs.hw hs.hR _ (hsl t);have K:=sq (λt=>zkx (A t)) c m;have hob:=r7 hm c;have T:∀ id e fs,MI.y id e fs∈L.ms->∀ j v,sY fs j->Jc w (r id) j v->av (ca L.ms y) (cp r s.at B L.ms) (cH id+j) v:=by intro id e fs S j v hj hc;obtain⟨h30,hfs⟩:=uG m S;obtain⟨⟨e',t',l,C⟩,H⟩:=ry hm hj hc c m S h30 hfs;unfold av;rw[C];exact H.symm
 have D:∀ t,aK P w F' (av (ca L.ms y) (cp r s.at B L.ms)) (sr L.vs xv (bL L.ms) t) (gK a E t):=by
  refine qbf hps (λi=>?_);rcases K i with C|⟨C,⟨e,t',l,H⟩,Q,h4,_⟩|⟨id,off,C,H,Q,t',h4⟩|⟨f,id,C,H,Q,t',h4⟩|⟨s0,C,hx,h5⟩
  rw[C];trivial;rw[C];refine⟨h4,?_⟩;show av (ca L.ms y) (cp r s.at B L.ms) (bu i) (gK a E i);unfold av;rw[H];exact Q.symm;rw[C];have d:=A i;rw[H]at d;obtain⟨b,hR,hre⟩:=zj8 d.2;refine⟨d.1,hre _ ?_⟩;obtain⟨o,hmo,p⟩:=pO c Q (λt e ty _=>zf1 m h4 t) (rM m h4);have hg:cp r s.at B L.ms id=r id:=by unfold cp;rw[p]
  have hv':(Value.pointer (U ⟨b,0,V⟩))=r id:=by
   rcases lr c id id p with ⟨_,e,cs,G⟩|⟨_,e,t2,l2,G⟩
   simpa[av,G]using hR;simpa[av,G]using hR
  unfold av;rw[hmo];cases o<;>first|trivial|exact hv'.trans hg.symm
  rw[C];have d:=A i;rw[H]at d;obtain⟨one,arr,hv,hsz,hcl⟩:=d;refine⟨one,arr,hv,hsz,?_⟩;have W:=uF m h4;have O:∀ (z:List Nat) (g:Nat->Value->Prop),(∀ id∈z,kL id L.ms=Z)->(∀ id∈z,id<1000000000000000000000000000000)->aS P w F' (av B r) (rY z) g->aS P w F' (av (ca L.ms y) (cp r s.at B L.ms)) (rY z) g:=by
   intro z
   induction z with
   |nil=>intro g _ _ _;trivial
   |cons id z ih=>
    intro g Q hl hr;obtain⟨⟨u0,N,k2,b,hR,k4⟩,hrest⟩:=hr;refine⟨⟨u0,N,k2,b,?_,k4⟩,ih _ (λj hj=>Q j (ubj _ hj)) (λj hj=>hl j (ubj _ hj)) hrest⟩;obtain⟨o,hmo,p⟩:=pO c (Q id (by simp)) (λt e ty _=>by have:=hl id (by simp);unfold bu;omega) (hl id (by simp));have hg:cp r s.at B L.ms id=r id:=by unfold cp;rw[p]
    have hv':(Value.pointer (U ⟨b,0,V⟩))=r id:=by
     rcases lr c id id p with ⟨_,e,cs,G⟩|⟨_,e,t2,l2,G⟩
     simpa[av,G]using hR;simpa[av,G]using hR
    unfold av;rw[hmo];cases o<;>first|trivial|exact hv'.trans hg.symm
  exact O _ _ Q W hcl;rw[C];obtain⟨⟨e,t',l,H⟩,h6⟩:=rz (um m hx) c m hx;have d:=A i;have O:gK a E i=cp r s.at B L.ms (bu s0)/\(gK a E i).oneCell'=true:=by
   rcases h6 with ⟨k,e1,t1,l1,N,k2,k3⟩|⟨N,k2⟩
   rcases h5 with ⟨k',q1,q2⟩|⟨q1,q2⟩
   rw[q2]at N;cases N;rw[q1]at d;have hv:av B r _ (gK a E i):=d.2;simp only[av,k2]at hv;exact⟨hv.trans k3.symm,d.1⟩;rw[q2]at N;cases N;rcases h5 with ⟨k',q1,q2⟩|⟨q1,q2⟩
   rw[q2]at N;cases N;rw[q1]at d;exact⟨d.2.trans k2.symm,d.1⟩
  refine⟨O.2,?_⟩;show av (ca L.ms y) (cp r s.at B L.ms) (bu s0) (gK a E i);unfold av;rw[H];exact O.1
 refine⟨F',cp r s.at B L.ms,R.n,R.df,?_,⟨λid o ho=>(hob id o ho _ T).1,λi j oi oj b hij hoi hoj G hb'=>?_⟩,λt=>?_,λt g want v ht=>?_,λt=>?_⟩;obtain⟨γ0,h0⟩:=R.step;have:=h0.trans hs;exact⟨γ0,this.hF,this.hw,λ_ _ hh=>hh.elim,this.old,this.os,this.tape,this.output,this.size,this.bd,this.new⟩;rcases(hob i oi hoi _ T).2 with ⟨k,o0,s1,m1,e1⟩|e1
 rcases(hob j oj hoj _ T).2 with ⟨k',o0',s2,B,e2⟩|e2
 by_cases hk:k=k';subst hk;exact hij (rx c i j k s1 s2);exact hm.apart k k' o0 o0' b hk m1 B (e1 b G) (e2 b hb');exact e2 b hb';exact e1 b G;show fw P w F' _ _ (if t<10000 then sr L.vs xv (bL L.ms) t else .dead) _;split;rename_i ht;have:=D t;unfold gK at this;rw[ufw ht]at this;exact zj this;trivial;exfalso;have ht':(if t<10000 then sr L.vs xv (bL L.ms) t else .dead)=.maybe g want v:=ht;split at ht';have:=D t;rw[ht']at this;exact this;cases ht';have:=D (t+10000);unfold gK at this;rw[ufx (by omega),ub0]at this;exact this
def zy4{c:St}{a:Act}{m:aX}(b:InvG P E ⟨c.n,c.sl,m,c.gs⟩ a w [] F γ)(id:Nat):InvG P E ⟨c.n,c.sl,ztg m id,c.gs⟩ a w [] F γ:=by obtain⟨d,g⟩:=zy5 b.mem (eE b) id;refine⟨b.n,b.df,?_,g,λt=>(b.sl t).mono d.hF d.hw d.hR,b.hg,λt=>d.repA (b.gh t)⟩;obtain⟨e,f⟩:=b.step;exact⟨e,f.trans d⟩
def zwa{st:St}{a:Act}:(c:List Nat) -> {m:aX}->InvG P E ⟨st.n,st.sl,m,st.gs⟩ a w [] F γ->InvG P E ⟨st.n,st.sl,c.foldl ztg m,st.gs⟩ a w [] F γ
 |[],_,b=>b
 |id::r,_,b=>zwa r (zy4 b id)
def lZ(c:io P Γ){L:LS}(b:L.low=Z){s:St}{a:Act}(d:I P E s a w){x:L.X}{n:List Prop}(h:L.ext Γ s=U (x,n))(e:az n):I P E (L.tpl s.n x) a w:=by unfold LS.ext at h;split at h;rename_i y f;cases h;exact zvo c b d f e;obtain⟨F,g,d⟩:=d;exact zvo (s:=zwb s) c b ⟨F,g,zwa (st:=s) (List.range s.n) d⟩ h e
end
end Go.Ab
