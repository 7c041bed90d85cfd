/-
  Parts of the proof, one behind the other.
-/
import Derived.Test.YtdokapnnagbehaaGreatMb
import Derived.Orders
import Derived.Scope
set_option linter.all false
set_option maxRecDepth 100000
set_option maxHeartbeats 4000000
open Option renaming some->U,none->V
open Bool renaming true->Z,false->Y
open Decidable renaming decide->J
open Go Go.RowKit
variable {T α σ ρ β:Type} {P:Program} {ad:Addr} {arr cs cur:Array Value} {f:FuncId} {x a y day:Int} {k:IntKind} {l:List Int} {xs vs news:List Value} {off i n b c d j B m len:Nat} {F F' K:Nat->Prop} {R g R':Nat->Value->Prop} {o:Oper} {p:Prop} {e ety t ty el:TypeId} {v u vx:Value} {w w' W' W:World}
namespace Go.Ab
open Go Go.RowKit
structure Env where
 w0:World
 F0:Nat->Prop
 G:Nat->Value
 D:List Deferred
 B:Nat
 hB:B<=w0.heap.size
section
variable {P:Program} {B:Nat} {o:Oper} {a:Act} {w w':World} {E:Env} {F F':Nat->Prop} {γ γ' γ0:Nat->Value} {M m:aT} {R:Nat->Value->Prop} {Γ:Gm}
def Wp{m:Tmp->Value}{c:Operand}{i:Bool}{x:AV}(hc:∀ t,c=.tmp t->m t=.bool i)(h:i7 P w F R m x u):i7 P w F R m (Ev c i x) u:=by
 unfold Ev;split;rename_i g w0 v;split;rename_i t;split;rename_i j;obtain⟨rfl,rfl⟩:=j;have q:=h (hc g rfl);cases v<;>first|exact q|exact q.elim
 exact h;exact h;exact h
def qwe{p:Bool}{x y v:AV}(h:yA p x y=U v):fX x=Z/\fX y=true:=by
 unfold yA at h;split at h<;>first|exact⟨rfl,rfl⟩|cases h
def Hi(N:kN P Γ){op:Op}{vs:List AV}{e:Eff}(Q:o.op=op)(O:MemOK P B w F γ M)(hb:∀ b,F b->b<w.heap.size)(hB:B<=w.heap.size)(u:∀ i y,m i=U y->M i=U y)(hd:m d=V->M d=V)(hc:Bg P Γ d op vs m=U e)(hn:av e.need)(W:nV P w F (ap M γ) (λg=>a.tmps.getD g undef) vs (op.operands.toList.map a.eval)):sV P B o a w F γ M e.v e.wr:=by
 unfold Bg at hc;split at hc;rename_i c ao bo;split at hc<;>try trivial
 rename_i p x y;split at hc<;>try trivial
 rename_i v hv;cases hc;obtain⟨j,hx,hy,_⟩:=W;obtain⟨_,j⟩:=j;simp only[bc]at j;obtain⟨n1,n2⟩:=qwe hv;have H:∀ q,p=q->∀ t,c=.tmp t->a.tmps.getD t undef=.bool q:=by
  rintro q rfl t rfl;exact j
 have hx':=λS=>(Wp (H Z S) hx).plain n1;have hy':=λS=>(Wp (H Y S) hy).plain n2;have hrr:=qwf hv hx' hy';refine dl O hb ?_ hrr;unfold execOp;rw[Q];simp[j,asBool];split at hc<;>try trivial
 rename_i C;split at hc;rename_i h2;cases hc;exact qeg N Q O hb hB u hd h2 hn (W.plain C);exact qef N Q O hb hB u hd hc hn (W.plain C)
def dP(P:Program)(w:World)(F:Nat->Prop)(R:Nat->Value->Prop)(j:Tmp->Value):AV->Value->Prop
 |.maybe g i v,u=>(j g=.bool i->aE P w F R v u)/\(j g ≠ .bool i->u=undef)
 |v,u=>aE P w F R v u
def dP.toM{i:Tmp->Value}{x:AV}(h:dP P w F R i x u):i7 P w F R i x u:=by
 cases x<;>first|exact h|exact h.1
def dP.mono{i:Tmp->Value}{x:AV}(hF:∀ b,F b->F' b)(hw:∀ b,F b->w'.heap[b]?= w.heap[b]?)(hR:∀ id v,R id v->R' id v)(h:dP P w F R i x u):dP P w' F' R' i x u:=by
 cases x with
 |maybe g j v=>exact⟨λhg=>aE.mono hF hw hR v (h.1 hg),h.2⟩
 |dead=>trivial
 |c a=>exact aE.mono hF hw hR (.c a) h
 |agg cs=>exact aE.mono hF hw hR (.agg cs) h
 |tup vs=>exact aE.mono hF hw hR (.tup vs) h
 |optr _ _ _ _=>exact aE.mono (P:=P) hF hw hR (.optr _ _ _ _) h
 |aptr _ _ _=>exact aE.mono hF hw hR (.aptr _ _ _) h
structure InvG (P:Program) (E:Env) (st:St) (a:Act) (w:World) (W:List Tmp) (F:Nat->Prop) (γ:Nat->Value):Prop where
 n:a.tmps.size=st.n
 df:a.defers=E.D
 step:∃ γ0,Step E.B E.w0 E.F0 γ0 (λ_=>none) w F γ st.mem
 mem:MemOK P E.B w F γ st.mem
 sl:∀ t,dP P w F (ap st.mem γ) (λg=>a.tmps.getD g undef) (st.sl t) (a.tmps.getD t undef)
 hg:∀ t g want v,st.sl t=.maybe g want v->g∈W
 gh:∀ t,aE P w F (ap st.mem γ) (st.gs t) (E.G t)
def Rp{sl:Nat->AV}{C:Tmp->Value}(h:∀ t,dP P w F R C (sl t) (C t)):(n:Nat) -> {g:Tmp} -> {i:Bool} -> {gs:List (Tmp×Bool×Bool)}->nh sl n g i=U gs->C g=.bool i ->
  ∀ x∈gs,C x.1=.bool x.2.1/\x.2.2=x.2.1
 |0,_,_,_,m,_=>by simp[nh]at m
 |n+1,g,i,gs,m,hg=>by
  have H:=h g;unfold nh at m;split at m<;>try trivial
  rename_i b q;cases m;rw[q]at H;have:C g=.bool b:=H.2;rw[hg]at this;cases this;intro x u;simp at u;subst u;exact⟨hg,rfl⟩;rename_i N w0 b q;split at m<;>try trivial
  rename_i l O;cases m;rw[q]at H;by_cases j:C N=.bool w0;have:=(H.1 j).2;rw[hg]at this;cases this;intro x u;rcases uef.1 u with rfl|u
  exact⟨hg,rfl⟩;exact Rp h n O j x u;have:=H.2 j;rw[hg]at this;simp[undef]at this
def zck{gs:List (Tmp×Bool×Bool)}(h:gs.foldr (λx q=>x.2.2=x.2.1->q) p)(hg:∀ x∈gs,x.2.2=x.2.1):p:=by
 induction gs with
 |nil=>exact h
 |cons x gs j=>exact j (h (hg x (by simp))) (λy i=>hg y (by simp[i]))
def zcj{gs:List (Tmp×Bool×Bool)}{i:List Prop}(h:av (L4 gs i))(hg:∀ x∈gs,x.2.2=x.2.1):av i:=by
 induction i with
 |nil=>trivial
 |cons p i m=>
  have j:av (gs.foldr (λx q=>x.2.2=x.2.1->q) p::L4 gs i):=h;rw[je]at j |-;exact⟨zck j.1 hg,m j.2⟩
def zcm{j:Tmp->Value}{gs:List (Tmp×Bool×Bool)}{x:AV}(hg:∀ x∈gs,j x.1=.bool x.2.1)(h:i7 P w F R j x u):i7 P w F R j (pZ gs x) u:=by
 unfold pZ;split;rename_i g t v;split;rename_i i;obtain⟨y,C,m⟩:=List.any_eq_true.1 i;simp at m;obtain⟨rfl,rfl⟩:=m;have q:=h (hg y C);cases v<;>first|exact q|exact q.elim
 exact h;exact h
def Du(a:Act)(d:Option Tmp)(v:Value)(t:Tmp)(i:∀ x,d=U x->x<a.tmps.size):(a.put d v).tmps.getD t undef=if d=U t then v else a.tmps.getD t undef:=by
 cases d with
 |none=>simp[Act.put]
 |some x=>
  have j:=i x rfl;by_cases h:x=t;subst h;simp[Act.put,j];have:(U x=U t)=False:=by simp[h]
  simp only[Act.put,this];simp[uaa h]
def Br{sl:Nat->AV}(h:∀ t,dP P w F R (λg=>a.tmps.getD g undef) (sl t) (a.tmps.getD t undef))(x:Operand):i7 P w F R (λg=>a.tmps.getD g undef) (gC sl x) (a.eval x):=by
 cases x with
 |tmp t=>exact(h t).toM
 |const v=>
  have:=tf (P:=P) (w:=w) (F:=F) (R:=R) v;show i7 _ _ _ _ _ (lu v) v;unfold lu at *;split;split<;>simp_all[i7]
  trivial
  simp_all[i7]
 |global g=>trivial
 |func f=>exact⟨rfl,#[],rfl,rfl,uT⟩
def oH{sl:Nat->AV}(h:∀ t,dP P w F R (λg=>a.tmps.getD g undef) (sl t) (a.tmps.getD t undef)):(xs:List Operand)->nV P w F R (λg=>a.tmps.getD g undef) (xs.map (gC sl)) (xs.map a.eval)
 |[]=>trivial
 |x::r=>⟨Br h x,oH h r⟩
def PK{sl:Nat->AV}{gs:List (Tmp×Bool×Bool)}(hg:∀ x∈gs,a.tmps.getD x.1 undef=.bool x.2.1)(h:∀ t,dP P w F R (λg=>a.tmps.getD g undef) (sl t) (a.tmps.getD t undef)):
  (xs:List Operand)->nV P w F R (λg=>a.tmps.getD g undef) (xs.map λx=>pZ gs (gC sl x)) (xs.map a.eval)
 |[]=>trivial
 |x::r=>⟨zcm hg (Br h x),PK hg h r⟩
def yV(sl:Nat->AV)(d:Option Tmp)(v:AV)(t:Nat):e8 sl d v t=if d=U t then v else sl t:=by
 cases d with
 |none=>simp[e8]
 |some x=>
  by_cases h:t=x;subst h;simp[e8];simp[e8,h,Ne.symm h]
def lJ{m:St}{W:List Tmp}{d:Option Tmp}{v:AV}{wr:List (Nat×Ob)}(hi:InvG P E m a w W F γ)(hd:∀ x,d=U x->x<m.n/\x ∉ W)(C:Step E.B w F γ m.mem w' F' γ' (ax m.mem wr))(hm:MemOK P E.B w' F' γ' (ax m.mem wr))(hv:dP P w' F' (ap (ax m.mem wr) γ') (λg=>a.tmps.getD g undef) v u)(N:∀ g i y,v=.maybe g i y->g∈W):
  InvG P E ⟨m.n,e8 m.sl d v,ax m.mem wr,m.gs⟩ (a.put d u) w' (d.toList++W) F' γ':=by
 have q:=λt=>Du a d u t (λx S=>by rw[hi.n];exact(hd x S).1);have Q:∀ g,g∈W->(a.put d u).tmps.getD g undef=a.tmps.getD g undef:=λg hg=>by
  rw[q,if_neg];intro he;exact(hd g he).2 hg
 have j:∀ (x:AV) (y:Value),(∀ g i z,x=.maybe g i z->g∈W)->dP P w' F' (ap (ax m.mem wr) γ') (λg=>a.tmps.getD g undef) x y->dP P w' F' (ap (ax m.mem wr) γ') (λg=>(a.put d u).tmps.getD g undef) x y:=by
  intro x y S h;cases x with
  |maybe g i z=>
   have:=Q g (S g i z rfl);exact⟨λO=>h.1 (this.symm.trans O),λO=>h.2 (λh3=>O (this.trans h3))⟩
  |_=>exact h
 refine⟨?_,?_,?_,hm,λt=>?_,λt g i z H=>?_,λt=>C.repA (hi.gh t)⟩;show(a.put d u).tmps.size=m.n;rw[<- hi.n];cases d<;>simp[Act.put]
 rw[<- hi.df];cases d<;>rfl
 obtain⟨γ0,h0⟩:=hi.step;exact⟨γ0,h0.trans C⟩;rw[q];simp only[yV];by_cases h:d=U t;rw[if_pos h,if_pos h];exact j v u N hv;rw[if_neg h,if_neg h];exact j _ _ (hi.hg t) ((hi.sl t).mono C.hF C.hw C.hR);simp only[yV]at H;by_cases h:d=U t;rw[if_pos h]at H;exact ua6 _ (N g i z H);rw[if_neg h]at H;exact ua6 _ (hi.hg t g i z H)
def nM{i:St}{W:List Tmp}(hi:InvG P E i a w W F γ):E.B<=w.heap.size:=by
 obtain⟨γ0,h⟩:=hi.step;exact uel E.hB h.size
def dv{i:St}{W:List Tmp}(hi:InvG P E i a w W F γ):∀ b,F b->b<w.heap.size:=by
 obtain⟨γ0,h⟩:=hi.step;exact h.bd
def JQ(hΓ:kN P Γ){ops:Array Oper}{st:St}{W:List Tmp}{e:Ef}{bs:Nat}(hi:InvG P E st a w W F γ)(H:dY P Γ bs ops.toList o st.sl st.mem=U e)(hn:av e.need)(hd:∀ x,o.dst=U x->x<st.n/\x ∉ W)(hgW:∀ j m g,o.guard=U (j,m)->(ops[j]?).bind (·.dst)=U g->g∈W)(K:Act->World->Prop)(Q:Exit->Act->World->Prop)(hK:∀ a' w' F' γ',InvG P E (e.go st) a' w' (o.dst.toList++W) F' γ'->K a' w'):
  if Region.wanted o (yielded ops a.tmps)then o.wp P a w K Q else K (a.put o.dst undef) w:=by
 have O:∀ (ks:List Nat) (i:Nat) (y:Ob),jq ks st.mem i=U y->st.mem i=U y:=by
  intro ks i y h;unfold jq at h;split at h;exact h;cases h
 have hrd:∀ (ks:List Nat) (d:Nat),jq (d::ks) st.mem d=V->st.mem d=none:=by
  intro ks d h;unfold jq at h;simpa using h
 unfold dY at H;split at H
 rename_i N;have hw:Region.wanted o (yielded ops a.tmps)=true:=by simp[Region.wanted,N]
 rw[if_pos hw];simp only at H;split at H<;>try trivial
 rename_i ef t;cases H;have q:=Hi hΓ rfl hi.mem (dv hi) (nM hi) (O _) (hrd _ _) t hn (oH hi.sl _);refine q K Q λu w' F' γ' hs hm ha=>hK _ w' F' γ' ?_;have hnm:fX ef.v=true:=by
  cases S:ef.v with
  |maybe _ _ _=>rw[S]at ha;exact ha.elim
  |_=>rfl
 refine lJ hi hd hs hm ?_ (λg m y S=>by have hv':ef.v=_:=S;rw[hv']at hnm;cases hnm);cases S:ef.v with
 |maybe _ _ _=>rw[S]at hnm;cases hnm
 |_=>rw[S]at ha;exact ha
 rename_i j m N;split at H<;>try trivial
 rename_i g hg;have hgj:(ops[j]?).bind (·.dst)=U g:=by simpa using hg
 have hgW':=hgW j m g N hgj;have C:(yielded ops a.tmps j==U m)=Z↔a.tmps.getD g undef=.bool m:=by
  unfold yielded;rw[hgj];simp;cases hx:a.tmps[g]? with
  |none=>simp[hx,undef]
  |some y=>
   simp only[uac,hx,udb];cases y<;>simp
 split at H<;>try trivial
 rename_i gs hgs;simp only at H;split at H<;>try trivial
 rename_i ef t;split at H<;>try trivial
 rename_i hwr;cases H;by_cases hw:Region.wanted o (yielded ops a.tmps)=Z;rw[if_pos hw];have hgt:=C.1 (by simpa[Region.wanted,N]using hw);have hall:=Rp hi.sl 5 hgs hgt;have hneed:=zcj hn (λx hx=>(hall x hx).2);have q:=Hi hΓ rfl hi.mem (dv hi) (nM hi) (O _) (hrd _ _) t hneed (PK (λx hx=>(hall x hx).1) hi.sl _);rw[hwr]at q;refine q K Q λu w' F' γ' hs hm ha=>hK _ w' F' γ' ?_;exact lJ hi hd hs hm ⟨λ_=>ha,λh=>absurd hgt h⟩ (λg' w'' y S=>by cases S;exact hgW');rw[if_neg hw];have hgt:=λh=>hw (by simpa[Region.wanted,N]using C.2 h);refine hK _ w F γ (lJ hi hd (Step.refl (dv hi)) hi.mem ⟨λh=>absurd h hgt,λ_=>rfl⟩ (λg' w'' y S=>by cases S;exact hgW'))
end
section
variable {P:Program} {B:Nat} {o:Oper} {a:Act} {w w':World} {E:Env} {F F':Nat->Prop} {b:Nat} {γ γ' γ0:Nat->Value} {M m:aT} {R:Nat->Value->Prop} {Γ:Gm}
def VU{i:Op}{t:Tmp}(h : .tmp t∈i.operands.toList):t∈wh i:=ub8.2 ⟨.tmp t,h,rfl⟩
def PM{sl i:Nat->AV}{j:Op}(h:∀ t∈wh j,i t=sl t):j.operands.toList.map (gC i)=j.operands.toList.map (gC sl):=
 List.map_congr_left λx m=>by
  cases x with
  |tmp t=>exact h t (VU m)
  |_=>rfl
def Ro{sl j:Nat->AV}:(n:Nat) -> {g:Tmp} -> {i:Bool} -> {gs:List (Tmp×Bool×Bool)}->nh sl n g i=U gs->(∀ t∈gs.map (·.1),j t=sl t)->nh j n g i=U gs
 |0,_,_,_,h,_=>by simp[nh]at h
 |n+1,g,i,gs,h,m=>by
  unfold nh at h |-;split at h<;>try trivial
  rename_i b hb;cases h;rw[m g (by simp),hb];rename_i w w0 b hb;split at h<;>try trivial
  rename_i l q;cases h;rw[m g (by simp),hb];simp only;rw[Ro n q (λt u=>m t (by simp only[ueh,uef];exact .inr u))]
def qkx{A C:Type}{l:List A}{f g:A->List C}(h:∀ i∈l,f i=g i):l.flatMap f=l.flatMap g:=by
 induction l with
 |nil=>rfl
 |cons x l j=>rw[List.flatMap_cons,List.flatMap_cons,h x (by simp),j (λi hi=>h i (ubi _ hi))]
def Sj{j:Op}{vs:List AV}{m m':aT}(h:∀ k∈uw j vs m,m' k=m k):uw j vs m'=uw j vs m:=by
 unfold uw at *;split;rename_i q;refine ufo (List.flatMap uh vs ++ ·) (qkx λi hi=>?_);rw[h i (ubj _ hi)];rfl;rfl
def U4{ks:List Nat}{m m':aT}(h:∀ k∈ks,m' k=m k):jq ks m'=jq ks m:=by
 funext i;unfold jq;split;rename_i hc;exact h i (by simpa using hc);rfl
def P2{ops:List Oper}{sl u:Nat->AV}{m m':aT}{e:Ef}(q:dY P Γ b ops o sl m=U e)(O:∀ t∈e.rd,u t=sl t)(C:∀ k∈e.ks,m' k=m k):dY P Γ b ops o u m'=U e:=by
 unfold dY at q |-;split at q;rename_i H;simp only at q |-;split at q<;>try trivial
 rename_i W i;cases q;have F:=PM O;rw[F,Sj (λk w=>C k (ubi _ w)),U4 C,i];rename_i j S H;split at q<;>try trivial
 split at q<;>try trivial
 rename_i gs N;simp only at q;split at q<;>try trivial
 rename_i W i;split at q<;>try trivial
 rename_i Q;cases q;rw[Ro 5 N (λt ht=>O t (ubj _ ht))];simp only;have F:(o.op.operands.toList.map λx=>pZ gs (gC u x))=(o.op.operands.toList.map λx=>pZ gs (gC sl x)):=
  List.map_congr_left λx hx=>by
   cases x with
   |tmp t=>show pZ gs (u t)=pZ gs (sl t);rw[O t (ua6 _ (VU hx))]
   |_=>rfl
 rw[F,Sj (λk w=>C k (ubi _ w)),U4 C,i];simp only[Q]
def Wt{u:List (Nat×Ob)}{k:Nat}(h:∀ x∈u,x.1≠k)(M:aT):ax M u k=M k:=by
 induction u generalizing M with
 |nil=>rfl
 |cons x u j=>
  obtain⟨id,ob⟩:=x;simp only[ax];rw[j (λy i=>h y (ubi _ i)),fa _ _ (Ne.symm (h (id,ob) (by simp)))]
def zcn{x y:Ob}(h:i≠j)(M:aT):upd (upd M i x) j y=upd (upd M j y) i x:=by
 funext k;unfold upd;by_cases m:k=i<;>by_cases q:k=j<;>simp_all
def zcr{u:List (Nat×Ob)}{x:Ob}(h:∀ y∈u,i≠y.1)(M:aT):ax (upd M i x) u=upd (ax M u) i x:=by
 induction u generalizing M with
 |nil=>rfl
 |cons y u j=>
  obtain⟨id,ob⟩:=y;simp only[ax];rw[zcn (h (id,ob) (by simp)),j (λz hz=>h z (ubi _ hz))]
def zcq{u v:List (Nat×Ob)}(h:∀ x∈u,∀ y∈v,x.1≠y.1)(M:aT):ax (ax M u) v=ax (ax M v) u:=by
 induction u generalizing M with
 |nil=>rfl
 |cons x u j=>
  obtain⟨id,ob⟩:=x;simp only[ax];rw[j (λy i z hz=>h y (ubi _ i) z hz),zcr (λy i=>h (id,ob) (by simp) y i)]
def Cn{e f:Ef}(h:jI e f=Z):(∀ t,e.dst=U t->t ∉ f.rd/\f.dst≠U t)/\(∀ t,f.dst=U t->t ∉ e.rd) /\
  (∀ x∈e.wr,x.1 ∉ f.ks)/\(∀ x∈e.wr,∀ y∈f.wr,x.1≠y.1)/\∀ y∈f.wr,y.1 ∉ e.ks:=by
 unfold jI at h;simp only[uda]at h;obtain⟨⟨⟨q,u⟩,w⟩,C⟩:=h;refine⟨λt i=>?_,λt i=>?_,λx j=>?_,λx j y m=>?_,λy m=>?_⟩;rw[i]at q;simpa using q;rw[i]at u;simpa using u;have:=uc6.1 w x j;simp at this;simpa using this.1;have:=uc6.1 w x j;simp only[uda]at this;have:=uc6.1 this.2 y m;simpa using this;have:=uc6.1 C y m;simpa using this
def qz0(sl:Nat->AV){d e:Option Tmp}{x y:AV}(h:∀ t,d=U t->e≠U t):e8 (e8 sl d x) e y=e8 (e8 sl e y) d x:=by
 funext t;simp only[yV];by_cases i:d=U t<;>by_cases j:e=U t<;>simp_all
def QS{e f:Ef}(h:jI e f=Z)(s:St):f.go (e.go s)=e.go (f.go s):=by
 obtain⟨i,q,u,j,w⟩:=Cn h;unfold Ef.go;simp only[St.mk.injEq,true_and];exact⟨qz0 _ (λt m=>(i t m).2),zcq j _,uT⟩
def P0{ops:List Oper}{e f:Ef}{s:St}(h:jI e f=Z)(q:dY P Γ b ops o (e.go s).sl (e.go s).mem=U f):dY P Γ b ops o s.sl s.mem=U f:=by
 obtain⟨j,F,m,H,N⟩:=Cn h;refine P2 q (λt w=>?_) (λk u=>?_);simp only[Ef.go,yV];rw[if_neg (λi=>(j t i).1 w)];simp only[Ef.go];exact(Wt (λx C i=>m x C (i ▸ u)) _).symm
def P1{ops:List Oper}{e f:Ef}{s:St}(h:jI e f=Z)(q:dY P Γ b ops o s.sl s.mem=U e):dY P Γ b ops o (f.go s).sl (f.go s).mem=U e:=by
 obtain⟨F,j,H,N,m⟩:=Cn h;refine P2 q (λt w=>?_) (λk u=>?_);simp only[Ef.go,yV];rw[if_neg (λi=>j t i w)];simp only[Ef.go];exact Wt (λx C i=>m x C (i ▸ u)) _
end
section
variable {P:Program} {w w':World} {E:Env} {F F':Nat->Prop} {b:Nat} {γ γ' γ0:Nat->Value} {Γ:Gm} {ops:Array Oper} {es:List Ef}
structure StatOK (n:Nat) (ops:Array Oper):Prop where
 lt:∀ (i:Nat) (o:Oper) (t:Nat),ops[i]?= some o->o.dst=some t->t<n
 once:∀ (i j:Nat) (o o':Oper) (t:Nat),ops[i]?= some o->ops[j]?= some o'->o.dst=some t->o'.dst=some t->i=j
 guard:∀ (i:Nat) (o:Oper) (j:Nat) (want:Bool),ops[i]?= some o->o.guard=some (j,want)->j<i/\∃ e∈o.after,e.on=j/\Region.binds .any e=true
 back:∀ (i:Nat) (o:Oper),ops[i]?= some o->∀ e∈o.after,Region.binds .any e=true->e.on<i
def Vz:(l:List Oper)->(k:Nat)->(W:List Tmp)->pM n k W l=Z->∀ (i:Nat) (o:Oper),l[i]?= U o ->
  (∀ t,o.dst=U t->t<n/\t ∉ W/\∀ (u:Nat) (H:Oper),u<i->l[u]?= U H->H.dst≠U t) /\
  (∀ j m,o.guard=U (j,m)->j<k+i/\∃ e∈o.after,e.on=j/\Region.binds .any e=Z) /\
  (∀ e∈o.after,Region.binds .any e=Z->e.on<k+i)
 |[],_,_,_,i,o,h=>by simp at h
 |x::r,k,W,Q,i,o,h=>by
  simp only[pM,uda]at Q;obtain⟨⟨⟨F,N⟩,h3⟩,h4⟩:=Q;cases i with
  |zero=>
   simp at h;subst h;refine⟨λt P=>?_,λj m hg=>?_,λe w hb=>?_⟩;rw[P]at F;simp at F;exact⟨F.1,F.2,λu _ C=>absurd C (Nat.not_lt_zero _)⟩;rw[hg]at N;simp only[uda,uct,List.any_eq_true,ufe]at N;obtain⟨a,e,w,hb⟩:=N;exact⟨a,e,ubg.1 w,hb⟩;have:=uc6.1 h3 e (ubg.2 w);rw[hb]at this;simpa using this
  |succ i=>
   obtain⟨S,g2,g3⟩:=Vz r (k+1) _ h4 i o h;refine⟨λt P=>?_,λj m hg=>?_,λe w hb=>?_⟩;obtain⟨a,b,c⟩:=S t P;refine⟨a,λO=>b (ua6 _ O),λu H C q=>?_⟩;cases u with
   |zero=>
    simp at q;subst q;intro O;exact b (ubj _ (by simp[O]))
   |succ u=>
    exact c u H (by omega) q
   obtain⟨a,b⟩:=g2 j m hg;exact⟨by omega,b⟩;have:=g3 e w hb;omega
def DH(h:pM n 0 [] ops.toList=Z):StatOK n ops:=by
 have w:=Vz ops.toList 0 [] h;have m:∀ (i:Nat) (o:Oper),ops[i]?= U o->ops.toList[i]?= U o:=λi o q=>by simpa using q
 refine⟨λi o t q H=>((w i o (m i o q)).1 t H).1,λi j o N t q u H C=>?_,λi o j F q hg=>?_,λi o q e S hb=>?_⟩;rcases ucs i j with Q|O|P
 exact absurd H (((w j N (m j N u)).1 t C).2.2 i o Q (m i o q));exact O;exact absurd C (((w i o (m i o q)).1 t H).2.2 j N P (m j N u));have:=(w i o (m i o q)).2.1 j F hg;exact⟨by omega,this.2⟩;have:=(w i o (m i o q)).2.2 e S hb;omega
def fh(P:Program)(Γ:Gm)(b:Nat)(ops:Array Oper)(es:List Ef)(j:St):List Nat->St->Prop
 |[],s=>s=j
 |i::r,s=>∃ o e,ops[i]?= U o/\es[i]?= U e/\dY P Γ b ops.toList o s.sl s.mem=U e/\fh P Γ b ops es j r (e.go s)
def UW{u:St}:(l:List Oper)->(k:Nat)->(s:St)->(fs:List Ef)->pE P Γ b ops.toList l s=U (fs,u)->(∀ i o,l[i]?= U o->ops[k+i]?= U o) ->
  (∀ i e,fs[i]?= U e->es[k+i]?= U e)->fh P Γ b ops es u (List.range' k l.length) s
 |[],k,s,fs,h,_,_=>by
  simp only[pE,uck,ued]at h;exact h.2
 |o::r,k,s,fs,h,t,q=>by
  simp only[pE]at h;split at h<;>try trivial
  rename_i e j;split at h<;>try trivial
  rename_i m s2 C;cases h;refine⟨o,e,by simpa using t 0 o rfl,by simpa using q 0 e rfl,j,?_⟩;refine UW r (k+1) _ m C (λi F hi=>?_) (λi w hi=>?_);have:=t (i+1) F (by simpa using hi)
  rwa [show k+1+i=k+(i+1) by omega]
  have:=q (i+1) w (by simpa using hi)
  rwa [show k+1+i=k+(i+1) by omega]
def yq:{l:List Nat}->l.Pairwise (· < ·)->l.Nodup
 |[],_=>List.Pairwise.nil
 |x::r,h=>by
  obtain⟨i,j⟩:=ub9.1 h;exact ub9.2 ⟨λy m=>Nat.ne_of_lt (i y m),yq j⟩
def QJ{s':St}:(q:List Nat)->(s:St)->fh P Γ b ops es s' q s->q.Pairwise (· < ·)->j∈q ->
  (∀ i∈q,i<j->∀ e f,es[i]?= U e->es[j]?= U f->jI e f=Z) ->
  ∃ o f,ops[j]?= U o/\es[j]?= U f/\dY P Γ b ops.toList o s.sl s.mem=U f/\fh P Γ b ops es s' (q.erase j) (f.go s)
 |[],_,_,_,N,_=>by simp at N
 |i::r,s,hr,hp,N,hi=>by
  obtain⟨o,e,ho,H,t,F⟩:=hr;by_cases u:i=j;subst u;refine⟨o,e,ho,H,t,?_⟩;rw[ubk];exact F
  ·have C:j∈r:=by
    rcases uef.1 N with h|h
    exact absurd h.symm u;exact h
   have Q:=(ub9.1 hp).1 j C;obtain⟨oj,f,S,w,hf,W⟩:=QJ r (e.go s) F (ub9.1 hp).2 C (λk hk O=>hi k (ubi _ hk) O);have m:=hi i (by simp) Q e f H w;refine⟨oj,f,S,w,P0 m hf,?_⟩;rw[List.erase_cons_tail (by simpa using u)];refine⟨o,e,ho,H,P1 m t,?_⟩;rw[<- QS m];exact W
def nU(P:Program)(E:Env)(Γ:Gm)(b:Nat)(ops:Array Oper)(es:List Ef)(m:St)(i:List Nat)(a:Act)(w:World):Prop:=
 ∃ j W F γ,InvG P E j a w W F γ/\(∀ t,t∈W↔∃ k o,ops[k]?= U o/\k ∉ i/\o.dst=U t)/\fh P Γ b ops es m i j/\j.n=m.n
def Uv(hΓ:kN P Γ){s':St}{m:List Nat}{a:Act}(hi:nU P E Γ b ops es s' m a w)(hj:j∈m)(hp:m.Pairwise (· < ·))(H:∀ i∈m,i<j->∀ e f,es[i]?= U e->es[j]?= U f->jI e f=Z)(N:∀ o j' u,ops[j]?= U o->o.guard=U (j',u)->j' ∉ m)(hst:StatOK s'.n ops)(S:∀ e∈es,av e.need)(K:Act->World->Prop)(Q:Exit->Act->World->Prop)(hK:∀ a' w',nU P E Γ b ops es s' (m.erase j) a' w'->K a' w'):wpOp P ops Q j K a w:=by
 obtain⟨st,W,F,γ,hinv,hW,hruns,hn⟩:=hi;obtain⟨o,f,ho,hf,heff,hr⟩:=QJ m st hruns hp hj H;have hnd:=yq hp;unfold wpOp;rw[ho];simp only;have key:=JQ hΓ hinv heff (S f (ubf hf)) (λx hx=>⟨by rw[hn];exact hst.lt j o x ho hx,λhxW=>by
   obtain⟨k,ok,hok,hk,hd⟩:=(hW x).1 hxW;have:=hst.once j k o ok x ho hok hx hd;subst this;exact hk hj⟩)
  (λj' u g hg hd=>by
   have C:=N o j' u ho hg;cases ho':ops[j']? with
   |none=>rw[ho']at hd;cases hd
   |some o'=>
    rw[ho']at hd;exact(hW g).2 ⟨j',o',ho',C,hd⟩)
  K Q (λa' w' F' γ' O=>hK a' w' ⟨f.go st,_,F',γ',O,λt=>?_,hr,hn⟩)
 split;rename_i hw;rw[if_pos hw]at key;exact .inl key;rename_i hw;rw[if_neg hw]at key;exact key;have q:∀ k,k ∉ m.erase j↔k=j\/k ∉ m:=λk=>by
  rw[hnd.mem_erase_iff];constructor;intro h;by_cases hk:k=j;exact .inl hk;exact .inr λh'=>h ⟨hk,h'⟩;rintro(h|h) ⟨C,h2⟩;exact C h;exact h h2
 rw[udp,hW];constructor;rintro(h|⟨k,ok,C,h2,h3⟩);exact⟨j,o,ho,(q j).2 (.inl rfl),by simpa using h⟩;exact⟨k,ok,C,(q k).2 (.inr h2),h3⟩;rintro⟨k,ok,C,h2,h3⟩;rcases(q k).1 h2 with rfl|h
 rw[ho]at C;cases C;exact .inl (by simp[h3]);exact .inr ⟨k,ok,C,h,h3⟩
def TS{l:List Nat}(h:l.Pairwise (· < ·))(j:Nat):(l.erase j).Pairwise (· < ·):=h.sublist List.erase_sublist
def Uw(u:kN P Γ){F:St}(q:StatOK F.n ops)(j:∀ e∈es,av e.need)(Q:Exit->Act->World->Prop)(N:∀ a w,nU P E Γ b ops es F [] a w->Q .normal a w):
  (m k:Nat)->∀ (a:Act) (w:World),nU P E Γ b ops es F (List.range' k m) a w->wpOps P ops Q (List.range' k m) a w
 |0,k,a,w,h=>N a w h
 |m+1,k,a,w,h=>by
  rw[udc]at h;have hp:(k::List.range' (k+1) m).Pairwise (· < ·):=by
   rw[<- udc];exact uaw
  refine Uv u h (by simp) hp (λi hi S=>?_) (λo j' C W hg t=>?_) q j _ Q (λO w' H=>?_);rw[<- udc,ucv]at hi;omega;have:=(q.guard k o j' C W hg).1;rw[<- udc,ucv]at t;omega;rw[ubk]at H;exact Uw u q j Q N m (k+1) O w' H
def JA:(l:List Oper)->(j:List Nat)->(∀ i,i<j.length->(fW j l)[i]?= j[i]?) /\
  ∀ i o,l[i]?= U o->∃ m,(fW j l)[j.length+i]?= U m/\∀ b,m.testBit b=Z->∃ e∈o.after,Region.binds .any e=Z/\(b=e.on\/((fW j l).getD e.on 0).testBit b=Z)
 |[],j=>⟨λi hi=>rfl,λi o h=>by simp at h⟩
 |x::r,j=>by
  simp only[fW];generalize hm:x.after.toList.foldr (λe s=>if Region.binds .any e then 2 ^ e.on ||| j.getD e.on 0 ||| s else s) 0=m;obtain⟨O,Q⟩:=JA r (j++[m]);have q:∀ i,i<j.length->(fW (j++[m]) r)[i]?= j[i]? := λi hi=>by
   rw[O i (by simp;omega),uaj hi]
  refine⟨q,λi o N=>?_⟩;cases i with
  |zero=>
   simp at N;subst N;refine⟨m,by rw[uev,O j.length (by simp)];simp,λb hb=>?_⟩;have u:∀ (l:List Edge) , (∀ e∈l,e∈x.after)->(l.foldr (λe s=>if Region.binds .any e then 2 ^ e.on ||| j.getD e.on 0 ||| s else s) 0).testBit b=Z ->
     ∃ e∈x.after,Region.binds .any e=Z/\(b=e.on\/((fW (j++[m]) r).getD e.on 0).testBit b=Z):=by
    intro l
    induction l with
    |nil=>intro _ h;simp at h
    |cons e l P=>
     intro C h;simp only[List.foldr_cons]at h;split at h;rename_i w;simp only[Nat.testBit_or,Nat.testBit_two_pow,udq,uct]at h;rcases h with (h|h)|h
     exact⟨e,C e (by simp),w,.inl h.symm⟩;refine⟨e,C e (by simp),w,.inr ?_⟩;by_cases H:e.on<j.length;rw[uah,q _ H,<- uah];exact h;rw[uah,ua4 (by omega)]at h;simp at h;exact P (λF t=>C F (ubi _ t)) h;exact P (λF t=>C F (ubi _ t)) h
   exact u x.after.toList (λe he=>ubg.1 he) (by rw[hm];exact hb)
  |succ i=>
   obtain⟨m',S,W⟩:=Q i o N;refine⟨m',?_,W⟩;rw[ub5,ua7]at S
   rwa [show j.length+(i+1)=j.length+1+i by omega]
def TR{k j:Nat}{f:Ef}:(l:List Ef)->(i0:Nat)->CX k j f i0 l=Z->∀ i e,l[i]?= U e->i0+i<k->j.testBit (i0+i)=Z\/jI e f=Z
 |[],_,_,i,e,h,_=>by simp at h
 |x::r,i0,m,i,e,h,q=>by
  simp only[CX]at m;rw[if_pos (by omega)]at m;simp at m;cases i with
  |zero=>
   simp at h;subst h;exact m.1
  |succ i=>
   have:=TR r (i0+1) m.2 i e h (by omega)
   rwa [show i0+(i+1)=i0+1+i by omega]
def TA(h:r9 ops.toList es=Z){e f:Ef}(hi:es[i]?= U e)(t:es[j]?= U f)(u:i<j):
  ((fW [] ops.toList).getD j 0).testBit i=Z\/jI e f=true:=by
 unfold r9 at h;have:=uc6.1 h j (ud6.2 (uak.1 t).1);rw[t]at this;cases q:(fW [] ops.toList)[j]? with
 |none=>rw[q]at this;cases this
 |some m=>
  rw[q]at this;have:=TR es 0 this i e hi (by omega);rw[uah,q];simpa using this
def Uu(hΓ:kN P Γ){s':St}(hst:StatOK s'.n ops)(hneed:∀ e∈es,av e.need)(hord:r9 ops.toList es=Z)(Q:Exit->Act->World->Prop)(hQ:∀ a w,nU P E Γ b ops es s' [] a w->Q .normal a w):
  (u:Nat)->∀ (H:List Nat) (q:Array Bool) (a:Act) (w:World),H.length<=u->H.Pairwise (· < ·)->q.size=ops.size->(∀ i,i<ops.size->(q.getD i Z=Y↔i∈H))->(∀ i∈H,i<ops.size) ->
   (∀ k,k<ops.size->k ∉ H->∀ i,((fW [] ops.toList).getD k 0).testBit i=Z->i ∉ H)->nU P E Γ b ops es s' H a w->wpAny P .any ops Q u q a w
 |u,[],q,a,w,_,_,hsz,hl,_,_,hi=>by
  have N:Region.ready .any ops q=[]:=by
   apply List.eq_nil_iff_forall_not_mem.2;intro i t;obtain⟨h1,o,ho,_⟩:=ufk.1 t;have hlt:=(uaf.1 ho).1;simpa using (hl i hlt).1 h1
  cases u with
  |zero=>exact⟨N,hQ a w hi⟩
  |succ u=>exact⟨λ_=>hQ a w hi,λi t=>by rw[N]at t;simp at t⟩
 |0,i::r,_,_,_,hlen,_,_,_,_,_,_=>by simp at hlen
 |u+1,i::r,q,a,w,hlen,hp,hsz,hl,hlt,hmask,hi=>by
  have O:i∈Region.ready .any ops q:=by
   have hio:=hlt i (by simp);refine ufk.2 ⟨(hl i hio).2 (by simp),ops[i],by simp,λe he hb=>?_⟩;have hback:=hst.back i ops[i] (by simp) e he hb;have hnot:e.on ∉ i::r:=λhh=>by
    rcases uef.1 hh with h|h
    omega;have:=(ub9.1 hp).1 _ h;omega
   have h1:=λh=>hnot ((hl e.on (by omega)).1 h);have hsz':e.on<q.size:=by omega
   simp only[uac,uam hsz']at h1 |-;simpa using h1
  refine⟨λN=>by rw[N]at O;simp at O,λj hj=>?_⟩;obtain⟨hj1,o,ho,S⟩:=ufk.1 hj;have hjlt:=(uaf.1 ho).1;have W:=(hl j hjlt).1 hj1;have F:∀ b,q.getD b Y=Z->b<ops.size/\b ∉ i::r:=λb hb=>by
   have hbs:b<q.size:=by
    rcases uem b q.size with h|h
    exact h;simp[ua1 h]at hb
   refine⟨by omega,λt=>?_⟩;have:=(hl b (by omega)).2 t;simp only[uac,uam hbs,udb]at hb this;rw[hb]at this;cases this
  obtain⟨m,hm1,hm2⟩:=(JA ops.toList []).2 j o (by simpa using ho);simp at hm1;have hmj:∀ b,((fW [] ops.toList).getD j 0).testBit b=Z->b ∉ i::r:=λb hb=>by
   rw[uah,hm1]at hb;obtain⟨e,he,hb',hor⟩:=hm2 b hb;obtain⟨h1,h2⟩:=F e.on (S e he hb');rcases hor with rfl|h
   exact h2;exact hmask e.on h1 h2 b h
  have hnd:=yq hp;refine Uv hΓ hi W hp (λk hk C e f he hf=>?_) (λo' j' want ho' hg t=>?_) hst hneed _ Q (λa' w' h'=>?_);exact(TA hord he hf C).resolve_left λh=>hmj k h hk;obtain⟨_,e,he,heq,hb⟩:=hst.guard j o' j' want ho' hg;rw[ho]at ho';cases ho';have:=(F e.on (S e he hb)).2;rw[heq]at this;exact this t;refine Uu hΓ hst hneed hord Q hQ u _ (q.setIfInBounds j Z) a' w' ?_ (TS hp j) (by simpa using hsz) (λk hk=>?_) (λk hk=>hlt k (ua8 hk)) (λk hk hkr b hb=>?_) h';rw[List.length_erase_of_mem W];omega;rw[hnd.mem_erase_iff];by_cases C:j=k;subst C;simp[hsz];simp only[uac,uaa C];rw[<- uac,hl k hk];constructor;exact λh=>⟨Ne.symm C,h⟩;exact λh=>h.2;rw[hnd.mem_erase_iff]at hkr |-;rintro⟨h1,h2⟩;by_cases C:k=j;subst C;exact hmj b hb h2;exact hmask k hk (λhh=>hkr ⟨C,hh⟩) b hb h2
end
section
variable {P:Program} {w w':World} {E:Env} {F F':Nat->Prop} {bs:Nat} {γ γ' γ0:Nat->Value} {Γ:Gm} {es:List Ef} {R:Nat->Value->Prop}
def I(P:Program)(E:Env)(s:St)(a:Act)(w:World):Prop:=∃ F γ,InvG P E s a w [] F γ
def RQ{q:St}{a:Act}{W:List Tmp}(h:InvG P E q a w W F γ):InvG P E q a { w with drawn:=w.drawn+1 } W F γ:=by
 obtain⟨u,C,⟨γ0,i⟩,j,H,N,O⟩:=h;refine⟨u,C,⟨γ0,⟨i.hF,i.hw,i.hR,i.old,i.os,i.tape,i.output,i.size,i.bd,i.new⟩⟩,⟨λid o m=>?_,j.apart⟩,λt=>?_,N,λt=>aE.mono (w:=w) (w':={ w with drawn:=w.drawn+1 }) (λ_ h=>h) (λ_ _=>rfl) (λ_ _ h=>h) _ (O t)⟩;refine(j.ob id o m).keep (λ_ h=>h) (λ_ _=>rfl) (λ_ _ h=>h) (λb hb=>⟨rfl,?_⟩);exact(gZ (j.ob id o m) hb).2.1;exact dP.mono (w:=w) (λ_ h=>h) (λ_ _=>rfl) (λ_ _ h=>h) (H t)
def oV{m:St}{a:Act}{W:List Tmp}(h:InvG P E m a w W F γ):InvG P E (fk m) a w [] F γ:=by
 obtain⟨u,C,H,N,O,h6,Q⟩:=h;refine⟨u,C,H,N,λt=>?_,λt g j v S=>?_,Q⟩;have:=O t;show dP P w F _ _ (iF m.sl t) _;unfold iF;split;trivial;exact this;exfalso;have i:iF m.sl t=.maybe g j v:=S;unfold iF at i;split at i;cases i;rename_i q;exact q _ _ _ i
def UO{ops:List Oper}{j:St}:(l:List Oper)->(s:St)->(fs:List Ef)->pE P Γ bs ops l s=U (fs,j)->j.n=s.n
 |[],s,fs,h=>by
  simp only[pE,uck,ued]at h;rw[h.2]
 |o::r,s,fs,h=>by
  simp only[pE]at h;split at h<;>try trivial
  split at h<;>try trivial
  rename_i i s2 m;cases h;have:=UO r _ i m;exact this
def Tr.sat(Q:XE->St->Prop):Tr->Prop
 |.leaf e s=>Q e s
 |.br b x y=>(b=Z->x.sat Q)/\(b=Y->y.sat Q)
 |.need p x=>p/\x.sat Q
 |.two p x y=>(p->x.sat Q)/\y.sat Q
def wo{Q i:XE->St->Prop}(h:∀ e s,Q e s->i e s):{t:Tr}->t.sat Q->t.sat i
 |.leaf _ _,hq=>h _ _ hq
 |.br _ _ _,hq=>⟨λhb=>wo h (hq.1 hb),λhb=>wo h (hq.2 hb)⟩
 |.need _ _,hq=>⟨hq.1,wo h hq.2⟩
 |.two _ _ _,hq=>⟨λhb=>wo h (hq.1 hb),wo h hq.2⟩
def jm{Q:XE->St->Prop}{t:Tr}:(i:List Prop)->(needL i t).sat Q->av i/\t.sat Q
 |[],h=>⟨uT,h⟩
 |p::i,h=>by
  have j:=h;obtain⟨m,q⟩:=jm i j.2;exact⟨je.2 ⟨j.1,m⟩,q⟩
def JI{Q:XE->St->Prop}{t:Tr}:(es:List Ef)->(JH es t).sat Q->(∀ e∈es,av e.need)/\t.sat Q
 |[],h=>⟨λ_ u=>by simp at u,h⟩
 |e::es,h=>by
  have j:=jm _ h;obtain⟨m,q⟩:=JI es j.2;exact⟨λx i=>by
   rcases uef.1 i with rfl|i
   exact j.1;exact m x i,q⟩
def XE.ex:XE->Exit
 |.normal=>.normal
 |.exit id=>.exit id
 |.ret=>.ret
 |.panic p=>.panic [{ v:=p.val,recovered:=Y }]
 |.val _=>.goto 0
 |.jump l=>.goto l
def eq(P:Program)(E:Env)(Q:XE->St->Prop)(e:Exit)(a:Act)(w:World):Prop:=∃ x s,x.ex=e/\I P E s a w/\Q x s
def Fb(P:Program)(E:Env)(a:Act)(Q:XE->St->Prop)(e:Ending)(w':World):Prop:=
 ∃ x i F' γ',Q x i/\InvG P E i a w' [] F' γ'/\match x with
  |.val v=>∃ u,e=.returned u/\aE P w' F' (ap i.mem γ') v u
  |.panic p=>e=.panicked [{ v:=p.val,recovered:=Y }]
  |_=>False
def gQ(P:Program)(K:Nat->FuncId->List AV->St->Option Tr):Prop:=
 ∀ d f args s t,K d f args s=U t->(∀ args w,(callFunc f args).run P w=.ok (.enter f args) w) /\
  ∀ (E:Env) (a:Act) (w:World) (F:Nat->Prop) (γ:Nat->Value) (vs:List Value) (Q:XE->St->Prop),InvG P E s a w [] F γ->bj P w F (ap s.mem γ) args vs->t.sat Q->Calls P f vs.toArray w (Fb P E a Q)
structure CxOK (P:Program) (C:Cx):Prop where
 mo:P.follows .mixedOrders=true
 ct:kN P C.Γ
 pc:∀ f pc,C.Pi f=some pc->jz P f pc
 kk:gQ P C.K
def InvG.weaken{j:St}{a:Act}(h:InvG P E j a w [] F γ)(W:List Tmp):InvG P E j a w W F γ:=
 ⟨h.n,h.df,h.step,h.mem,h.sl,λt g i v m=>absurd (h.hg t g i v m) (by simp),h.gh⟩
def rW{j:Tmp->Value}:{xs:List AV} -> {vs:List Value}->nV P w F R j xs vs->xs.all fX=Z->bj P w F R xs vs
 |[],[],_,_=>trivial
 |x::xs,v::vs,h,i=>by
  simp only[ueg,uda]at i;exact⟨h.1.plain i.1,rW h.2 i.2⟩
def OA{i:List AC}(m:arr.size=i.length)(t:aN P w F R i (λj u=>arr[j]?= U u)):bj P w F R (i.map .c) arr.toList:=by
 have:∀ (i:List AC) (l:List Value),l.length=i.length->aN P w F R i (λj u=>l[j]?= U u)->bj P w F R (i.map .c) l:=by
  intro i
  induction i with
  |nil=>
   intro l q _;cases l with
   |nil=>trivial
   |cons _ _=>simp at q
  |cons c r N=>
   intro l q h;cases l with
   |nil=>simp at q
   |cons v l=>
    obtain⟨⟨u,m,t,C⟩,H⟩:=h;simp at m;subst m;exact⟨⟨t,C⟩,N l (by simpa using q) (by simpa using H)⟩
 exact this i arr.toList (by simpa using m) (by simpa using t)
def Dz:{xs i:List AV} -> {vs us:List Value}->bj P w F R xs vs->bj P w F R i us->bj P w F R (xs++i) (vs++us)
 |[],_,[],_,_,h=>h
 |_::_,_,_::_,_,h,k=>⟨h.1,Dz h.2 k⟩
def Ko{i:Tmp->Value}:{x:AV} -> {u:Value}->aE P w F R x u->dP P w F R i x u
 |.dead,_,h=>h
 |.c _,_,h=>h
 |.agg _,_,h=>h
 |.tup _,_,h=>h
 |.optr _ _ _ _,_,h=>h
 |.aptr _ _ _,_,h=>h
 |.maybe _ _ _,_,h=>h.elim
def Tr.sat.turn{Q i:XE->St->Prop}{t:Tr}(h:t.sat Q)(hq:∀ e s,Q e s->i e s):t.sat i:=wo hq h
def JJ{A:Option Addr}(i:P.underlying t=U (.slice el)):(Op.equalIn (d+1) t (.slice A n c) (.slice V 0 0)).run P w=.ok A.isNone w:=by
 cases A<;>simp[Op.equalIn,ud2 i]
def qt8{A:Option Addr}(q:P.underlying t=U (.slice el))(x y:Operand):
  (do eqGuard .eql t x y (.slice A n c) (.slice V 0 0);binOp .eql t (.slice A n c) (.slice V 0 0):Sem Value).run P w=.ok (.bool A.isNone) w:=by
 have i:binOp .eql t (.slice A n c) (.slice V 0 0)=(do pure (.bool (<- Op.equal t (.slice A n c) (.slice V 0 0)))):=rfl;have j:Op.equal t (.slice A n c) (.slice V 0 0)=Op.equalIn (9999+1) t (.slice A n c) (.slice V 0 0):=rfl;have m:=JJ (w:=w) (A:=A) (n:=n) (c:=c) (d:=9999) q;rw[i,j];simp[eqGuard,m]
def C7 {C:Cx} (hC:CxOK P C) {W:St} {a:Act} {t:Tr} {args:List AV} (O:InvG P E (fk W) a w [] F γ) (h:C.K d f args (fk W)=U t) (q:bj P w F (ap W.mem γ) args vs) (K:Act->World->Prop) (Q:Exit->Act->World->Prop)
  (H:(∀ args w,(callFunc f args).run P w=.ok (.enter f args) w)->(execOp a.eval o).run P w=.ok (.enter f vs.toArray) w)
  (hq:t.sat λx N=>match x with
   |.val v=>∀ u w' F' γ',InvG P E N a w' [] F' γ'->aE P w' F' (ap N.mem γ') v u->K (a.put o.dst u) w'
   |.panic p=>∀ w',I P E N a w'->Q (.panic [{ v:=p.val,recovered:=Y }]) a w'
   |_=>True):o.wp P a w K Q:=by
 obtain⟨S,j⟩:=hC.kk _ _ _ _ _ h;have hc:=j E a w F γ _ _ O q hq;unfold Oper.wp;rw[H S];refine hc.mono λe w2 hp=>?_;obtain⟨x,N,F',γ',hx,m,i⟩:=hp;cases x with
 |val v=>
  obtain⟨u,rfl,hu⟩:=i;exact hx u w2 F' γ' m hu
 |panic p=>
  have he:e=.panicked [{ v:=p.val,recovered:=Y }]:=i;subst he;exact hx w2 ⟨F',γ',m⟩
 |normal=>exact i.elim
 |exit _=>exact i.elim
 |ret=>exact i.elim
 |jump _=>exact i.elim
def RR{a:Act}{m:Operand}{j:String}{i:Array Operand}{ts:Array TypeId}{q:Value}(F:o.op=.call ⟨.invoke m j,i,ts⟩)(H:a.eval m=.iface ty q)(C:(callMethod (.iface ty q) j (i.map a.eval)).run P w=(callFunc f (#[u]++i.map a.eval)).run P w)(t:∀ args w,(callFunc f args).run P w=.ok (.enter f args) w):(execOp a.eval o).run P w=.ok (.enter f (u::(i.map a.eval).toList).toArray) w:=by
 unfold execOp;rw[F];simp only[resolve,uep,uer,ucl,invoke,H];have N:(#[Value.iface ty q]++Array.map a.eval i)[0]?= U (.iface ty q):=by simp[Array.getElem?_append]
 have O:(Array.map a.eval i).extract 0 i.size=Array.map a.eval i:=by
  have:i.size=(Array.map a.eval i).size:=by simp
  rw[this];exact Array.extract_size
 rw[N];have Q:(#[Value.iface ty q]++Array.map a.eval i).extract 1 (#[Value.iface ty q]++Array.map a.eval i).size=Array.map a.eval i:=by simp[O]
 simp only[Q];rw[C,t];simp
def Vp {C:Cx} (hC:CxOK P C) {st:St} {a:Act} {W:List Tmp} {t:Tr} (hi:InvG P E st a w W F γ) (h:ze P C b o st=U t) (K:Act->World->Prop) (Q:Exit->Act->World->Prop)
  (hq:t.sat λx s'=>match x with
   |.val v=>∀ u w' F' γ',InvG P E s' a w' [] F' γ'->aE P w' F' (ap s'.mem γ') v u->K (a.put o.dst u) w'
   |.panic p=>∀ w',I P E s' a w'->Q (.panic [{ v:=p.val,recovered:=Y }]) a w'
   |_=>True):o.guard=V/\o.wp P a w K Q:=by
 have hcl:=oV hi;unfold ze at h;split at h<;>try trivial
 rotate_left
 rename_i f0 i ts f id args hg ho hvs;refine⟨hg,?_⟩;split at h<;>try trivial
 rename_i j;have q:=oH hi.sl o.op.operands.toList;rw[hvs]at q;have N:o.op.operands.toList.map a.eval=a.eval f0::(i.map a.eval).toList:=by simp[ho,Op.operands,Call.operands]
 rw[N]at q;obtain⟨⟨_,b',e1,e2⟩,m⟩:=q;refine C7 hC hcl h (vs:=.pointer (U ⟨b',0,V⟩)::(i.map a.eval).toList) ⟨⟨rfl,b',e1,rfl⟩,rW m j⟩ K Q (λH=>?_) hq;unfold execOp;rw[ho];simp[resolve,e2,Deferred.ofValue,invoke,H];rename_i recv name i ts ty id args hg ho hvs;refine⟨hg,?_⟩;have q:=oH hi.sl o.op.operands.toList;rw[hvs]at q;have N:o.op.operands.toList.map a.eval=a.eval recv::(i.map a.eval).toList:=by simp[ho,Op.operands,Call.operands]
 rw[N]at q;obtain⟨⟨_,b',e1,e2⟩,m⟩:=q;split at h<;>try trivial
 rename_i f S;split at h<;>try trivial
 rename_i ety r hid;split at h<;>try trivial
 rename_i j;obtain⟨b2,arr,q1,q2,q3,q4,q5,q6,q7⟩:=lw (off:=0) hi.mem hid ⟨b',e1,rfl⟩;cases q2;obtain⟨u,z1,z2,z3⟩:=q7.1;have hcell:w.cell? ⟨b',0,V⟩=U u:=by rw[tG q3];exact z1
 exact C7 hC hcl h (vs:=u::(i.map a.eval).toList) ⟨⟨z2,z3⟩,rW m j⟩ K Q (λH=>RR ho e2 ((UU S _ _).2 rfl u hcell) H) hq;rename_i f S;split at h<;>try trivial
 rename_i j;exact C7 hC hcl h (vs:=.pointer (U ⟨b',0,V⟩)::(i.map a.eval).toList) ⟨⟨rfl,b',e1,rfl⟩,rW m j⟩ K Q (λH=>RR ho e2 ((UU S _ _).1 rfl) H) hq
 ·rename_i t0 x0 y0 yt T l hg ho hvs;split at h<;>try (simp at h;done)
  rename_i el hu;simp at h;subst h;refine⟨hg,?_⟩;have q:=oH hi.sl o.op.operands.toList;rw[hvs]at q;have N:o.op.operands.toList.map a.eval=[a.eval x0,a.eval y0]:=by simp[ho,Op.operands]
  rw[N]at q;obtain⟨⟨_,A,c,e1,e2,e3,e4⟩,⟨_,e5⟩,_⟩:=q;have e1':=e1.symm;have e5':=e5;have hrun:(execOp a.eval o).run P w=.ok (.value (.bool A.isNone)) w:=by
   refine cL (by unfold execOp;rw[ho]) ?_;rw[e1',e5'];exact qt8 hu x0 y0
  unfold Oper.wp;rw[hrun];cases A with
  |none=>
   have hl:l=[]:=by
    cases l with
    |nil=>rfl
    |cons x r=>obtain⟨ad,h,_⟩:=e4 0 x rfl;cases h
   exact hq.1 hl _ w F γ hcl ⟨rfl,rfl⟩
  |some ad=>exact hq.2 _ w F γ hcl ⟨rfl,rfl⟩
 rename_i f0 i ts f caps args hg ho hvs;refine⟨hg,?_⟩;have q:=oH hi.sl o.op.operands.toList;rw[hvs]at q;have N:o.op.operands.toList.map a.eval=a.eval f0::(i.map a.eval).toList:=by simp[ho,Op.operands,Call.operands]
 rw[N]at q;obtain⟨⟨_,hfv⟩,m⟩:=q;obtain⟨cv,e1,e2,e3⟩:=hfv;have hcaps:=OA e2 e3;have hrun:(∀ args w,(callFunc f args).run P w=.ok (.enter f args) w)->(execOp a.eval o).run P w=.ok (.enter f (i.map a.eval++cv)) w:=λH=>by
  unfold execOp;rw[ho];simp[resolve,e1,Deferred.ofValue,invoke,H]
 have du:((i.map a.eval).toList++cv.toList).toArray=i.map a.eval++cv:=by simp
 split at h;rename_i pc hpc;split at h<;>try trivial
 rename_i xs u hrs;split at h<;>try trivial
 rename_i x n hdec;cases h;obtain⟨hn,hq⟩:=jm _ hq;obtain⟨hn1,hn2⟩:=jd.1 hn;have j:(args++caps.map AV.c).all fX=true:=by
  have:∀ (l:List AV) (u:List Value),(∃ xs u',dK st.mem l=U (xs,u'))->l.all fX=true:=by
   intro l
   induction l with
   |nil=>intros;rfl
   |cons y l ih=>
    rintro us ⟨xs,u',hx⟩;simp only[dK]at hx;split at hx<;>try trivial
    rename_i h1 h2;simp only[ueg,uda];refine⟨?_,ih [] ⟨_,_,h2⟩⟩;cases y<;>first|rfl|(simp[pD]at h1)
  exact this _ [] ⟨_,_,hrs⟩
 have hargs':bj P w F (ap st.mem γ) (args++caps.map AV.c) ((i.map a.eval).toList++cv.toList):=by
  refine Dz (rW m ?_) hcaps;rw[udk,uda]at j;exact j.1
 obtain⟨F1,s1,m1,_,r1⟩:=iy hi.mem (dv hi) (cX.of λ_ _ h=>h) hrs hargs';have hps:=mK hC.ct hdec hn1 r1;obtain⟨H,hcalls⟩:=hC.pc f pc hpc;have hc:=hcalls w F1 x _ s1.bd hps hn2;unfold Oper.wp;rw[hrun H];rw[du]at hc;have hstate:∀ w2 F2,(∀ b,F1 b->F2 b)->(∀ b,F2 b->(F1 b\/w.heap.size<=b)/\b<w2.heap.size)->Below w.heap.size w w2->InvG P E (fk ⟨st.n,st.sl,ax st.mem u,st.gs⟩) a w2 [] F2 γ:=λw2 F2 hF2 hF2' O=>by
  obtain⟨s2,m2⟩:=Step.below m1 (nM hi) s1.bd O hF2 hF2';have s3:=s1.trans s2;refine oV ⟨hi.n,hi.df,?_,m2,λt=>(hi.sl t).mono s3.hF s3.hw s3.hR,hi.hg,λt=>s3.repA (hi.gh t)⟩;obtain⟨γ0,h0⟩:=hi.step;exact⟨γ0,h0.trans s3⟩
 refine hc.mono λe w2 hp=>?_;rcases hp with ⟨hbad,v2,F2,rfl,O,hF2,hF2',hrep⟩|⟨hbad,rfl,O⟩
 exact hq.2 hbad v2 w2 F2 γ (hstate w2 F2 hF2 hF2' O) (tN hrep);exact hq.1 hbad w2 ⟨F1,γ,hstate w2 F1 (λ_ h=>h) (λb hb=>⟨.inl hb,uca (s1.bd b hb) O.size⟩) O⟩
 split at h<;>try trivial
 rename_i j;refine C7 hC hcl h (Dz (rW m j) hcaps) K Q (λH=>?_) hq;rw[du];exact hrun H
def sy{f:AV->St->Option Tr}{Q:XE->St->Prop}:{t i:Tr}->t.bindV f=U i->i.sat Q->t.sat λe s=>match e with
  |.val v=>∃ u,f v s=U u/\u.sat Q
  |.panic p=>Q (.panic p) s
  |_=>False
 |.leaf e s,i,h,hq=>by
  cases e with
  |val v=>exact⟨i,h,hq⟩
  |panic p=>
   simp only[Tr.bindV,uck]at h;subst h;exact hq
  |normal=>simp[Tr.bindV]at h
  |exit _=>simp[Tr.bindV]at h
  |ret=>simp[Tr.bindV]at h
  |jump _=>simp[Tr.bindV]at h
 |.br b x y,i,h,hq=>by
  simp only[Tr.bindV]at h;split at h<;>try trivial
  rename_i q w j m;cases h;exact⟨λhb=>sy j (hq.1 hb),λhb=>sy m (hq.2 hb)⟩
 |.need p x,i,h,hq=>by
  simp only[Tr.bindV]at h;split at h<;>try trivial
  rename_i q j;cases h;exact⟨hq.1,sy j hq.2⟩
 |.two p x y,i,h,hq=>by
  simp only[Tr.bindV]at h;split at h<;>try trivial
  rename_i q w j m;cases h;exact⟨λhb=>sy j (hq.1 hb),sy m hq.2⟩
def JR{C:Cx}(hC:CxOK P C){ops:Array Oper}(H:StatOK n ops){Q:XE->St->Prop}:(l:List Oper)->(k:Nat)->(∀ i o,l[i]?= U o->ops[k+i]?= U o)->∀ (st:St) (a:Act) (w:World) (W:List Tmp) (F:Nat->Prop) (γ:Nat->Value) (t:Tr),
  InvG P E st a w W F γ->st.n=n->(∀ x,x∈W↔∃ i o,i<k/\ops[i]?= U o/\o.dst=U x)->uR P C bs ops.toList l st=U t->t.sat Q->wpOps P ops (eq P E Q) (List.range' k l.length) a w
 |[],k,_,st,a,w,W,F,γ,t,hi,hn,hW,h,hq=>by
  simp only[uR,uck]at h;subst h;exact⟨.normal,_,rfl,⟨F,γ,oV hi⟩,hq⟩
 |o::r,k,hl,st,a,w,W,F,γ,t,hi,hn,hW,h,hq=>by
  have q:ops[k]?= U o:=by simpa using hl 0 o rfl
  have hl':∀ i o,r[i]?= U o->ops[k+1+i]?= U o:=λi o' hi'=>by
   have:=hl (i+1) o' (by simpa using hi')
   rwa [show k+1+i=k+(i+1) by omega]
  have hd:∀ x,o.dst=U x->x<st.n/\x ∉ W:=λx S=>⟨by rw[hn];exact H.lt k o x q S,λhxW=>by
   obtain⟨i,oi,hik,hoi,hdi⟩:=(hW x).1 hxW;have:=H.once k i o oi x q hoi S hdi;omega⟩
  have hW':∀ x,x∈o.dst.toList++W↔∃ i oi,i<k+1/\ops[i]?= U oi/\oi.dst=U x:=λx=>by
   rw[udp,hW];constructor;rintro(h|⟨i,oi,h1,h2,h3⟩);exact⟨k,o,by omega,q,by simpa using h⟩;exact⟨i,oi,by omega,h2,h3⟩;rintro⟨i,oi,h1,h2,h3⟩;by_cases hik:i=k;subst hik;rw[q]at h2;cases h2;exact .inl (by simp[h3]);exact .inr ⟨i,oi,by omega,h2,h3⟩
  rw[uc7,udc,wpOps_cons];unfold wpOp;rw[q];simp only;simp only[uR]at h;split at h;rename_i e he;split at h<;>try trivial
  rename_i t' ht';cases h;obtain⟨hne,hq⟩:=jm _ hq;have key:=JQ hC.ct hi he hne hd (λj want g hg N=>by
   have hj:=(H.guard k o j want q hg).1;cases ho':ops[j]? with
   |none=>rw[ho']at N;cases N
   |some o'=>
    rw[ho']at N;exact(hW g).2 ⟨j,o',hj,ho',N⟩) (wpOps P ops (eq P E Q) (List.range' (k+1) r.length)) (eq P E Q)
   (λa' w' F' γ' m=>JR hC H r (k+1) hl' _ a' w' _ F' γ' t' m hn hW' ht' hq)
  split;rename_i hw;rw[if_pos hw]at key;exact .inl key;rename_i hw;rw[if_neg hw]at key;exact key;split at h<;>try trivial
  rename_i t1 ht1;have hsat:=sy h hq;obtain⟨hg,hwp⟩:=Vp hC hi ht1 (wpOps P ops (eq P E Q) (List.range' (k+1) r.length)) (eq P E Q) (hsat.turn λx s' S=>by
   cases x with
   |val v=>
    obtain⟨u,hu,hqu⟩:=S;intro v2 w2 F2 γ2 m O;have hn2:s'.n=n:=by
     have h1:=m.n;have h2:=hi.n;omega
    have hput:=lJ (wr:=[]) (m.weaken W) (λx S=>⟨by rw[hn2];exact H.lt k o x q S,(hd x S).2⟩) (Step.refl (dv m)) m.mem (Ko O) (λg want y hv=>by
     subst hv;exact O.elim)
    exact JR hC H r (k+1) hl' _ _ w2 _ F2 γ2 u hput hn2 hW' hu hqu
   |panic p=>exact λw2 m=>⟨.panic p,s',rfl,m,S⟩
   |normal=>trivial
   |exit _=>trivial
   |ret=>trivial
   |jump _=>trivial)
  have hw:Region.wanted o (yielded ops a.tmps)=true:=by simp[Region.wanted,hg]
  rw[if_pos hw];exact .inl hwp
def qvd(hΓ:kN P Γ){ops:Array Oper}{m:St}{a:Act}{W:List Tmp}{e:Ef}(hg:o.guard=V)(hi:InvG P E m a w W F γ)(N:dY P Γ bs ops.toList o m.sl m.mem=U e)(hn:av e.need)(hd:∀ x,o.dst=U x->x<m.n/\x ∉ W)(K:Act->World->Prop)(Q:Exit->Act->World->Prop)(hK:∀ u w' F' γ',InvG P E (e.go m) (a.put o.dst u) w' (o.dst.toList++W) F' γ'->K (a.put o.dst u) w'):o.wp P a w K Q:=by
 have C:∀ (ks:List Nat) (i:Nat) (y:Ob),jq ks m.mem i=U y->m.mem i=U y:=by
  intro ks i y h;unfold jq at h;split at h;exact h;cases h
 have hrd:∀ (ks:List Nat) (d:Nat),jq (d::ks) m.mem d=V->m.mem d=none:=by
  intro ks d h;unfold jq at h;simpa using h
 unfold dY at N;rw[hg]at N;simp only at N;split at N<;>try trivial
 rename_i O q;cases N;have t:=Hi hΓ rfl hi.mem (dv hi) (nM hi) (C _) (hrd _ _) q hn (oH hi.sl _);refine t K Q λu w' F' γ' hs hm S=>hK u w' F' γ' ?_;have j:fX O.v=true:=by
  cases H:O.v with
  |maybe _ _ _=>rw[H]at S;exact S.elim
  |_=>rfl
 refine lJ hi hd hs hm ?_ (λg want y H=>by have hv':O.v=_:=H;rw[hv']at j;cases j);cases H:O.v with
 |maybe _ _ _=>rw[H]at j;cases j
 |_=>rw[H]at S;exact S
def jw(a:Act)(W:List Tmp)(kn:List (Tmp×Bool)):Prop:=∀ x∈kn,x.1∈W/\a.tmps.getD x.1 undef=.bool x.2
def Jq:{kn:List (Tmp×Bool)} -> {t:Tmp} -> {v:Bool}->ux kn t=U v->(t,v)∈kn
 |[],_,_,h=>by simp[ux]at h
 |(x,c)::r,t,v,h=>by
  simp only[ux]at h;split at h;rename_i i;injection h with h
  subst i;subst h;exact ucb;exact ubi _ (Jq h)
def Ap{a:Act}{W:List Tmp}{kn:List (Tmp×Bool)}(i:jw a W kn){x:Operand}{c:Bool}(h:Ao kn x=U c):a.eval x=.bool c:=by
 unfold Ao at h;split at h;exact(i _ (Jq h)).2;cases h;rfl;cases h
def qmb{a:Act}{W:List Tmp}{kn:List (Tmp×Bool)}(m:jw a W kn){x:Operand}(h:IC kn o.op=U x):(execOp a.eval o).run P w=.ok (.value (a.eval x)) w:=by
 unfold IC at h;split at h;rename_i y i;cases h;unfold execOp;rw[i];simp;rename_i c y z i;split at h;rename_i hc;cases h;have j:=Ap m hc;unfold execOp;rw[i];simp[j,asBool];rename_i hc;cases h;have j:=Ap m hc;unfold execOp;rw[i];simp[j,asBool];cases h;cases h
def jw.put{a:Act}{W:List Tmp}{kn:List (Tmp×Bool)}{d:Option Tmp}(t:jw a W kn)(j:∀ x,d=U x->x<a.tmps.size/\x ∉ W):jw (a.put d u) (d.toList++W) kn:=λx w=>by
 obtain⟨i,m⟩:=t x w;refine⟨ua6 _ i,?_⟩;rw[Du a d u x.1 (λy C=>(j y C).1),if_neg (λq=>(j x.1 q).2 i)];exact m
def qu6{C:Cx}(hC:CxOK P C){ops:Array Oper}{Q:XE->St->Prop}{kn:List (Tmp×Bool)}{N:St}{a:Act}{W:List Tmp}{kf:List (Tmp×Bool)->St->Option Tr}{t:Tr}(K:Act->World->Prop)(hi:InvG P E N a w W F γ)(hk:jw a W kn)(hn:N.n=n)(hd:∀ x,o.dst=U x->x<N.n/\x ∉ W)(h:uQ P C bs ops.toList kn o N kf=U t)(hq:t.sat Q)(j:∀ kn' st' a' w' F' γ' t',kf kn' st'=U t'->t'.sat Q->InvG P E st' a' w' (o.dst.toList++W) F' γ'->jw a' (o.dst.toList++W) kn'->st'.n=n->K a' w'):o.wp P a w K (eq P E Q):=by
 have H:∀ x,o.dst=U x->x<a.tmps.size/\x ∉ W:=λx hx=>by rw[hi.n];exact hd x hx
 have O:∀ t,(match dY P C.Γ bs ops.toList (Cb o) N.sl N.mem with
   |some e=>match kf kn (e.go N)with
    |some t=>U (needL e.need t)
    |none=>V
   |none=>match ze P C bs (Cb o) N with
    |some t=>t.bindV λv s'=>kf kn ⟨s'.n,e8 s'.sl o.dst v,s'.mem,s'.gs⟩
    |none=>V)=U t->t.sat Q->o.wp P a w K (eq P E Q):=by
  intro t h hq;split at h;rename_i e he;split at h<;>try trivial
  rename_i t' ht';cases h;obtain⟨hne,hq⟩:=jm _ hq;exact qvd hC.ct rfl hi he hne hd K _ λu w' F' γ' i=>j kn _ _ w' F' γ' t' ht' hq i (hk.put H) hn;split at h<;>try trivial
  rename_i t1 ht1;have hsat:=sy h hq;refine(Vp hC hi ht1 K (eq P E Q) (hsat.turn λx s' hx=>?_)).2;cases x with
  |val v=>
   obtain⟨u,hu,hqu⟩:=hx;intro v2 w2 F2 γ2 i hrep;have hn2:s'.n=n:=by
    have h1:=i.n;have h2:=hi.n;omega
   have hput:=lJ (wr:=[]) (i.weaken W) (λx hx=>⟨by rw[hn2,<- hn];exact(hd x hx).1,(hd x hx).2⟩) (Step.refl (dv i)) i.mem (Ko hrep) (λg q y S=>by
    subst S;exact hrep.elim)
   exact j kn _ _ w2 F2 γ2 u hu hqu hput (hk.put H) hn2
  |panic p=>exact λw2 i=>⟨.panic p,s',rfl,i,hx⟩
  |normal=>trivial
  |exit _=>trivial
  |ret=>trivial
  |jump _=>trivial
 unfold uQ at h;split at h;rename_i x d hx m;have hrun:=qmb (P:=P) (w:=w) hk hx;have hwp:K (a.put o.dst (a.eval x)) w->o.wp P a w K (eq P E Q):=λhK=>by
  unfold Oper.wp;rw[hrun];exact hK
 have hx1:=Br hi.sl x;split at h;rename_i c hc;refine hwp (j _ _ _ w F γ t h hq ?_ ?_ hn);have S:=Ap hk hc;rw[S,<- m];exact lJ (wr:=[]) hi hd (Step.refl (dv hi)) hi.mem (show dP P w F _ _ (AV.c (.bool c)) (.bool c) from ⟨rfl,rfl⟩) (λg q y S=>by cases S);intro y hy;rcases uef.1 hy with rfl|hy
 refine⟨by simp[m],?_⟩;rw[Du a o.dst _ d (λy hy=>(H y hy).1),if_pos m];exact Ap hk hc;exact hk.put H y hy;split at h;cases h;rename_i v hnm;refine hwp (j _ _ _ w F γ t h hq ?_ (hk.put H) hn);have hnv:fX (gC N.sl x)=true:=by
  cases S:gC N.sl x with
  |maybe g q y=>exact absurd S (hnm g q y)
  |_=>rfl
 rw[<- m];exact lJ (wr:=[]) hi hd (Step.refl (dv hi)) hi.mem (Ko (hx1.plain hnv)) (λg q y S=>by rw[S]at hnv;cases hnv);exact O t h hq
def JS{C:Cx}(hC:CxOK P C){ops:Array Oper}(S:StatOK n ops){Q:XE->St->Prop}:(l:List Oper)->(k:Nat)->(∀ i o,l[i]?= U o->ops[k+i]?= U o)->∀ (kn:List (Tmp×Bool)) (st:St) (a:Act) (w:World) (W:List Tmp) (F:Nat->Prop) (γ:Nat->Value) (t:Tr),
  InvG P E st a w W F γ->jw a W kn->st.n=n->(∀ x,x∈W↔∃ i o,i<k/\ops[i]?= U o/\o.dst=U x)->kS P C bs ops.toList kn l st=U t->t.sat Q->wpOps P ops (eq P E Q) (List.range' k l.length) a w
 |[],k,_,kn,st,a,w,W,F,γ,t,hi,hk,hn,hW,h,hq=>by
  simp only[kS,uck]at h;subst h;exact⟨.normal,_,rfl,⟨F,γ,oV hi⟩,hq⟩
 |o::r,k,hl,kn,st,a,w,W,F,γ,t,hi,hk,hn,hW,h,hq=>by
  have H:ops[k]?= U o:=by simpa using hl 0 o rfl
  have hl':∀ i o,r[i]?= U o->ops[k+1+i]?= U o:=λi o' hi'=>by
   have:=hl (i+1) o' (by simpa using hi')
   rwa [show k+1+i=k+(i+1) by omega]
  have hd:∀ x,o.dst=U x->x<st.n/\x ∉ W:=λx hx=>⟨by rw[hn];exact S.lt k o x H hx,λhxW=>by
   obtain⟨i,oi,hik,hoi,hdi⟩:=(hW x).1 hxW;have:=S.once k i o oi x H hoi hx hdi;omega⟩
  have hW':∀ x,x∈o.dst.toList++W↔∃ i oi,i<k+1/\ops[i]?= U oi/\oi.dst=U x:=λx=>by
   rw[udp,hW];constructor;rintro(h|⟨i,oi,h1,h2,h3⟩);exact⟨k,o,by omega,H,by simpa using h⟩;exact⟨i,oi,by omega,h2,h3⟩;rintro⟨i,oi,h1,h2,h3⟩;by_cases hik:i=k;subst hik;rw[H]at h2;cases h2;exact .inl (by simp[h3]);exact .inr ⟨i,oi,by omega,h2,h3⟩
  have hon:∀ q t',jw a W q->uQ P C bs ops.toList q o st (λkn s=>kS P C bs ops.toList kn r s)=U t'->t'.sat Q->o.wp P a w (wpOps P ops (eq P E Q) (List.range' (k+1) r.length)) (eq P E Q):=λq t' O h' hq'=>
   qu6 hC (wpOps P ops (eq P E Q) (List.range' (k+1) r.length)) hi O hn hd h' hq' λkn2 st2 a2 w2 F2 γ2 t2 h2 hq2 hi2 hk2 hn2=>JS hC S r (k+1) hl' kn2 st2 a2 w2 _ F2 γ2 t2 hi2 hk2 hn2 hW' h2 hq2
  have hsz:∀ x,o.dst=U x->x<a.tmps.size/\x ∉ W:=λx hx=>by rw[hi.n];exact hd x hx
  have hoff:∀ q t',jw a W q->kS P C bs ops.toList q r ⟨st.n,e8 st.sl o.dst .dead,st.mem,st.gs⟩=U t'->t'.sat Q->wpOps P ops (eq P E Q) (List.range' (k+1) r.length) (a.put o.dst undef) w:=λq t' O h' hq'=>
   JS hC S r (k+1) hl' q _ _ w _ F γ t' (lJ (wr:=[]) (v:=.dead) hi hd (Step.refl (dv hi)) hi.mem trivial (λg m y hv=>by cases hv)) (O.put hsz) hn hW' h' hq'
  rw[uc7,udc,wpOps_cons];unfold wpOp;rw[H];simp only;simp only[kS]at h;split at h;rename_i hg;have hw:Region.wanted o (yielded ops a.tmps)=true:=by simp[Region.wanted,hg]
  rw[if_pos hw];exact .inl (hon kn t hk h hq);rename_i j m hgd;split at h<;>try trivial
  rename_i g hg;have N:(ops[j]?).bind (·.dst)=U g:=by simpa using hg
  have hgW:g∈W:=by
   have hj:=(S.guard k o j m H hgd).1;cases ho':ops[j]? with
   |none=>rw[ho']at N;cases N
   |some o'=>
    rw[ho']at N;exact(hW g).2 ⟨j,o',hj,ho',N⟩
  have u:Region.wanted o (yielded ops a.tmps)=Z↔a.tmps.getD g undef=.bool m:=by
   have:(yielded ops a.tmps j==U m)=Z↔a.tmps.getD g undef=.bool m:=by
    unfold yielded;rw[N];simp;cases hx:a.tmps[g]? with
    |none=>simp[hx,undef]
    |some y=>
     simp only[uac,hx,udb];cases y<;>simp
   simpa[Region.wanted,hgd]using this
  have hval:∀ v,a.tmps.getD g undef=.bool v->∀ q,jw a W q->jw a W ((g,v)::q):=λv hv q O y hy=>by
   rcases uef.1 hy with rfl|hy
   exact⟨hgW,hv⟩;exact O y hy
  split at h;rename_i v hv;have hgv:=(hk _ (Jq hv)).2;split at h;rename_i hvw;subst hvw;rw[if_pos (u.2 hgv)];exact .inl (hon kn t hk h hq);rename_i hvw;rw[if_neg (λhw=>hvw (by have:=u.1 hw;rw[hgv]at this;cases this;rfl))];exact hoff kn t hk h hq;split at h<;>try trivial
  rename_i p hsl;split at h<;>try trivial
  rename_i x y hx hy;cases h;have hs:=hi.sl g;rw[hsl]at hs;have hgp:=hs.2;by_cases hpw:p=m;subst hpw;rw[if_pos (u.2 hgp)];refine .inl (hon _ x (hval p hgp kn hk) hx ?_);cases p with
  |true=>exact hq.1 rfl
  |false=>exact hq.2 rfl
  rw[if_neg (λhw=>hpw (by have:=u.1 hw;rw[hgp]at this;cases this;rfl))];have hpn:p=!m:=by cases p<;>cases m<;>first|rfl|exact absurd rfl hpw
  refine hoff _ y (hval (!m) (by rw[hgp,hpn]) kn hk) hy ?_;cases m with
  |true=>
   subst hpn;exact hq.2 rfl
  |false=>
   subst hpn;exact hq.1 rfl
def Ux{C:Cx}(hC:CxOK P C){id:Nat}{ops:Array Oper}{m:Bool}{s:St}{t:Tr}(h:Dx P C.Γ bs ops.toList m s=U t){Q:XE->St->Prop}(hq:t.sat Q){a:Act}(hi:I P E s a w):(Code.region id ops m).wp P (eq P E Q) a w:=by
 unfold Dx at h;split at h<;>try trivial
 rename_i hstat;split at h<;>try trivial
 rename_i es s' O;split at h<;>try trivial
 rename_i hord;cases h;obtain⟨u,hq⟩:=JI es hq;have hn:=UO _ _ _ O;have hst:StatOK s'.n ops:=by rw[hn];exact DH hstat
 have hruns:fh P C.Γ bs ops es s' (List.range' 0 ops.size) s:=by
  have:=UW ops.toList 0 s es O (λi o hi=>by simpa using hi) (λi e hi=>by simpa using hi);simpa using this
 obtain⟨F,γ,hi⟩:=hi;have N:∀ a' w',nU P E C.Γ bs ops es s' [] a' w'->eq P E Q .normal a' w':=by
  rintro a' w' ⟨st,W,F',γ',hinv,_,hr,_⟩;have hr':=hr;subst hr';exact⟨.normal,_,rfl,⟨F',γ',oV hinv⟩,hq⟩
 have j:∀ w',InvG P E s a w' [] F γ->nU P E C.Γ bs ops es s' (List.range' 0 ops.size) a w':=λw' q=>by
  refine⟨s,[],F,γ,q,λt=>?_,hruns,hn.symm⟩;constructor;intro hh;simp at hh;rintro⟨k,o,hk,H,_⟩;exfalso;apply H;rw[ucv];have:=(uaf.1 hk).1;omega
 cases m with
 |false=>
  refine ufl ?_;rw[ubl];exact Uw hC.ct hst u _ N _ 0 a w (j w hi)
 |true=>
  have S:r9 ops.toList es=true:=by simpa using hord
  refine wp_region_any hC.mo ?_;refine Uu hC.ct hst u S _ N ops.size (List.range' 0 ops.size) _ a _ (by simp) uaw (by simp) (λi q=>?_) (λi q=>?_) (λk hk H=>?_) (j _ (RQ hi));simp only[ucv,uac,uas,q,if_true,udb,true_iff];omega;rw[ucv]at q;omega;exfalso;apply H;rw[ucv];omega
def i5(P:Program)(E:Env)(c:Code)(f:St->Option Tr):Prop:=
 ∀ s t,f s=U t->∀ Q,t.sat Q->∀ a w,I P E s a w->(Code.loop c).wp P (eq P E Q) a w
def bP(P:Program)(E:Env)(Λ:Nat->St->Option Tr):Code->Nat->Prop
 |.seq a b,k=>bP P E Λ a k/\bP P E Λ b (k+ce a)
 |.cond _ a b,k=>bP P E Λ a k/\bP P E Λ b (k+ce a)
 |.block _ c,k=>bP P E Λ c k
 |.scope c,k=>bP P E Λ c k
 |.loop c,k=>i5 P E c (Λ k)
 |_,_=>True
def sx{f:St->Option Tr}{Q:XE->St->Prop}:{t j:Tr}->t.bind f=U j->j.sat Q->t.sat λe s=>match e with
  |.normal=>∃ u,f s=U u/\u.sat Q
  |e=>Q e s
 |.leaf e s,j,h,hq=>by
  cases e with
  |normal=>exact⟨j,h,hq⟩
  |exit i=>
   simp only[Tr.bind,uck]at h;subst h;exact hq
  |ret=>
   simp only[Tr.bind,uck]at h;subst h;exact hq
  |panic p=>
   simp only[Tr.bind,uck]at h;subst h;exact hq
  |val v=>
   simp only[Tr.bind,uck]at h;subst h;exact hq
  |jump l=>
   simp only[Tr.bind,uck]at h;subst h;exact hq
 |.br b x y,j,h,hq=>by
  simp only[Tr.bind]at h;split at h<;>try trivial
  rename_i w C m q;cases h;exact⟨λhb=>sx m (hq.1 hb),λhb=>sx q (hq.2 hb)⟩
 |.need p x,j,h,hq=>by
  simp only[Tr.bind]at h;split at h<;>try trivial
  rename_i w m;cases h;exact⟨hq.1,sx m hq.2⟩
 |.two p x y,j,h,hq=>by
  simp only[Tr.bind]at h;split at h<;>try trivial
  rename_i w C m q;cases h;exact⟨λhb=>sx m (hq.1 hb),sx q hq.2⟩
def wm{id:Nat}{Q:XE->St->Prop}:{t:Tr}->(t.block id).sat Q->t.sat λe s=>match e with
  |.exit i=>if i=id then Q .normal s else Q (.exit i) s
  |e=>Q e s
 |.leaf e s,hq=>by
  cases e with
  |normal=>exact hq
  |exit i=>
   simp only[Tr.block]at hq;simp only[Tr.sat];split;rename_i h;rw[if_pos h]at hq;exact hq;rename_i h;rw[if_neg h]at hq;exact hq
  |ret=>exact hq
  |panic p=>exact hq
  |val v=>exact hq
  |jump l=>exact hq
 |.br b x y,hq=>⟨λhb=>wm (hq.1 hb),λhb=>wm (hq.2 hb)⟩
 |.need p x,hq=>⟨hq.1,wm hq.2⟩
 |.two p x y,hq=>⟨λhb=>wm (hq.1 hb),wm hq.2⟩
def wq{Q:XE->St->Prop}:{t:Tr}->t.scope.sat Q->t.sat λe s=>match e with
  |.jump _=>False
  |.val _=>False
  |e=>Q e s
 |.leaf e s,hq=>by
  cases e with
  |normal=>exact hq
  |exit i=>exact hq
  |ret=>exact hq
  |panic p=>exact hq
  |val v=>exact hq.1
  |jump l=>exact hq.1
 |.br b x y,hq=>⟨λhb=>wq (hq.1 hb),λhb=>wq (hq.2 hb)⟩
 |.need p x,hq=>⟨hq.1,wq hq.2⟩
 |.two p x y,hq=>⟨λhb=>wq (hq.1 hb),wq hq.2⟩
def qgv{s:St}{a:Act}{c:Operand}{p:Bool}(hi:InvG P E s a w [] F γ)(h:gC s.sl c=.c (.bool p)):a.eval c=.bool p:=by
 have:=Br hi.sl c;rw[h]at this;exact this.2
def ql6{j:St}{a:Act}{γ:Nat->Value}{m:aT}(hi:InvG P E ⟨j.n,j.sl,m,j.gs⟩ a w [] F γ)(id:Nat):∃ F',InvG P E ⟨j.n,j.sl,Cc m id,j.gs⟩ a w [] F' γ:=by
 unfold Cc;split;rename_i x u h;have h0:=h;have C:∃ v,bc P w F (ap m γ) (.own id) v:=by
  unfold me at h;simp only[bc];unfold ap;split at h;split at h;rename_i i _ _ _ _ q;cases i;simp[q];rename_i i _ _ _ q;cases i;simp[q];cases h;rename_i H;exact absurd rfl (H _)
 obtain⟨v,N⟩:=C;obtain⟨F',s1,O,_,_⟩:=D5 hi.mem (dv hi) (cX.of λ_ _ h=>h) h0 N;refine⟨F',hi.n,hi.df,?_,O,λt=>(hi.sl t).mono s1.hF s1.hw s1.hR,hi.hg,λt=>s1.repA (hi.gh t)⟩;obtain⟨γ0,h0⟩:=hi.step;exact⟨γ0,h0.trans s1⟩;exact⟨F,hi⟩
def Cd{i:St}{a:Act}{γ:Nat->Value}:(j:List Nat) -> {m:aT} -> {F:Nat->Prop}->InvG P E ⟨i.n,i.sl,m,i.gs⟩ a w [] F γ->∃ F',InvG P E ⟨i.n,i.sl,j.foldl Cc m,i.gs⟩ a w [] F' γ
 |[],_,F,hi=>⟨F,hi⟩
 |id::r,_,_,hi=>by
  obtain⟨F1,q⟩:=ql6 hi id;exact Cd r q
def fR{C:Cx}(W:CxOK P C){Λ:Nat->St->Option Tr}:(c:Code)->(k:Nat)->bP P E Λ c k->∀ {s:St} {t:Tr},cr P C bs Λ c k s=U t ->
  ∀ {Q:XE->St->Prop},t.sat Q->∀ {a:Act} {w:World},I P E s a w->c.wp P (eq P E Q) a w
 |.skip,k,_,s,t,h,Q,hq,a,w,hi=>by
  simp only[cr,uck]at h
  subst h
  exact wp_skip ⟨.normal,s,rfl,hi,hq⟩
 |.ret,k,_,s,t,h,Q,hq,a,w,hi=>by
  simp only[cr,uck]at h
  subst h
  exact wp_ret ⟨.ret,s,rfl,hi,hq⟩
 |.exit id,k,_,s,t,h,Q,hq,a,w,hi=>by
  simp only[cr,uck]at h
  subst h
  exact wp_exit ⟨.exit id,s,rfl,hi,hq⟩
 |.region id ops draw,k,_,s,t,h,Q,hq,a,w,hi=>by
  simp only[cr]at h
  split at h
  ·rename_i t' q
   simp at h
   subst h
   exact Ux W q hq hi
  ·split at h
   ·rename_i t' q
    simp at h
    subst h
    split at q<;>try (cases q;done)
    rename_i hc
    obtain⟨rfl,O⟩:=hc
    obtain⟨F,γ,H⟩:=hi
    refine ufl ?_
    rw[ubl]
    have:=JR W (DH O) ops.toList 0 (λi o hi=>by simpa using hi) s a w [] F γ t' H rfl (λx=>⟨λhh=>by simp at hh,λ⟨i,_,hi,_⟩=>by omega⟩) q hq
    simpa using this
   ·split at h
    ·rename_i t' q
     simp at h
     subst h
     split at q<;>try (cases q;done)
     rename_i hc
     obtain⟨rfl,O⟩:=hc
     obtain⟨F,γ,H⟩:=hi
     refine ufl ?_
     rw[ubl]
     have:=JS W (DH O) ops.toList 0 (λi o hi=>by simpa using hi) [] s a w [] F γ t' H (λx hx=>by simp at hx) rfl (λx=>⟨λhh=>by simp at hh,λ⟨i,_,hi,_⟩=>by omega⟩) q hq
     simpa using this
    ·split at h
     ·rename_i t' q
      simp at h
      subst h
      obtain⟨F,γ,H⟩:=hi
      obtain⟨F',h'⟩:=Cd _ H
      exact Ux W q hq ⟨F',γ,h'⟩
     ·simp at h
      subst h
      exact hq.1.elim
 |.seq x y,k,S,s,t,h,Q,hq,a,w,hi=>by
  simp only[cr]at h
  split at h<;>try (cases h;done)
  rename_i t1 h1
  refine wp_seq (wp_mono (fR W x k S.1 h1 (sx h hq) hi) ?_)
  rintro e a' w' ⟨xe,N,rfl,m,j⟩
  cases xe with
  |normal=>
   obtain⟨u,hu,hqu⟩:=j
   exact fR W y _ S.2 hu hqu m
  |exit i=>exact⟨.exit i,N,rfl,m,j⟩
  |ret=>exact⟨.ret,N,rfl,m,j⟩
  |panic p=>exact⟨.panic p,N,rfl,m,j⟩
  |val v=>exact⟨.val v,N,rfl,m,j⟩
  |jump l=>exact⟨.jump l,N,rfl,m,j⟩
 |.cond c x y,k,S,s,t,h,Q,hq,a,w,hi=>by
  simp only[cr]at h
  split at h<;>try (cases h;done)
  rename_i p hp
  split at h<;>try (cases h;done)
  rename_i x' y' hx hy
  simp at h
  subst h
  obtain⟨F,γ,H⟩:=id hi
  exact wp_cond_split (qgv H hp) (λhb=>fR W x _ S.1 hx (hq.1 hb) hi) (λhb=>fR W y _ S.2 hy (hq.2 hb) hi)
 |.block id c,k,S,s,t,h,Q,hq,a,w,hi=>by
  simp only[cr]at h
  split at h<;>try (cases h;done)
  rename_i t1 h1
  simp at h
  subst h
  refine wp_block (wp_mono (fR W c k S h1 (wm hq) hi) ?_)
  rintro e a' w' ⟨xe,N,rfl,m,j⟩
  cases xe with
  |normal=>exact⟨.normal,N,rfl,m,j⟩
  |exit i=>
   simp only at j
   show Exit.inBlock id _ (.exit i) a' w'
   unfold Exit.inBlock
   simp only
   split
   ·rename_i h
    rw[if_pos h]at j
    exact⟨.normal,N,rfl,m,j⟩
   ·rename_i h
    rw[if_neg h]at j
    exact⟨.exit i,N,rfl,m,j⟩
  |ret=>exact⟨.ret,N,rfl,m,j⟩
  |panic p=>exact⟨.panic p,N,rfl,m,j⟩
  |val v=>exact⟨.val v,N,rfl,m,j⟩
  |jump l=>exact⟨.jump l,N,rfl,m,j⟩
 |.loop c,k,S,s,t,h,Q,hq,a,w,hi=>by
  simp only[cr]at h
  split at h
  ·rename_i t' q
   simp at h
   subst h
   exact S s t' q Q hq a w hi
  ·simp at h
   subst h
   exact hq.1.elim
 |.label _,_,_,_,_,h,_,hq,_,_,hi=>by
  simp only[cr,uck]at h
  subst h
  exact wp_label ⟨.normal,_,rfl,hi,hq⟩
 |.goto l,_,_,_,_,h,_,hq,_,_,hi=>by
  simp only[cr,uck]at h
  subst h
  exact wp_goto ⟨.jump l,_,rfl,hi,hq⟩
 |.scope c,k,S,s,t,h,Q,hq,a,w,hi=>by
  simp only[cr]at h
  split at h<;>try (cases h;done)
  rename_i t1 h1
  simp at h
  subst h
  refine wp_scope_straight (wp_mono (fR W c k S h1 (wq hq) hi) ?_)
  rintro e a' w' ⟨xe,N,rfl,m,j⟩
  cases xe with
  |normal=>exact⟨.normal,N,rfl,m,j⟩
  |exit i=>exact⟨.exit i,N,rfl,m,j⟩
  |ret=>exact⟨.ret,N,rfl,m,j⟩
  |panic p=>exact⟨.panic p,N,rfl,m,j⟩
  |val v=>exact j.elim
  |jump l=>exact j.elim
 |.rangeFunc ..,_,_,_,_,h,_,hq,_,_,_=>by
  simp only[cr,uck]at h
  subst h
  exact hq.1.elim
 |.refuse _,_,_,_,_,h,_,hq,_,_,_=>by
  simp only[cr,uck]at h
  subst h
  exact hq.1.elim
end
abbrev YF:Type:=Option TypeId×Ty
inductive MI where
 |o (t:Tmp) (e:TypeId) (ty:Ty)
 |x (id:Nat) (e:TypeId) (ty:Ty)
 |r (t:Tmp) (id off:Nat)
 |y (id:Nat) (e:TypeId) (fs:List YF)
 |g (t:Tmp) (f:FuncId) (ids:List Nat)
 |al (t s:Tmp)
@[reducible] def jD:List YF->Type
 |[]=>Unit
 |(U _,t)::r=>List t.den×jD r
 |(V,t)::r=>t.den×jD r
@[reducible] def cR:List MI->Type
 |[]=>Unit
 |.o _ _ ty::r=>List ty.den×cR r
 |.x _ _ ty::r=>ty.den×cR r
 |.r _ _ _::r=>cR r
 |.y _ _ fs::r=>jD fs×cR r
 |.g _ _ _::r=>cR r
 |.al _ _::r=>cR r
def jS(id off:Nat):AC:=if off<1000000 then .ptr id off else if off<1000000000 then .ifp (off-1000000) id else .fb (off-1000000000) id
def Kk:AV->Option (Nat×Nat)
 |.c (.ptr i o)=>if o<1000000 then U (i,o)else V
 |.c (.ifp ty i)=>if ty<999000000 then U (i,ty+1000000)else V
 |.c (.fb f i)=>U (i,f+1000000000)
 |_=>V
def qwz{a:AV}{o:Nat}(h:Kk a=U (i,o)):a=.c (jS i o):=by
 unfold Kk at h;split at h<;>try trivial
 split at h<;>try trivial
 rename_i j;cases h;rw[jS,if_pos j];split at h<;>try trivial
 rename_i ty q m;cases h;rw[jS,if_neg (Nat.not_lt.2 (Nat.le_add_left _ _)),if_pos (by rw[show(1000000000:Nat)=999000000+1000000 from rfl];exact Nat.add_lt_add_right m _),ubz];cases h;rw[jS,if_neg (Nat.not_lt.2 (uel (show 1000000<=1000000000 by decide) (Nat.le_add_left _ _))),if_neg (Nat.not_lt.2 (Nat.le_add_left _ _)),ubz]
def qwx{o:Nat}(h:bc P w F R (jS i o) v):∃ b,R i (.pointer (U ⟨b,0,V⟩))/\∀ R':Nat->Value->Prop,R' i (.pointer (U ⟨b,0,V⟩))->bc P w F R' (jS i o) v:=by
 unfold jS at h |-;by_cases j:o<1000000;rw[if_pos j]at h |-;obtain⟨b,j,m⟩:=h;exact⟨b,j,λR' h=>⟨b,h,m⟩⟩;rw[if_neg j]at h |-;by_cases m:o<1000000000;rw[if_pos m]at h |-;obtain⟨b,j,m⟩:=h;exact⟨b,j,λR' h=>⟨b,h,m⟩⟩;rw[if_neg m]at h |-;obtain⟨b,j,m⟩:=h;exact⟨b,j,λR' h=>⟨b,h,m⟩⟩
def cg(id:Nat):Nat:=2000000000000000000000000000000+id*1000
def cH(cs:List AC)(j:Nat):Option Nat:=match cs[j]? with
 |some (.own k)=>U k
 |_=>V
def it(id:Nat):(fs:List YF)->jD fs->Nat->List AC
 |[],_,_=>[]
 |(U _,_)::r,x,j=>.own (cg id+j)::it id r x.2 (j+1)
 |(V,t)::r,x,j=>(enc t x.1).headD .nil::it id r x.2 (j+1)
def kI:(fs:List YF)->jD fs->Nat->Option Ob
 |[],_,_=>V
 |(U e,t)::_,x,0=>U (.arr e t x.1)
 |(V,_)::_,_,0=>V
 |(U _,_)::r,x,j+1=>kI r x.2 j
 |(V,_)::r,x,j+1=>kI r x.2 j
def gD(m:aT):(fs:List YF)->List AC->List Nat->Option (jD fs×List Nat)
 |[],[],us=>U ((),us)
 |(U e,t)::r,c::cs,us=>match c with
  |.nil=>if e<dL then match gD m r cs us with
   |some (y,i)=>U (([],y),i)
   |none=>V
   else V
  |.own k=>if us.contains k then V else match m k with
   |some (.arr q j l)=>if h:j=t then if q=e then match gD m r cs (k::us)with
     |some (y,i)=>U ((cA h l,y),i)
     |none=>V
    else V else V
   |_=>V
  |_=>V
 |(V,t)::r,c::cs,us=>match dec t [c]with
  |some (x,[])=>match gD m r cs us with
   |some (y,i)=>U ((x,y),i)
   |none=>V
  |_=>V
 |_,_,_=>V
def ql(fs:List YF)(j:Nat):Prop:=∃ e t,fs[j]?= U (U e,t)
def ql.lt{fs:List YF}(h:ql fs j):j<fs.length:=by
 obtain⟨e,t,h⟩:=h;exact(uak.1 h).1
def CV(id:Nat):(fs:List YF)->(x:jD fs)->(j:Nat)->(it id fs x j).length=fs.length
 |[],_,_=>rfl
 |(U _,_)::r,x,j=>by simp[it,CV id r x.2]
 |(V,_)::r,x,j=>by simp[it,CV id r x.2]
def Hz{k:Nat}:(t:Ty) -> {cs:List AC} -> {x:t.den} -> {r:List AC}->dec t (.own k::cs)=U (x,r)->r=.own k::cs
 |.int _,_,_,_,h=>by simp[dec,oB]at h
 |.bool,_,_,_,h=>by simp[dec,oA]at h
 |.str,_,_,_,h=>by simp[dec,oD]at h
 |.sl _,_,_,_,h=>by simp[dec,oC]at h
 |.unit,_,_,_,h=>by
  simp only[dec,uck,ued]at h;exact h.2.symm
 |.pair a b,cs,x,r,h=>by
  simp only[dec]at h;split at h<;>try trivial
  rename_i x1 m i;split at h<;>try trivial
  rename_i x2 q j;obtain⟨_,rfl⟩:=h;have e1:=Hz a i;subst e1;exact Hz b j
 |.fm _,_,_,_,h=>by simp[dec,qO]at h
 |.ic _ _,_,_,_,h=>by simp[dec,qN]at h
 |.fc _,_,_,_,h=>by simp[dec,qM]at h
def MB(id:Nat)(fs:List YF)(cs:List AC)(j0 j:Nat)(c:AC):Prop:=
 (c=.own (cg id+(j0+j))/\ql fs j) \/ ∃ (t:Ty) (x:t.den) (c0:AC),cs[j]?= U c0/\dec t [c0]=U (x,[])/\[c]=enc t x
def HE{m:aT}{id:Nat}:{fs:List YF} -> {cs:List AC} -> {us q:List Nat} -> {y:jD fs}->gD m fs cs us=U (y,q)->∀ j0 j c,(it id fs y j0)[j]?= U c->MB id fs cs j0 j c
 |[],[],_,_,_,_,j0,j,c,hc=>by simp[it]at hc
 |f::r,[],us,q,y,h,_,_,_,_=>by
  obtain⟨o,t⟩:=f;cases o<;>simp[gD]at h
 |[],c::cs,us,q,y,h,_,_,_,_=>by simp[gD]at h
 |(U e,t)::r,c::cs,us,q,y,h,j0,j,H,hc=>by
  have key:∀ {N u:List Nat} {F:jD r},gD m r cs N=U (F,u)->(it id r F (j0+1))[j-1]?= U H->j≠0->MB id ((U e,t)::r) (c::cs) j0 j H:=by
   intro N u F w O hj;obtain⟨i,rfl⟩:∃ i,j=i+1:=⟨j-1,by omega⟩;rcases HE w (j0+1) i H O with ⟨a,e1,C,b⟩|⟨C,x1,c0,a,b,d⟩
   exact .inl ⟨by rw[a];congr 2;omega,e1,C,by simpa using b⟩;exact .inr ⟨C,x1,c0,by simpa using a,b,d⟩
  simp only[gD]at h;split at h<;>try trivial
  split at h<;>try trivial
  rename_i W;split at h<;>try trivial
  rename_i F u w;cases h;cases j with
  |zero=>
   simp only[it,uau,uck]at hc;exact .inl ⟨hc.symm,e,t,rfl⟩
  |succ i=>exact key w (by simpa[it]using hc) (by omega)
  split at h<;>try trivial
  split at h<;>try trivial
  split at h<;>try trivial
  split at h<;>try trivial
  split at h<;>try trivial
  rename_i F u w;cases h;cases j with
  |zero=>
   simp only[it,uau,uck]at hc;exact .inl ⟨hc.symm,e,t,rfl⟩
  |succ i=>exact key w (by simpa[it]using hc) (by omega)
 |(V,t)::r,c::cs,us,q,y,h,j0,j,H,hc=>by
  simp only[gD]at h;split at h<;>try trivial
  rename_i x P;split at h<;>try trivial
  rename_i F u w;cases h;cases j with
  |zero=>
   simp only[it,uau,uck]at hc;have S:=ku t P;have Q:(enc t x).length=1:=by
    rw[fl];simpa using S.symm
   refine .inr ⟨t,x,c,rfl,P,?_⟩
   match hq:enc t x,Q with
   |[a],_=>
    rw[hq]at hc;rw[<- hc];rfl
  |succ i=>
   rcases HE w (j0+1) i H (by simpa[it]using hc)with ⟨a,e1,C,b⟩|⟨C,x1,c0,a,b,d⟩
   exact .inl ⟨by rw[a];congr 2;omega,e1,C,by simpa using b⟩;exact .inr ⟨C,x1,c0,by simpa using a,b,d⟩
def px(i:List Nat):List AC:=i.map λid=>.ptr id 0
def yH:List AC->Option (List Nat)
 |[]=>U []
 |.ptr i 0::r=>match yH r with
  |some l=>U (i::l)
  |none=>V
 |_=>V
def Um:{cs:List AC} -> {j:List Nat}->yH cs=U j->cs=px j
 |[],j,h=>by
  simp only[yH,uck]at h
  subst h
  rfl
 |c::r,j,h=>by
  unfold yH at h
  split at h<;>try (cases h;done)
  ·rename_i m
   cases m
  ·rename_i i t m
   cases m
   split at h<;>try (cases h;done)
   rename_i l q
   simp at h
   subst h
   rw[Um q]
   rfl
def ba(t:Tmp):Nat:=1000000000000000000000000000000+t
def iN(id:Nat):List MI->Bool
 |[]=>Y
 |.x i _ _::r=>i==id || iN id r
 |.y i _ _::r=>i==id || iN id r
 |_::r=>iN id r
def jj(s:Tmp):List MI->Bool
 |[]=>Y
 |.o t _ _::r=>t==s || jj s r
 |_::r=>jj s r
def bB(all:List MI)(sl:Nat->AV)(m:aT):(L:List MI)->List Nat->Option (cR L)
 |[],_=>U ()
 |.o t e ty::r,us=>match sl t with
  |.c .nil=>if e<dL then match bB all sl m r us with
   |some y=>U ([],y)
   |none=>V
   else V
  |.c (.own id)=>if us.contains id then V else match m id with
   |some (.arr q w l)=>if h:w=ty then if q=e then match bB all sl m r (id::us)with
     |some y=>U (cA h l,y)
     |none=>V
    else V else V
   |_=>V
  |_=>V
 |.x id e ty::r,us=>match m id with
  |some (.box q cs)=>if q=e then match dec ty cs with
    |some (x,[])=>match bB all sl m r us with
     |some y=>U (x,y)
     |none=>V
    |_=>V
   else V
  |_=>V
 |.r t id off::r,us=>match Kk (sl t)with
  |some (i,o)=>if i=id/\o=off/\iN id all=Z then bB all sl m r us else V
  |none=>V
 |.g t f u::r,us=>match sl t with
  |.c (.fn F cs)=>if F=f/\yH cs=U u/\u.all (λid=>iN id all)=Z then bB all sl m r us else V
  |_=>V
 |.al t s::r,us=>match sl t,sl s with
  |.c (.own i),.c (.own j)=>if i=j/\jj s all=Z then bB all sl m r us else V
  |.c .nil,.c .nil=>if jj s all=Z then bB all sl m r us else V
  |_,_=>V
 |.y id e fs::r,us=>match m id with
  |some (.box q cs)=>if q=e then match gD m fs cs us with
    |some (x,C)=>match bB all sl m r C with
     |some y=>U (x,y)
     |none=>V
    |none=>V
   else V
  |_=>V
def bG:(L:List MI)->cR L->aT
 |[],_=>λ_=>V
 |.o t e ty::r,x=>λi=>if i=ba t then U (.arr e ty x.1)else bG r x.2 i
 |.x id e ty::r,x=>λi=>if i=id then U (.box e (enc ty x.1))else bG r x.2 i
 |.r _ _ _::r,x=>bG r x
 |.g _ _ _::r,x=>bG r x
 |.al _ _::r,x=>bG r x
 |.y id e fs::r,x=>λi=>if i=id then U (.box e (it id fs x.1 0))else if cg id<=i/\i<cg id+fs.length then kI fs x.1 (i-cg id)else bG r x.2 i
def bx:List MI->Nat->AV
 |[],_=>.dead
 |.o t _ _::r,i=>if i=t then .c (.own (ba t))else bx r i
 |.x _ _ _::r,i=>bx r i
 |.r t id off::r,i=>if i=t then .c (jS id off)else bx r i
 |.y _ _ _::r,i=>bx r i
 |.g t f j::r,i=>if i=t then .c (.fn f (px j))else bx r i
 |.al t s::r,i=>if i=t then .c (.own (ba s))else bx r i
def H4:(p:PT)->p.den->AV
 |.d t,x=>dE t x
 |.ptr t,x=>.c (.sptr (enc t x))
 |.fn ps rs,g=>.c (.fv ps rs g)
 |.pf ps rs,g=>.c (.pv ps rs g.1 g.2)
 |.pfn ps rs,g=>.c (.sptr [.fv ps rs g])
 |.pk f,_=>.c (.sptr [.fn f []])
def pL:(vs:List (Tmp×PT))->ag (vs.map (·.2))->(Nat->AV)->Nat->AV
 |[],_,f,i=>f i
 |(t,p)::r,x,f,i=>if i=t then H4 p x.1 else pL r x.2 f i
def CG(m:aT):MI->aT
 |.x id _ _=>match m id with
  |some (.box e cs)=>match jr m cs with
   |some (cs',u)=>match ax m u id with
    |some (.box _ _)=>ax m (u++[(id,.box e cs')])
    |_=>m
   |none=>m
  |_=>m
 |_=>m
def yk:List MI->aT->aT
 |[],m=>m
 |i::r,m=>yk r (CG m i)
structure LS where
 vs:List (Tmp×PT)
 ms:List MI
@[reducible] def LS.X(L:LS):Type:=ag (L.vs.map (·.2))×cR L.ms
def LS.ext(Γ:Gm)(L:LS)(s:St):Option (L.X×List Prop):=
 match dK s.mem (L.vs.map λv=>s.at v.1)with
 |some (xs,u)=>match jf Γ (L.vs.map (·.2)) xs with
  |some (x,n)=>match bB L.ms s.at (yk L.ms (ax s.mem u)) L.ms []with
   |some y=>U ((x,y),n)
   |none=>V
  |none=>V
 |none=>V
def LS.tpl(L:LS)(n:Nat)(x:L.X):St:=⟨n,λi=>if i<10000 then pL L.vs x.1 (bx L.ms) i else .dead,bG L.ms x.2,λi=>pL L.vs x.1 (bx L.ms) (i+10000)⟩
section
variable {P:Program} {B:Nat} {w w':World} {E:Env} {F F':Nat->Prop} {γ γ' γ0:Nat->Value} {Γ:Gm} {M m:aT} {R:Nat->Value->Prop}
def P4:{p:PT} -> {x:p.den} -> {v:Value}->Fg P w F p x v->aE P w F R (H4 p x) v
 |.d t,x,v,h=>fT h
 |.ptr t,x,v,h=>by
  obtain⟨ad,rfl,m,q⟩:=h;exact⟨rfl,ad,rfl,m,aA.enc t x q⟩
 |.fn ps rs,g,v,h=>by
  have j:=h;obtain⟨f,i,rfl,_⟩:=id j;exact⟨rfl,j⟩
 |.pf ps rs,g,v,h=>by
  have j:=h;obtain⟨f,i,rfl,_⟩:=id j;exact⟨rfl,j⟩
 |.pfn ps rs,g,v,h=>by
  obtain⟨ad,u,rfl,m,q,C⟩:=h;have H:u.oneCell'=true:=by
   obtain⟨f,i,rfl,_⟩:=id C;rfl
  exact⟨rfl,ad,rfl,m,⟨u,q,H,by simp only[bc];exact C⟩,uT⟩
 |.pk f,_,v,h=>by
  obtain⟨ad,rfl,m,q⟩:=h;exact⟨rfl,ad,rfl,m,⟨_,q,rfl,by simp only[bc];exact⟨#[],rfl,rfl,uT⟩⟩,uT⟩
def bz(sl:Nat->AV)(m:aT):List MI->Nat->Option Nat
 |[],_=>V
 |.o t _ _::r,i=>if i=ba t then (match sl t with
  |.c (.own id)=>U id
  |_=>V)else bz sl m r i
 |.x id _ _::r,i=>if i=id then U id else bz sl m r i
 |.r _ _ _::r,i=>bz sl m r i
 |.g _ _ _::r,i=>bz sl m r i
 |.al _ _::r,i=>bz sl m r i
 |.y id _ fs::r,i=>if i=id then U id else if cg id<=i/\i<cg id+fs.length then (match m id with
  |some (.box _ cs)=>cH cs (i-cg id)
  |_=>V)else bz sl m r i
def bQ(γ:Nat->Value)(sl:Nat->AV)(m:aT)(L:List MI)(i:Nat):Value:=match bz sl m L i with
 |some k=>γ k
 |none=>.slice V 0 0
def qT:{fs:List YF} -> {cs:List AC} -> {us u:List Nat} -> {y:jD fs}->gD m fs cs us=U (y,u) ->
  cs.length=fs.length/\(∀ k,k∈us->k∈u)/\(∀ j k,cH cs j=U k->k ∉ us/\k∈u/\∃ e t l,m k=U (.arr e t l)) /\
  (∀ i j k,cH cs i=U k->cH cs j=U k->i=j)/\∀ j o,kI fs y j=U o->(cs[j]?= U .nil/\∃ e t,o=.arr e t []/\e<dL) \/ ∃ k,cs[j]?= U (.own k)/\m k=U o
 |[],[],us,u,y,h=>by
  simp only[gD,uck,ued]at h;refine⟨rfl,λk N=>h.2 ▸ N,λj k q=>by simp[cH]at q,λi j k hi=>by simp[cH]at hi,λj o q=>by simp[kI]at q⟩
 |f::r,[],us,u,y,h=>by
  obtain⟨o,t⟩:=f;cases o<;>simp[gD]at h
 |[],c::cs,us,u,y,h=>by simp[gD]at h
 |(U e,t)::r,c::cs,us,u,y,h=>by
  simp only[gD]at h;split at h<;>try trivial
  split at h<;>try trivial
  rename_i hrw;split at h<;>try trivial
  rename_i y' us2 S;cases h;obtain⟨O,H,C,P,Q⟩:=qT S;refine⟨by simp[O],H,λj k q=>?_,λi j k hi q=>?_,λj o q=>?_⟩;cases j with
  |zero=>simp[cH]at q
  |succ j=>exact C j k (by simpa[cH]using q)
  cases i with
  |zero=>simp[cH]at hi
  |succ i=>
   cases j with
   |zero=>simp[cH]at q
   |succ j=>rw[P i j k (by simpa[cH]using hi) (by simpa[cH]using q)]
  cases j with
  |zero=>
   simp only[kI,uck]at q;exact .inl ⟨rfl,e,t,q.symm,hrw⟩
  |succ j=>
   rcases Q j o (by simpa[kI]using q)with ⟨a,w,W,c⟩|⟨k,a,b⟩
   exact .inl ⟨by simpa using a,w,W,c⟩;exact .inr ⟨k,by simpa using a,b⟩
  rename_i k0;split at h<;>try trivial
  rename_i hus;split at h<;>try trivial
  rename_i w ty' l hm;split at h<;>try trivial
  rename_i hty;split at h<;>try trivial
  rename_i hee;split at h<;>try trivial
  rename_i y' us2 S;cases h;obtain⟨O,H,C,P,Q⟩:=qT S;have hk0:k0 ∉ us:=by simpa using hus
  refine⟨by simp[O],λk N=>H k (ubi _ N),λj k q=>?_,λi j k hi q=>?_,λj o q=>?_⟩;cases j with
  |zero=>
   simp only[cH,uau,uck]at q;subst q;exact⟨hk0,H _ (by simp),w,ty',l,hm⟩
  |succ j=>
   obtain⟨a,b,c⟩:=C j k (by simpa[cH]using q);exact⟨λhh=>a (ubi _ hh),b,c⟩
  cases i with
  |zero=>
   simp only[cH,uau,uck]at hi;subst hi;cases j with
   |zero=>rfl
   |succ j=>exact absurd (by simp) (C j k0 (by simpa[cH]using q)).1
  |succ i=>
   cases j with
   |zero=>
    simp only[cH,uau,uck]at q;subst q;exact absurd (by simp) (C i k0 (by simpa[cH]using hi)).1
   |succ j=>rw[P i j k (by simpa[cH]using hi) (by simpa[cH]using q)]
  cases j with
  |zero=>
   refine .inr ⟨k0,rfl,?_⟩;rw[hm,<- q];subst hee;subst hty;rfl
  |succ j=>
   rcases Q j o (by simpa[kI]using q)with ⟨a,w,W,c⟩|⟨k,a,b⟩
   exact .inl ⟨by simpa using a,w,W,c⟩;exact .inr ⟨k,by simpa using a,b⟩
 |(V,t)::r,c::cs,us,u,y,h=>by
  simp only[gD]at h;split at h<;>try trivial
  rename_i x hx;split at h<;>try trivial
  rename_i y' us2 S;cases h;obtain⟨O,H,C,P,Q⟩:=qT S;have F:∀ k,cH (c::cs) 0=U k->False:=λk N=>by
   simp only[cH]at N;split at N<;>try trivial
   rename_i k' hc;cases hc;have:=Hz t hx;cases this
  refine⟨by simp[O],H,λj k q=>?_,λi j k hi q=>?_,λj o q=>?_⟩;cases j with
  |zero=>exact(F k q).elim
  |succ j=>exact C j k (by simpa[cH]using q)
  cases i with
  |zero=>exact(F k hi).elim
  |succ i=>
   cases j with
   |zero=>exact(F k q).elim
   |succ j=>rw[P i j k (by simpa[cH]using hi) (by simpa[cH]using q)]
  cases j with
  |zero=>simp[kI]at q
  |succ j=>
   rcases Q j o (by simpa[kI]using q)with ⟨a,w,W,c⟩|⟨k,a,b⟩
   exact .inl ⟨by simpa using a,w,W,c⟩;exact .inr ⟨k,by simpa using a,b⟩
def jh{all:List MI}{sl:Nat->AV}:{L:List MI} -> {us:List Nat} -> {y:cR L}->bB all sl m L us=U y->∀ i k,bz sl m L i=U k ->
  (i=k/\∃ e cs,m k=U (.box e cs))\/(k ∉ us/\∃ e t l,m k=U (.arr e t l))
 |[],_,_,_,i,k,j=>by simp[bz]at j
 |.o t e ty::r,us,y,h,i,k,j=>by
  simp only[bB]at h;split at h<;>try trivial
  rename_i u;split at h<;>try trivial
  rename_i hrw;split at h<;>try trivial
  rename_i Q w;simp only[bz,u]at j;split at j;cases j;exact jh w i k j;rename_i id u;split at h<;>try trivial
  rename_i O;split at h<;>try trivial
  rename_i F P l C;split at h<;>try trivial
  split at h<;>try trivial
  split at h<;>try trivial
  rename_i Q w;simp only[bz,u]at j;split at j;cases j;exact .inr ⟨by simpa using O,F,P,l,C⟩;rcases jh w i k j with q|⟨q,H⟩
  exact .inl q;exact .inr ⟨λN=>q (ubi _ N),H⟩
 |.x id e ty::r,us,y,h,i,k,j=>by
  simp only[bB]at h;split at h<;>try trivial
  rename_i F cs C;split at h<;>try trivial
  split at h<;>try trivial
  split at h<;>try trivial
  rename_i Q w;simp only[bz]at j;split at j;rename_i hi;cases j;exact .inl ⟨hi,F,cs,C⟩;exact jh w i k j
 |.r t id off::r,us,y,h,i,k,j=>by
  simp only[bB]at h;split at h<;>try trivial
  split at h<;>try trivial
  exact jh h i k j
 |.g t f id::r,us,y,h,i,k,j=>by
  simp only[bB]at h;split at h<;>try trivial
  split at h<;>try trivial
  exact jh h i k j
 |.al t s0::r,us,y,h,i,k,j=>by
  simp only[bB]at h;split at h<;>try trivial
  all_goals (split at h<;>try trivial)
  all_goals exact jh h i k j
 |.y id e fs::r,us,y,h,i,k,j=>by
  simp only[bB]at h;split at h<;>try trivial
  rename_i F cs C;split at h<;>try trivial
  split at h<;>try trivial
  rename_i x us' hx;split at h<;>try trivial
  rename_i Q w;obtain⟨g1,S,W,g4,g5⟩:=qT hx;simp only[bz,C]at j;split at j;rename_i hi;cases j;exact .inl ⟨hi,F,cs,C⟩;split at j;obtain⟨a,_,c⟩:=W _ k j;exact .inr ⟨a,c⟩;rcases jh w i k j with q|⟨q,H⟩
  exact .inl q;exact .inr ⟨λN=>q (S k N),H⟩
def oK{all:List MI}{sl:Nat->AV}:{L:List MI} -> {us:List Nat} -> {y:cR L}->bB all sl m L us=U y->∀ i j k,bz sl m L i=U k->bz sl m L j=U k->i=j
 |[],_,_,_,i,j,k,hs,_=>by simp[bz]at hs
 |.o t e ty::r,us,y,h,i,j,k,hi,u=>by
  simp only[bB]at h;split at h<;>try trivial
  rename_i hsl;split at h<;>try trivial
  rename_i hrw;split at h<;>try trivial
  rename_i y' N;simp only[bz,hsl]at hi u;split at hi;cases hi;split at u;cases u;exact oK N i j k hi u;rename_i id hsl;split at h<;>try trivial
  split at h<;>try trivial
  rename_i e' ty' l W;split at h<;>try trivial
  split at h<;>try trivial
  split at h<;>try trivial
  rename_i y' N;have H:∀ q,bz sl m r q=U id->False:=λq hq=>by
   rcases jh N q id hq with ⟨_,e2,cs,F⟩|⟨S,_⟩
   rw[W]at F;cases F;exact S (by simp)
  simp only[bz,hsl]at hi u;split at hi;rename_i C;split at u;rename_i w;rw[C,w];cases hi;exact(H j u).elim;split at u;cases u;exact(H i hi).elim;exact oK N i j k hi u
 |.x id e ty::r,us,y,h,i,j,k,hi,u=>by
  simp only[bB]at h;split at h<;>try trivial
  rename_i e' cs W;split at h<;>try trivial
  split at h<;>try trivial
  split at h<;>try trivial
  rename_i y' N;have H:∀ q,bz sl m r q=U id->q=id:=λq hq=>by
   rcases jh N q id hq with ⟨S,_⟩|⟨_,e2,t2,l2,F⟩
   exact S;rw[W]at F;cases F
  simp only[bz]at hi u;split at hi;rename_i C;cases hi;split at u;rename_i w;rw[C,w];rw[C,H j u];split at u;rename_i w;cases u;rw[w,H i hi];exact oK N i j k hi u
 |.r t id off::r,us,y,h,i,j,k,hi,u=>by
  simp only[bB]at h;split at h<;>try trivial
  split at h<;>try trivial
  exact oK h i j k hi u
 |.g t f id::r,us,y,h,i,j,k,hi,u=>by
  simp only[bB]at h;split at h<;>try trivial
  split at h<;>try trivial
  exact oK h i j k hi u
 |.al t s0::r,us,y,h,i,j,k,hi,u=>by
  simp only[bB]at h;split at h<;>try trivial
  all_goals (split at h<;>try trivial)
  all_goals exact oK h i j k hi u
 |.y id e fs::r,us,y,h,i,j,k,hi,u=>by
  simp only[bB]at h;split at h<;>try trivial
  rename_i e' cs W;split at h<;>try trivial
  split at h<;>try trivial
  rename_i x us' hx;split at h<;>try trivial
  rename_i y' N;obtain⟨g1,g2,g3,g4,g5⟩:=qT hx;have O:∀ q,bz sl m r q=U id->q=id:=λq hq=>by
   rcases jh N q id hq with ⟨S,_⟩|⟨_,e2,t2,l2,F⟩
   exact S;rw[W]at F;cases F
  have P:∀ p q k,cH cs p=U k->bz sl m r q=U k->False:=λp q k hp hq=>by
   obtain⟨_,b,e2,t2,l2,c⟩:=g3 p k hp;rcases jh N q k hq with ⟨_,e3,cs3,F⟩|⟨S,_⟩
   rw[c]at F;cases F;exact S b
  have Q:∀ p,cH cs p=U id->False:=λp hp=>by
   obtain⟨_,b,e2,t2,l2,c⟩:=g3 p id hp;rw[W]at c;cases c
  simp only[bz,W]at hi u;split at hi;rename_i C;cases hi;split at u;rename_i w;rw[C,w];split at u;exact(Q _ u).elim;rw[C,O j u];split at hi;rename_i hik;split at u;cases u;exact(Q _ hi).elim;split at u;rename_i hjk;have:=g4 _ _ k hi u;omega;exact(P _ _ k hi u).elim;split at u;rename_i w;cases u;rw[w,O i hi];split at u;exact(P _ _ k u hi).elim;exact oK N i j k hi u
def EZ(w:World)(v:Value)(j:Nat)(u:Value):Prop:=∃ b arr ty,v=.pointer (U ⟨b,0,V⟩)/\w.heap[b]?= U (.cells arr ty (0,0))/\arr[j]?= U u
def Td{e:Nat}{ty:Ty}{A:Prop}(C:e<dL):fI P B w F R (.slice V 0 0) (.arr e ty [])/\(A \/ ∀ b,¬ bK w (.arr e ty []) (.slice V 0 0) b):=by
 have m:∀ (i:Nat) (x:ty.den),([]:List ty.den)[i]? ≠ U x:=λi x h=>by simp at h
 refine⟨?_,.inr λb hb=>?_⟩;by_cases h:e<cj;exact .inl ⟨h,[],by simpa using ucr w B e ty.size,λg hg=>by simp[Value.ownBlock]at hg,λi x q=>absurd q (m i x),λu t=>by simp at t⟩;exact .inr (.inl ⟨Nat.not_lt.1 h,C,[],by simpa using ucr w B (rY e) ty.size,λg hg=>by simp[Value.ownBlock]at hg,λu t=>by simp at t,λi x k c q=>absurd q (m i x),λi x q=>absurd q (m i x),λi j H N b hi=>absurd hi (Nat.not_lt_zero i)⟩);rcases hb with hb|⟨_,i,u,hi,_⟩|hb
 simp[Value.ownBlock]at hb;exact absurd hi (Nat.not_lt_zero i);cases hb
def oN{all:List MI}{sl:Nat->AV}(S:MemOK P B w F γ m):{L:List MI} -> {us:List Nat} -> {y:cR L}->bB all sl m L us=U y->∀ i o,bG L y i=U o ->
  ∀ R':Nat->Value->Prop,(∀ id e fs,MI.y id e fs∈L->∀ j u,ql fs j->EZ w (γ id) j u->R' (cg id+j) u)->fI P B w F R' (bQ γ sl m L i) o/\((∃ k o0,bz sl m L i=U k/\m k=U o0/\∀ b,bK w o (bQ γ sl m L i) b->bK w o0 (γ k) b) \/ ∀ b,¬ bK w o (bQ γ sl m L i) b)
 |[],_,_,_,i,o,C=>by simp[bG]at C
 |.o t e ty::r,us,y,h,i,o,C=>by
  intro R' O;simp only[bB]at h;split at h<;>try trivial
  rename_i hsl;split at h<;>try trivial
  rename_i W;split at h<;>try trivial
  rename_i y' hy;cases h;by_cases hi:i=ba t;simp only[bG,if_pos hi,uck]at C;subst C;simp only[bQ,bz,if_pos hi,hsl];exact Td W;simp only[bG,if_neg hi]at C;have:=oN S hy i o C R' (λid e fs q=>O id e fs (ubi _ q));simp only[bQ,bz,if_neg hi]at this |-;exact this;rename_i id hsl;split at h<;>try trivial
  split at h<;>try trivial
  rename_i e' ty' l N;split at h<;>try trivial
  rename_i hty;split at h<;>try trivial
  rename_i Q;split at h<;>try trivial
  rename_i y' hy;cases h;by_cases hi:i=ba t;simp only[bG,if_pos hi,uck]at C;subst C;simp only[bQ,bz,if_pos hi,hsl];subst hty;subst Q;have hob:=S.ob id _ N;exact⟨hob,.inl ⟨id,_,rfl,N,λ_ h=>h⟩⟩;simp only[bG,if_neg hi]at C;have:=oN S hy i o C R' (λid e fs q=>O id e fs (ubi _ q));simp only[bQ,bz,if_neg hi]at this |-;exact this
 |.x id e ty::r,us,y,h,i,o,C=>by
  intro R' O;simp only[bB]at h;split at h<;>try trivial
  rename_i e' cs N;split at h<;>try trivial
  rename_i Q;split at h<;>try trivial
  rename_i x hx;split at h<;>try trivial
  rename_i y' hy;cases h;by_cases hi:i=id;simp only[bG,if_pos hi,uck]at C;subst C;simp only[bQ,bz,if_pos hi];subst Q;obtain⟨b,arr,h1,h2,h3,h4,h5,h6⟩:=S.ob id _ N;have hlen:=ku ty hx;refine⟨⟨b,arr,h1,h2,h3,h4,?_,aA.enc ty x (aA.dec ty hx h6).1⟩,.inl ⟨id,_,rfl,N,λ_ h=>h⟩⟩;rw[fl,h5,hlen];simp;simp only[bG,if_neg hi]at C;have:=oN S hy i o C R' (λid e fs q=>O id e fs (ubi _ q));simp only[bQ,bz,if_neg hi]at this |-;exact this
 |.r t id off::r,us,y,h,i,o,C=>by
  intro R' O;simp only[bB]at h;split at h<;>try trivial
  split at h<;>try trivial
  exact oN S h i o C R' (λid e fs q=>O id e fs (ubi _ q))
 |.g t f id::r,us,y,h,i,o,C=>by
  intro R' O;simp only[bB]at h;split at h<;>try trivial
  split at h<;>try trivial
  exact oN S h i o C R' (λid e fs q=>O id e fs (ubi _ q))
 |.al t s0::r,us,y,h,i,o,C=>by
  intro R' O;simp only[bB]at h;split at h<;>try trivial
  all_goals (split at h<;>try trivial)
  all_goals exact oN S h i o C R' (λid e fs q=>O id e fs (ubi _ q))
 |.y id e fs::r,us,y,h,i,o,C=>by
  intro R' O;simp only[bB]at h;split at h<;>try trivial
  rename_i e' cs N;split at h<;>try trivial
  rename_i Q;split at h<;>try trivial
  rename_i x us' hx;split at h<;>try trivial
  rename_i y' hy;cases h;subst Q;obtain⟨g1,g2,g3,g4,g5⟩:=qT hx;by_cases hi:i=id;simp only[bG,if_pos hi,uck]at C;subst C;simp only[bQ,bz,if_pos hi];obtain⟨b,arr,h1,h2,h3,h4,h5,h6⟩:=S.ob id _ N;refine⟨⟨b,arr,h1,h2,h3,h4,?_,?_⟩,.inl ⟨id,_,rfl,N,λ_ h=>h⟩⟩;rw[h5,g1,CV];refine ki _ λj c hc=>?_;have hj:j<fs.length:=by
   have:=(uak.1 hc).1;rw[CV]at this;exact this
  have hjc:j<cs.length:=by omega
  rcases HE hx 0 j c hc with ⟨rfl,H⟩|⟨t0,x0,c0,q1,q2,q3⟩
  obtain⟨u,p1,p2,_⟩:=aN.at_ h6 (uaq hjc);refine⟨u,p1,p2,?_⟩;rw[ueu];exact O id _ fs ucb j u H ⟨b,arr,_,h1,h2,p1⟩;obtain⟨u,p1,p2⟩:=aN.at_ h6 q1;have hr1:aN P w F (ap m γ) [c0] (λi v=>i=0/\v=u):=⟨⟨u,⟨rfl,rfl⟩,p2⟩,uT⟩;have hr2:=aA.enc (P:=P) (R:=R') t0 x0 (aA.dec t0 q2 hr1).1;rw[<- q3]at hr2;obtain⟨⟨u',⟨_,rfl⟩,p3⟩,_⟩:=hr2;exact⟨u',p1,p3⟩;by_cases hk:cg id<=i/\i<cg id+fs.length;simp only[bG,if_neg hi,if_pos hk]at C;simp only[bQ,bz,if_neg hi,if_pos hk,N];rcases g5 _ o C with ⟨a,e0,t0,rfl,W⟩|⟨k,a,b⟩
  have H:cH cs (i-cg id)=none:=by simp[cH,a]
  rw[H];exact Td W;have H:cH cs (i-cg id)=U k:=by simp[cH,a]
  rw[H];have hkm:=b;obtain⟨_,_,e2,t2,l2,hc⟩:=g3 _ k H;rw[hc]at hkm;cases hkm;exact⟨S.ob k _ hc,.inl ⟨k,_,rfl,hc,λ_ h=>h⟩⟩;simp only[bG,if_neg hi,if_neg hk]at C;have:=oN S hy i o C R' (λid e fs q=>O id e fs (ubi _ q));simp only[bQ,bz,if_neg hi,if_neg hk]at this |-;exact this
def mS{all:List MI}{sl:Nat->AV}{id:Nat}:{L:List MI} -> {us:List Nat} -> {y:cR L}->bB all sl m L us=U y->iN id L=Z->(∀ t e ty,MI.o t e ty∈L->ba t≠id)->id<1000000000000000000000000000000->∃ o,bG L y id=U o/\bz sl m L id=U id
 |[],_,_,_,h,_,_=>by simp[iN]at h
 |.o t e ty::r,us,y,h,w,j,u=>by
  have O:¬ id=ba t:=λP=>j t e ty (by simp) P.symm;simp only[bB]at h;split at h<;>try trivial
  split at h<;>try trivial
  rename_i W;split at h<;>try trivial
  rename_i Q N;cases h;simp only[bG,bz,if_neg O];exact mS N w (λH C q F=>j H C q (ubi _ F)) u;split at h<;>try trivial
  split at h<;>try trivial
  split at h<;>try trivial
  split at h<;>try trivial
  split at h<;>try trivial
  rename_i Q N;cases h;simp only[bG,bz,if_neg O];exact mS N w (λH C q F=>j H C q (ubi _ F)) u
 |.x i e ty::r,us,y,h,w,j,u=>by
  simp only[bB]at h;split at h<;>try trivial
  split at h<;>try trivial
  split at h<;>try trivial
  split at h<;>try trivial
  rename_i Q N;cases h;by_cases hi:id=i;simp only[bG,bz,if_pos hi];exact⟨_,rfl,by rw[hi]⟩;simp only[bG,bz,if_neg hi];simp only[iN,udq,ufe]at w;exact mS N (w.resolve_left (λh=>hi h.symm)) (λH C q F=>j H C q (ubi _ F)) u
 |.r t i off::r,us,y,h,w,j,u=>by
  simp only[bB]at h;split at h<;>try trivial
  split at h<;>try trivial
  exact mS (L:=r) h w (λH C q F=>j H C q (ubi _ F)) u
 |.g t f i::r,us,y,h,w,j,u=>by
  simp only[bB]at h;split at h<;>try trivial
  split at h<;>try trivial
  exact mS (L:=r) h w (λH C q F=>j H C q (ubi _ F)) u
 |.al t s0::r,us,y,h,w,j,u=>by
  simp only[bB]at h;split at h<;>try trivial
  all_goals (split at h<;>try trivial)
  all_goals exact mS (L:=r) h w (λH C q F=>j H C q (ubi _ F)) u
 |.y i e fs::r,us,y,h,w,j,u=>by
  simp only[bB]at h;split at h<;>try trivial
  split at h<;>try trivial
  split at h<;>try trivial
  split at h<;>try trivial
  rename_i Q N;cases h;by_cases hi:id=i;simp only[bG,bz,if_pos hi];exact⟨_,rfl,by rw[hi]⟩;have S:¬ (cg i<=id/\id<cg i+fs.length):=λP=>by
   have:=P.1;unfold cg at this;omega
  simp only[bG,bz,if_neg hi,if_neg S];simp only[iN,udq,ufe]at w;exact mS N (w.resolve_left (λh=>hi h.symm)) (λH C q F=>j H C q (ubi _ F)) u
end
def zD:List MI->List Nat
 |[]=>[]
 |.y id _ _::r=>id::zD r
 |_::r=>zD r
def b9:List MI->Bool
 |[]=>Z
 |.o t _ _::r=>J (t<1000000000000000000000000000000)&&b9 r
 |.x id _ _::r=>J (id<1000000000000000000000000000000)&&b9 r
 |.r _ id _::r=>J (id<1000000000000000000000000000000)&&b9 r
 |.g _ _ i::r=>i.all (λid=>J (id<1000000000000000000000000000000))&&b9 r
 |.al _ _::r=>b9 r
 |.y id _ fs::r=>J (id<1000000000000000000000000000000)&&(J (fs.length<=1000)&&(!(zD r).contains id&&b9 r))
def LS.low(L:LS):Bool:=b9 L.ms
section
variable {P:Program} {B:Nat} {w w':World} {E:Env} {F F':Nat->Prop} {γ γ' γ0:Nat->Value} {Γ:Gm} {M m:aT} {R:Nat->Value->Prop}
def oZ{id:Nat}{t:Tmp}:{ms:List MI}->b9 ms=Z -> .r t id off∈ms->id<1000000000000000000000000000000
 |[],_,h=>by simp at h
 |.o _ _ _::r,h,j=>by
  simp only[b9,uda]at h;rcases uef.1 j with i|i
  cases i;exact oZ h.2 i
 |.x _ _ _::r,h,j=>by
  simp only[b9,uda]at h;rcases uef.1 j with i|i
  cases i;exact oZ h.2 i
 |.r _ _ _::r,h,j=>by
  simp only[b9,uda,uct]at h;rcases uef.1 j with i|i
  cases i;exact h.1;exact oZ h.2 i
 |.g _ _ _::r,h,j=>by
  simp only[b9,uda]at h;rcases uef.1 j with i|i
  cases i;exact oZ h.2 i
 |.al _ _::r,h,j=>by
  simp only[b9]at h;rcases uef.1 j with i|i
  cases i;exact oZ h i
 |.y _ _ _::r,h,j=>by
  simp only[b9,uda]at h;rcases uef.1 j with i|i
  cases i;exact oZ h.2.2.2 i
def rq{m:List Nat}{t:Tmp}:{ms:List MI}->b9 ms=Z -> .g t f m∈ms->∀ id∈m,id<1000000000000000000000000000000
 |[],_,h=>by simp at h
 |.o _ _ _::r,h,j=>by
  simp only[b9,uda]at h;rcases uef.1 j with i|i
  cases i;exact rq h.2 i
 |.x _ _ _::r,h,j=>by
  simp only[b9,uda]at h;rcases uef.1 j with i|i
  cases i;exact rq h.2 i
 |.r _ _ _::r,h,j=>by
  simp only[b9,uda]at h;rcases uef.1 j with i|i
  cases i;exact rq h.2 i
 |.g _ _ _::r,h,j=>by
  simp only[b9,uda]at h;rcases uef.1 j with i|i
  cases i;exact λid q=>ucw (uc6.1 h.1 id q);exact rq h.2 i
 |.al _ _::r,h,j=>by
  simp only[b9]at h;rcases uef.1 j with i|i
  cases i;exact rq h i
 |.y _ _ _::r,h,j=>by
  simp only[b9,uda]at h;rcases uef.1 j with i|i
  cases i;exact rq h.2.2.2 i
def qtg{ms:List MI}(h:b9 ms=Z){id:Nat}{t:Tmp}(i : .r t id off∈ms):∀ j:Tmp,ba j≠id:=by
 have:=oZ h i;unfold ba;omega
def Cf:{fs:List YF}->(y:jD fs) -> {j:Nat}->ql fs j->∃ e t l,kI fs y j=U (.arr e t l)
 |[],_,_,⟨_,_,h⟩=>by simp at h
 |(U e,t)::_,y,0,_=>⟨e,t,y.1,rfl⟩
 |(U _,_)::r,y,j+1,⟨e,t,h⟩=>Cf y.2 ⟨e,t,by simpa using h⟩
 |(V,_)::r,y,j+1,⟨e,t,h⟩=>Cf y.2 ⟨e,t,by simpa using h⟩
def sr{id:Nat}{fs:List YF}:{L:List MI} -> .y id e fs∈L->id∈zD L
 |[],h=>by simp at h
 |.o _ _ _::r,h=>by
  rcases uef.1 h with i|i
  cases i;exact sr (L:=r) i
 |.x _ _ _::r,h=>by
  rcases uef.1 h with i|i
  cases i;exact sr (L:=r) i
 |.r _ _ _::r,h=>by
  rcases uef.1 h with i|i
  cases i;exact sr (L:=r) i
 |.g _ _ _::r,h=>by
  rcases uef.1 h with i|i
  cases i;exact sr (L:=r) i
 |.al _ _::r,h=>by
  rcases uef.1 h with i|i
  cases i;exact sr (L:=r) i
 |.y _ _ _::r,h=>by
  rcases uef.1 h with i|i
  cases i;simp[zD];exact ubi _ (sr i)
def oL{all:List MI}{sl:Nat->AV}(hm:MemOK P B w F γ m){id:Nat}{fs:List YF}(W:ql fs j)(hc:EZ w (γ id) j u):
  {L:List MI} -> {us:List Nat} -> {y:cR L}->bB all sl m L us=U y->b9 L=Z -> .y id e fs∈L->id<1000000000000000000000000000000->fs.length<=1000 ->
  (∃ e t l,bG L y (cg id+j)=U (.arr e t l))/\bQ γ sl m L (cg id+j)=u
 |[],_,_,_,_,h,_,_=>by simp at h
 |.o t e' ty::r,us,y,h,i,C,O,N=>by
  simp only[b9,uda,uct]at i;have key:∀ t':Nat,t'<1000000000000000000000000000000->¬ cg id+j=1000000000000000000000000000000+t':=λt' h=>by unfold cg;omega
  have S:¬ cg id+j=ba t:=key t i.1;have q:MI.y id e fs∈r:=by
   rcases uef.1 C with H|H
   cases H;exact H
  simp only[bB]at h;split at h<;>try trivial
  split at h<;>try trivial
  rename_i hrw;split at h<;>try trivial
  rename_i y' hy;cases h;have:=oL hm W hc hy i.2 q O N;simpa only[bG,bQ,bz,if_neg S]using this;split at h<;>try trivial
  split at h<;>try trivial
  split at h<;>try trivial
  split at h<;>try trivial
  split at h<;>try trivial
  rename_i y' hy;cases h;have:=oL hm W hc hy i.2 q O N;simpa only[bG,bQ,bz,if_neg S]using this
 |.x Q e' ty::r,us,y,h,i,C,O,N=>by
  simp only[b9,uda,uct]at i;have S:¬ cg id+j=Q:=by have:=i.1;unfold cg;omega
  have q:MI.y id e fs∈r:=by
   rcases uef.1 C with H|H
   cases H;exact H
  simp only[bB]at h;split at h<;>try trivial
  split at h<;>try trivial
  split at h<;>try trivial
  split at h<;>try trivial
  rename_i y' hy;cases h;have:=oL hm W hc hy i.2 q O N;simpa only[bG,bQ,bz,if_neg S]using this
 |.r t Q off::r,us,y,h,i,C,O,N=>by
  simp only[b9,uda]at i;have q:MI.y id e fs∈r:=by
   rcases uef.1 C with H|H
   cases H;exact H
  simp only[bB]at h;split at h<;>try trivial
  split at h<;>try trivial
  exact oL (L:=r) hm W hc h i.2 q O N
 |.g t f' Q::r,us,y,h,i,C,O,N=>by
  simp only[b9,uda]at i;have q:MI.y id e fs∈r:=by
   rcases uef.1 C with H|H
   cases H;exact H
  simp only[bB]at h;split at h<;>try trivial
  split at h<;>try trivial
  exact oL (L:=r) hm W hc h i.2 q O N
 |.al t s0::r,us,y,h,i,C,O,N=>by
  have q:MI.y id e fs∈r:=by
   rcases uef.1 C with H|H
   cases H;exact H
  simp only[bB]at h;split at h<;>try trivial
  all_goals (split at h<;>try trivial)
  all_goals exact oL (L:=r) hm W hc h i q O N
 |.y Q e' fs'::r,us,y,h,i,C,O,N=>by
  simp only[b9,uda,uct,ucu,List.contains_eq_mem,uav]at i;obtain⟨l1,l2,l3,l4⟩:=i;simp only[bB]at h;split at h<;>try trivial
  rename_i e2 cs hmm;split at h<;>try trivial
  split at h<;>try trivial
  rename_i x us' hx;split at h<;>try trivial
  rename_i y' hy;cases h;have S:¬ cg id+j=Q:=by unfold cg;omega
  by_cases hii:id=Q;subst hii;have hhead:fs=fs':=by
   rcases uef.1 C with H|H
   cases H;rfl;exact absurd (sr H) l3
  subst hhead;have hjl:=W.lt;have hk:cg id<=cg id+j/\cg id+j<cg id+fs.length:=⟨by omega,by omega⟩;simp only[bG,bQ,bz,if_neg S,if_pos hk,hmm,uax];refine⟨Cf x W,?_⟩;obtain⟨g1,g2,g3,g4,g5⟩:=qT hx;obtain⟨ee,tt,ll,hget⟩:=Cf x W;obtain⟨b,arr,ty,q1,q2,q3⟩:=hc;obtain⟨b',arr',p1,p2,_,_,p5,p6⟩:=hm.ob id _ hmm;rw[q1]at p1;cases p1;rw[q2]at p2;cases p2;rcases g5 j _ hget with ⟨a,_⟩|⟨k,a,hk2⟩
  have hown:cH cs j=none:=by simp[cH,a]
  rw[hown];obtain⟨u',r1,_,r3⟩:=aN.at_ p6 a;rw[q3]at r1;cases r1;exact r3.symm;have hown:cH cs j=U k:=by simp[cH,a]
  rw[hown];obtain⟨u',r1,_,r3⟩:=aN.at_ p6 a;rw[q3]at r1;cases r1;have r4:ap m γ k u:=r3;simp only[ap,hk2]at r4;exact r4.symm;have q:MI.y id e fs∈r:=by
   rcases uef.1 C with H|H
   cases H;exact absurd rfl hii;exact H
  have hjl:=W.lt;have hk:¬ (cg Q<=cg id+j/\cg id+j<cg Q+fs'.length):=by unfold cg;omega
  have:=oL hm W hc hy l4 q O N;simpa only[bG,bQ,bz,if_neg S,if_neg hk]using this
def ru{id:Nat}{fs:List YF}:{ms:List MI}->b9 ms=Z -> .y id e fs∈ms->id<1000000000000000000000000000000/\fs.length<=1000
 |[],_,h=>by simp at h
 |.o _ _ _::r,h,j=>by
  simp only[b9,uda]at h;rcases uef.1 j with i|i
  cases i;exact ru h.2 i
 |.x _ _ _::r,h,j=>by
  simp only[b9,uda]at h;rcases uef.1 j with i|i
  cases i;exact ru h.2 i
 |.r _ _ _::r,h,j=>by
  simp only[b9,uda]at h;rcases uef.1 j with i|i
  cases i;exact ru h.2 i
 |.g _ _ _::r,h,j=>by
  simp only[b9,uda]at h;rcases uef.1 j with i|i
  cases i;exact ru h.2 i
 |.al _ _::r,h,j=>by
  simp only[b9]at h;rcases uef.1 j with i|i
  cases i;exact ru h i
 |.y _ _ _::r,h,j=>by
  simp only[b9,uda,uct]at h;rcases uef.1 j with i|i
  cases i;exact⟨h.1,h.2.1⟩;exact ru h.2.2.2 i
def pK{all:List MI}{sl:Nat->AV}{tm:Nat->Value}(hsl:∀ t,i7 P w F (ap m γ) tm (sl t) (tm t)):{L:List MI} -> {us:List Nat} -> {y:cR L}->bB all sl m L us=U y->b9 L=Z->∀ i,
  bx L i=.dead\/(bx L i=.c (.own (ba i))/\(∃ e t l,bG L y (ba i)=U (.arr e t l))/\bQ γ sl m L (ba i)=tm i/\(tm i).oneCell'=Z/\i<1000000000000000000000000000000) \/
  (∃ id off,bx L i=.c (jS id off)/\sl i=.c (jS id off)/\iN id all=Z/\∃ t,.r t id off∈L) \/
  (∃ f ids,bx L i=.c (.fn f (px ids))/\sl i=.c (.fn f (px ids))/\(∀ id∈ids,iN id all=Z)/\∃ t,.g t f ids∈L) \/
  ∃ s0,bx L i=.c (.own (ba s0))/\jj s0 all=Z/\((∃ k,sl i=.c (.own k)/\sl s0=.c (.own k))\/(sl i=.c .nil/\sl s0=.c .nil))
 |[],_,_,_,_,i=>.inl rfl
 |.o t e ty::r,us,y,h,u,i=>by
  have C:b9 r=true:=by
   simp only[b9,uda]at u;exact u.2
  have hti:t<1000000000000000000000000000000:=by
   simp only[b9,uda,uct]at u;exact u.1
  have hs:=hsl t;simp only[bB]at h;split at h<;>try trivial
  rename_i H;split at h<;>try trivial
  rename_i hrw;split at h<;>try trivial
  rename_i y' hy;cases h;by_cases hi:i=t;subst hi;refine .inr (.inl ⟨by simp[bx],⟨e,ty,[],by simp[bG]⟩,?_,?_,hti⟩);simp only[bQ,bz,H];rw[H]at hs;exact hs.2.symm;rw[H]at hs;exact hs.1;have hne:¬ ba i=ba t:=λhh=>hi (by unfold ba at hh;omega);rcases pK hsl hy C i with q|q|⟨id,off,q,O,Q,N,S⟩|⟨f2,W,q,O,Q,N,S⟩|⟨s5,q,h5⟩
  exact .inl (by simpa only[bx,if_neg hi]using q);exact .inr (.inl (by simpa only[bx,bG,bQ,bz,if_neg hi,if_neg hne]using q));exact .inr (.inr (.inl ⟨id,off,by simpa only[bx,if_neg hi]using q,O,Q,N,ubi _ S⟩));exact .inr (.inr (.inr (.inl ⟨f2,W,by simpa only[bx,if_neg hi]using q,O,Q,N,ubi _ S⟩)));exact .inr (.inr (.inr (.inr ⟨s5,by simpa only[bx,if_neg hi]using q,h5⟩)));rename_i id H;split at h<;>try trivial
  split at h<;>try trivial
  rename_i e' ty' l hmm;split at h<;>try trivial
  split at h<;>try trivial
  split at h<;>try trivial
  rename_i y' hy;cases h;by_cases hi:i=t;subst hi;rw[H]at hs;refine .inr (.inl ⟨by simp[bx],⟨e,ty,_,by simp[bG];rfl⟩,?_,hs.1,hti⟩);simp only[bQ,bz,H];have:=hs.2;simp only[bc,ap,hmm]at this;exact this.symm;have hne:¬ ba i=ba t:=λhh=>hi (by unfold ba at hh;omega);rcases pK hsl hy C i with q|q|⟨id,off,q,O,Q,N,S⟩|⟨f2,W,q,O,Q,N,S⟩|⟨s5,q,h5⟩
  exact .inl (by simpa only[bx,if_neg hi]using q);exact .inr (.inl (by simpa only[bx,bG,bQ,bz,if_neg hi,if_neg hne]using q));exact .inr (.inr (.inl ⟨id,off,by simpa only[bx,if_neg hi]using q,O,Q,N,ubi _ S⟩));exact .inr (.inr (.inr (.inl ⟨f2,W,by simpa only[bx,if_neg hi]using q,O,Q,N,ubi _ S⟩)));exact .inr (.inr (.inr (.inr ⟨s5,by simpa only[bx,if_neg hi]using q,h5⟩)))
 |.x id e ty::r,us,y,h,u,i=>by
  have C:b9 r=Z/\id<1000000000000000000000000000000:=by
   simp only[b9,uda,uct]at u;exact⟨u.2,u.1⟩
  simp only[bB]at h;split at h<;>try trivial
  split at h<;>try trivial
  split at h<;>try trivial
  split at h<;>try trivial
  rename_i y' hy;cases h;have hne:¬ ba i=id:=λhh=>by
   unfold ba at hh;omega
  rcases pK hsl hy C.1 i with q|q|⟨id',off,q,O,Q,N,S⟩|⟨f2,W,q,O,Q,N,S⟩|⟨s5,q,h5⟩
  exact .inl (by simpa only[bx]using q);exact .inr (.inl (by simpa only[bx,bG,bQ,bz,if_neg hne]using q));exact .inr (.inr (.inl ⟨id',off,by simpa only[bx]using q,O,Q,N,ubi _ S⟩));exact .inr (.inr (.inr (.inl ⟨f2,W,by simpa only[bx]using q,O,Q,N,ubi _ S⟩)));exact .inr (.inr (.inr (.inr ⟨s5,by simpa only[bx]using q,h5⟩)))
 |.r t id off::r,us,y,h,u,i=>by
  have C:b9 r=true:=by
   simp only[b9,uda]at u;exact u.2
  simp only[bB]at h;split at h<;>try trivial
  rename_i i' o' H;split at h<;>try trivial
  rename_i hc;obtain⟨rfl,rfl,hx⟩:=hc;by_cases hi:i=t;subst hi;exact .inr (.inr (.inl ⟨i',o',by simp[bx],qwz H,hx,i,by simp⟩));rcases pK (L:=r) hsl h C i with q|q|⟨id',off,q,O,Q,N,S⟩|⟨f2,W,q,O,Q,N,S⟩|⟨s5,q,h5⟩
  exact .inl (by simpa only[bx,if_neg hi]using q);exact .inr (.inl (by simpa only[bG,bQ,bz,bx,if_neg hi]using q));exact .inr (.inr (.inl ⟨id',off,by simpa only[bx,if_neg hi]using q,O,Q,N,ubi _ S⟩));exact .inr (.inr (.inr (.inl ⟨f2,W,by simpa only[bx,if_neg hi]using q,O,Q,N,ubi _ S⟩)));exact .inr (.inr (.inr (.inr ⟨s5,by simpa only[bx,if_neg hi]using q,h5⟩)))
 |.g t f id::r,us,y,h,u,i=>by
  have C:b9 r=true:=by
   simp only[b9,uda]at u;exact u.2
  simp only[bB]at h;split at h<;>try trivial
  rename_i f' cs H;split at h<;>try trivial
  rename_i hc;obtain⟨rfl,hp,hx⟩:=hc;rw[Um hp]at H;by_cases hi:i=t;subst hi;exact .inr (.inr (.inr (.inl ⟨f',id,by simp[bx],H,λj hj=>uc6.1 hx j hj,i,by simp⟩)));rcases pK (L:=r) hsl h C i with q|q|⟨id',off,q,O,Q,N,S⟩|⟨f2,W,q,O,Q,N,S⟩|⟨s5,q,h5⟩
  exact .inl (by simpa only[bx,if_neg hi]using q);exact .inr (.inl (by simpa only[bG,bQ,bz,bx,if_neg hi]using q));exact .inr (.inr (.inl ⟨id',off,by simpa only[bx,if_neg hi]using q,O,Q,N,ubi _ S⟩));exact .inr (.inr (.inr (.inl ⟨f2,W,by simpa only[bx,if_neg hi]using q,O,Q,N,ubi _ S⟩)));exact .inr (.inr (.inr (.inr ⟨s5,by simpa only[bx,if_neg hi]using q,h5⟩)))
 |.al t s0::r,us,y,h,u,i=>by
  have C:b9 r=true:=by
   exact u
  have fin:bB all sl m r us=U y->jj s0 all=Z->((∃ k,sl t=.c (.own k)/\sl s0=.c (.own k))\/(sl t=.c .nil/\sl s0=.c .nil)) ->
    bx (.al t s0::r) i=.dead\/(bx (.al t s0::r) i=.c (.own (ba i))/\(∃ e N l,bG (.al t s0::r) y (ba i)=U (.arr e N l))/\bQ γ sl m (.al t s0::r) (ba i)=tm i/\(tm i).oneCell'=Z/\i<1000000000000000000000000000000) \/
    (∃ id off,bx (.al t s0::r) i=.c (jS id off)/\sl i=.c (jS id off)/\iN id all=Z/\∃ N,.r N id off∈(.al t s0::r:List MI)) \/
    (∃ f ids,bx (.al t s0::r) i=.c (.fn f (px ids))/\sl i=.c (.fn f (px ids))/\(∀ id∈ids,iN id all=Z)/\∃ N,.g N f ids∈(.al t s0::r:List MI)) \/
    ∃ s1,bx (.al t s0::r) i=.c (.own (ba s1))/\jj s1 all=Z/\((∃ k,sl i=.c (.own k)/\sl s1=.c (.own k))\/(sl i=.c .nil/\sl s1=.c .nil)):=λh hx hs0=>by
   by_cases hi:i=t;subst hi;exact Or.inr (.inr (.inr (.inr ⟨s0,by simp[bx],hx,hs0⟩)));rcases pK (L:=r) hsl h C i with q|q|⟨id',off,q,O,Q,N,S⟩|⟨f2,W,q,O,Q,N,S⟩|⟨s5,q,h5⟩
   exact .inl (by simpa only[bx,if_neg hi]using q);exact .inr (.inl (by simpa only[bG,bQ,bz,bx,if_neg hi]using q));exact .inr (.inr (.inl ⟨id',off,by simpa only[bx,if_neg hi]using q,O,Q,N,ubi _ S⟩));exact .inr (.inr (.inr (.inl ⟨f2,W,by simpa only[bx,if_neg hi]using q,O,Q,N,ubi _ S⟩)));exact .inr (.inr (.inr (.inr ⟨s5,by simpa only[bx,if_neg hi]using q,h5⟩)))
  simp only[bB]at h;split at h<;>try trivial
  rename_i k1 k2 hs1 hs2;split at h<;>try trivial
  rename_i hc;obtain⟨rfl,hx⟩:=hc;exact fin h hx (.inl ⟨k1,hs1,hs2⟩);rename_i hs1 hs2;split at h<;>try trivial
  rename_i hx;exact fin h hx (.inr ⟨hs1,hs2⟩)
 |.y id e fs::r,us,y,h,u,i=>by
  have C:b9 r=Z/\id<1000000000000000000000000000000:=by
   simp only[b9,uda,uct]at u;exact⟨u.2.2.2,u.1⟩
  simp only[bB]at h;split at h<;>try trivial
  split at h<;>try trivial
  split at h<;>try trivial
  split at h<;>try trivial
  rename_i y' hy;cases h;have hne:¬ ba i=id:=λhh=>by
   unfold ba at hh;omega
  rcases pK hsl hy C.1 i with q|q|⟨id',off,q,O,Q,N,S⟩|⟨f2,W,q,O,Q,N,S⟩|⟨s5,q,h5⟩
  exact .inl (by simpa only[bx]using q);have hk:¬ (cg id<=ba i/\ba i<cg id+fs.length):=λhh=>by
   have:=hh.1;unfold ba cg at this;omega
  exact .inr (.inl (by simpa only[bx,bG,bQ,bz,if_neg hne,if_neg hk]using q));exact .inr (.inr (.inl ⟨id',off,by simpa only[bx]using q,O,Q,N,ubi _ S⟩));exact .inr (.inr (.inr (.inl ⟨f2,W,by simpa only[bx]using q,O,Q,N,ubi _ S⟩)));exact .inr (.inr (.inr (.inr ⟨s5,by simpa only[bx]using q,h5⟩)))
def Ti{a:Nat}(h:ba a=ba b):a=b:=by
 unfold ba at h;omega
def qul{a id:Nat}(h:a<1000000000000000000000000000000):¬ cg id<=ba a:=by
 unfold ba cg;omega
def rg{s0:Tmp}:{L:List MI}->b9 L=Z->jj s0 L=Z->s0<1000000000000000000000000000000
 |[],_,h=>by simp[jj]at h
 |.o t _ _::r,i,h=>by
  simp only[b9,uda,uct]at i;simp only[jj,udq,ufe]at h;rcases h with rfl|h
  exact i.1;exact rg i.2 h
 |.x _ _ _::r,i,h=>by
  simp only[b9,uda]at i;exact rg i.2 h
 |.r _ _ _::r,i,h=>by
  simp only[b9,uda]at i;exact rg i.2 h
 |.g _ _ _::r,i,h=>by
  simp only[b9,uda]at i;exact rg i.2 h
 |.al _ _::r,i,h=>by
  exact rg (L:=r) i h
 |.y _ _ _::r,i,h=>by
  simp only[b9,uda]at i;exact rg i.2.2.2 h
def oM{all:List MI}{sl:Nat->AV}{s0:Tmp}(j:s0<1000000000000000000000000000000):{L:List MI} -> {us:List Nat} -> {y:cR L}->bB all sl m L us=U y->b9 L=Z->jj s0 L=Z ->
  (∃ e t l,bG L y (ba s0)=U (.arr e t l))/\((∃ k e t l,sl s0=.c (.own k)/\m k=U (.arr e t l)/\bQ γ sl m L (ba s0)=γ k)\/(sl s0=.c .nil/\bQ γ sl m L (ba s0)=.slice V 0 0))
 |[],_,_,_,_,h=>by simp[jj]at h
 |.o t e ty::r,us,y,h,i,w=>by
  simp only[b9,uda]at i;simp only[jj,udq,ufe]at w;simp only[bB]at h;split at h<;>try trivial
  rename_i q;split at h<;>try trivial
  rename_i S;split at h<;>try trivial
  rename_i O F;cases h;by_cases hi:t=s0;subst hi;refine⟨⟨e,ty,[],by simp[bG]⟩,.inr ⟨q,?_⟩⟩;simp only[bQ,bz,if_true,q];have u:=λC=>hi (Ti C).symm;have:=oM j F i.2 (w.resolve_left hi);simpa only[bG,bQ,bz,if_neg u]using this;rename_i id q;split at h<;>try trivial
  split at h<;>try trivial
  rename_i P N l H;split at h<;>try trivial
  split at h<;>try trivial
  split at h<;>try trivial
  rename_i O F;cases h;by_cases hi:t=s0;subst hi;refine⟨⟨e,ty,_,by simp[bG];rfl⟩,.inl ⟨id,P,N,l,q,H,?_⟩⟩;simp only[bQ,bz,if_true,q];have u:=λC=>hi (Ti C).symm;have:=oM j F i.2 (w.resolve_left hi);simpa only[bG,bQ,bz,if_neg u]using this
 |.x id e ty::r,us,y,h,i,w=>by
  simp only[b9,uda,uct]at i;simp only[bB]at h;split at h<;>try trivial
  split at h<;>try trivial
  split at h<;>try trivial
  split at h<;>try trivial
  rename_i O F;cases h;have u:¬ ba s0=id:=λC=>by
   unfold ba at C;omega
  have:=oM j F i.2 w;simpa only[bG,bQ,bz,if_neg u]using this
 |.r t id off::r,us,y,h,i,w=>by
  simp only[b9,uda]at i;simp only[bB]at h;split at h<;>try trivial
  split at h<;>try trivial
  exact oM (L:=r) j h i.2 w
 |.g t f id::r,us,y,h,i,w=>by
  simp only[b9,uda]at i;simp only[bB]at h;split at h<;>try trivial
  split at h<;>try trivial
  exact oM (L:=r) j h i.2 w
 |.al t s1::r,us,y,h,i,w=>by
  simp only[bB]at h;split at h<;>try trivial
  all_goals (split at h<;>try trivial)
  all_goals exact oM (L:=r) j h i w
 |.y id e fs::r,us,y,h,i,w=>by
  simp only[b9,uda,uct]at i;simp only[bB]at h;split at h<;>try trivial
  split at h<;>try trivial
  split at h<;>try trivial
  split at h<;>try trivial
  rename_i O F;cases h;have u:¬ ba s0=id:=λC=>by
   unfold ba at C;omega
  have Q:¬ (cg id<=ba s0/\ba s0<cg id+fs.length):=λC=>qul j C.1;have:=oM j F i.2.2.2 w;simpa only[bG,bQ,bz,if_neg u,if_neg Q]using this
def Vj{f:Nat->AV}{m:Nat->Value}:{vs:List (Tmp×PT)} -> {x:ag (vs.map (·.2))}->cJ P w F (vs.map (·.2)) x (vs.map λv=>m v.1)->(∀ i,aE P w F R (f i) (m i))->∀ i,aE P w F R (pL vs x f i) (m i)
 |[],_,_,j,i=>j i
 |(t,p)::r,x,h,j,i=>by
  obtain⟨v,H,q,u,C⟩:=h;obtain⟨rfl,rfl⟩:=q;simp only[pL];split;rename_i hi;subst hi;exact P4 u;exact Vj C j i
def vG{i:Tmp->Value}:{x:AV} -> {u:Value}->aE P w F R x u->dP P w F R i x u
 |.dead,_,h=>h
 |.c _,_,h=>h
 |.agg _,_,h=>h
 |.tup _,_,h=>h
 |.optr _ _ _ _,_,h=>h
 |.aptr _ _ _,_,h=>h
 |.maybe _ _ _,_,h=>h.elim
def U0{sl:Nat->AV}{i:Nat->Value}(h:∀ t,aE P w F R (sl t) (i t)):(ts:List Nat)->bj P w F R (ts.map sl) (ts.map i)
 |[]=>trivial
 |t::r=>⟨h t,U0 h r⟩
def rm{s:St}{a:Act}(hi:InvG P E s a w [] F γ)(t:Tmp):aE P w F (ap s.mem γ) (s.sl t) (a.tmps.getD t undef):=by
 have:=hi.sl t;cases j:s.sl t with
 |maybe g i v=>
  have:=hi.hg t g i v j;simp at this
 |_=>rw[j]at this;exact this
def eZ(a:Act)(E:Env)(t:Nat):Value:=if t<10000 then a.tmps.getD t undef else E.G (t-10000)
def RP{s:St}{a:Act}(hi:InvG P E s a w [] F γ)(t:Nat):aE P w F (ap s.mem γ) (s.at t) (eZ a E t):=by
 unfold St.at eZ;split;exact rm hi t;exact hi.gh _
def qxg{i:Tmp->Value}{x:AV}(h:aE P w F R x u):i7 P w F R i x u:=by
 cases x<;>first|exact h|exact h.elim
def qtu{m:aT}(t:MemOK P B w F γ m)(hb:∀ b,F b->b<w.heap.size):(i:MI)->∃ F',Step B w F γ m w F' γ (CG m i)/\MemOK P B w F' γ (CG m i):=by
 intro i;unfold CG;split<;>try exact⟨F,Step.refl hb,t⟩
 rename_i id e0 ty0;split<;>try exact⟨F,Step.refl hb,t⟩
 rename_i e cs N;split<;>try exact⟨F,Step.refl hb,t⟩
 rename_i cs' u Q;split<;>try exact⟨F,Step.refl hb,t⟩
 rename_i e2 cs2 j;obtain⟨b,arr,e1,C,e3,e4,e5,e6⟩:=t.ob id _ N;obtain⟨F1,s1,W,t1,l1,r1⟩:=yR t hb (cX.of λ_ _ h=>h) Q e6;obtain⟨b',S,H,f2,f3,f4,f5,f6⟩:=W.ob id _ j;rw[e1]at H;simp at H;subst H;have hR:∀ i v,ap (ax m u) γ i v->ap (upd (ax m u) id (.box e cs')) γ i v:=nx j (by simp);have q:Step B w F1 γ (ax m u) w F1 γ (upd (ax m u) id (.box e cs')):=
  ⟨λc h=>h,λ_ _=>rfl,hR,λ_ _=>rfl,rfl,rfl,rfl,ue6 _,s1.bd,λc h=>.inl h⟩
 have O:MemOK P B w F1 γ (upd (ax m u) id (.box e cs')):=by
  refine W.change j (by simp) q.hF q.hw (λc h=>?_) (λc _ _=>⟨rfl,λh=>h⟩) ?_;rw[e1]at h |-;exact h;exact⟨b,arr,e1,C,f3,e4,by rw[e5,l1],q.repCL r1⟩
 refine⟨F1,?_,?_⟩;rw[gc];exact s1.trans q;rw[gc];exact O
def SR:(L:List MI) -> {m:aT} -> {F:Nat->Prop}->MemOK P B w F γ m->(∀ b,F b->b<w.heap.size)->∃ F',Step B w F γ m w F' γ (yk L m)/\MemOK P B w F' γ (yk L m)
 |[],m,F,j,hb=>⟨F,Step.refl hb,j⟩
 |i::r,m,F,j,hb=>by
  obtain⟨F1,s1,q⟩:=qtu j hb i;obtain⟨F2,s2,t⟩:=SR r q s1.bd;exact⟨F2,s1.trans s2,t⟩
def jG(hΓ:kN P Γ){L:LS}(C:L.low=Z){s:St}{a:Act}(hi:I P E s a w){x:L.X}{n:List Prop}(h:L.ext Γ s=U (x,n))(hn:av n):I P E (L.tpl s.n x) a w:=by
 obtain⟨F,γ,hi⟩:=hi;have hsl:=RP hi;unfold LS.ext at h;split at h<;>try trivial
 rename_i xs u hrs;split at h<;>try trivial
 rename_i xv n' hdec;split at h<;>try trivial
 rename_i y m;cases h;have hreps:bj P w F (ap s.mem γ) (L.vs.map λv=>s.at v.1) (L.vs.map λv=>eZ a E v.1):=by
  have:=U0 hsl (L.vs.map (·.1));simpa[Function.comp_def]using this
 obtain⟨F0,hs0,hm0,_,hxs0⟩:=iy hi.mem (dv hi) (cX.of λ_ _ h=>h) hrs hreps;obtain⟨F',hs1,hm⟩:=SR L.ms hm0 hs0.bd;have hs:=hs0.trans hs1;have hxs:=zE hs1.hF hs1.hw hs1.hR hxs0;generalize yk L.ms (ax s.mem u)=Q at *;have hps:=mK hΓ hdec hn hxs;have O:=λt=>aE.mono hs.hF hs.hw hs.hR _ (hsl t);have hcases:=pK (λt=>qxg (O t)) m C;have hob:=oN hm m;have hHR:∀ id e fs,MI.y id e fs∈L.ms->∀ j v,ql fs j->EZ w (γ id) j v->ap (bG L.ms y) (bQ γ s.at Q L.ms) (cg id+j) v:=by
  intro id e fs hmem j v hj hc;obtain⟨h30,hfs⟩:=ru C hmem;obtain⟨⟨e',t',l,S⟩,h2⟩:=oL hm hj hc m C hmem h30 hfs;unfold ap;rw[S];exact h2.symm
 have W:∀ t,aE P w F' (ap (bG L.ms y) (bQ γ s.at Q L.ms)) (pL L.vs xv (bx L.ms) t) (eZ a E t):=by
  refine Vj hps (λi=>?_);rcases hcases i with S|⟨S,⟨e,t',l,h2⟩,h3,h4,_⟩|⟨id,off,S,h2,h3,t',h4⟩|⟨f,id,S,h2,h3,t',h4⟩|⟨s0,S,hx,h5⟩
  rw[S];trivial;rw[S];refine⟨h4,?_⟩;show ap (bG L.ms y) (bQ γ s.at Q L.ms) (ba i) (eZ a E i);unfold ap;rw[h2];exact h3.symm;rw[S];have q:=O i;rw[h2]at q;obtain⟨b,hR,hre⟩:=qwx q.2;refine⟨q.1,hre _ ?_⟩;obtain⟨o,hmo,H⟩:=mS m h3 (λt e ty _=>qtg C h4 t) (oZ C h4);have hg:bQ γ s.at Q L.ms id=γ id:=by unfold bQ;rw[H]
  have hv':(Value.pointer (U ⟨b,0,V⟩))=γ id:=by
   rcases jh m id id H with ⟨_,e,cs,hb⟩|⟨_,e,t2,l2,hb⟩
   simpa[ap,hb]using hR;simpa[ap,hb]using hR
  unfold ap;rw[hmo];cases o<;>first|trivial|exact hv'.trans hg.symm
  rw[S];have q:=O i;rw[h2]at q;obtain⟨one,arr,hv,hsz,hcl⟩:=q;refine⟨one,arr,hv,hsz,?_⟩;have hlow':=rq C h4;have key:∀ (N:List Nat) (g:Nat->Value->Prop),(∀ id∈N,iN id L.ms=Z)->(∀ id∈N,id<1000000000000000000000000000000)->aN P w F' (ap Q γ) (px N) g->aN P w F' (ap (bG L.ms y) (bQ γ s.at Q L.ms)) (px N) g:=by
   intro N
   induction N with
   |nil=>intro g _ _ _;trivial
   |cons id N ih=>
    intro g h3 hl hr;obtain⟨⟨u0,k1,k2,b,hR,k4⟩,hrest⟩:=hr;refine⟨⟨u0,k1,k2,b,?_,k4⟩,ih _ (λj hj=>h3 j (ubi _ hj)) (λj hj=>hl j (ubi _ hj)) hrest⟩;obtain⟨o,hmo,H⟩:=mS m (h3 id (by simp)) (λt e ty _=>by have:=hl id (by simp);unfold ba;omega) (hl id (by simp));have hg:bQ γ s.at Q L.ms id=γ id:=by unfold bQ;rw[H]
    have hv':(Value.pointer (U ⟨b,0,V⟩))=γ id:=by
     rcases jh m id id H with ⟨_,e,cs,hb⟩|⟨_,e,t2,l2,hb⟩
     simpa[ap,hb]using hR;simpa[ap,hb]using hR
    unfold ap;rw[hmo];cases o<;>first|trivial|exact hv'.trans hg.symm
  exact key _ _ h3 hlow' hcl;rw[S];obtain⟨⟨e,t',l,h2⟩,h6⟩:=oM (rg C hx) m C hx;have q:=O i;have key:eZ a E i=bQ γ s.at Q L.ms (ba s0)/\(eZ a E i).oneCell'=true:=by
   rcases h6 with ⟨k,e1,t1,l1,k1,k2,k3⟩|⟨k1,k2⟩
   rcases h5 with ⟨k',q1,q2⟩|⟨q1,q2⟩
   rw[q2]at k1;cases k1;rw[q1]at q;have hv:ap Q γ _ (eZ a E i):=q.2;simp only[ap,k2]at hv;exact⟨hv.trans k3.symm,q.1⟩;rw[q2]at k1;cases k1;rcases h5 with ⟨k',q1,q2⟩|⟨q1,q2⟩
   rw[q2]at k1;cases k1;rw[q1]at q;exact⟨q.2.trans k2.symm,q.1⟩
  refine⟨key.2,?_⟩;show ap (bG L.ms y) (bQ γ s.at Q L.ms) (ba s0) (eZ a E i);unfold ap;rw[h2];exact key.1
 refine⟨F',bQ γ s.at Q L.ms,hi.n,hi.df,?_,⟨λid o ho=>(hob id o ho _ hHR).1,λi j oi oj b hij hoi hoj hb hb'=>?_⟩,λt=>?_,λt g want v ht=>?_,λt=>?_⟩;obtain⟨γ0,h0⟩:=hi.step;have:=h0.trans hs;exact⟨γ0,this.hF,this.hw,λ_ _ hh=>hh.elim,this.old,this.os,this.tape,this.output,this.size,this.bd,this.new⟩;rcases(hob i oi hoi _ hHR).2 with ⟨k,o0,s1,m1,e1⟩|e1
 rcases(hob j oj hoj _ hHR).2 with ⟨k',o0',s2,Q,e2⟩|e2
 by_cases hk:k=k';subst hk;exact hij (oK m i j k s1 s2);exact hm.apart k k' o0 o0' b hk m1 Q (e1 b hb) (e2 b hb');exact e2 b hb';exact e1 b hb;show dP P w F' _ _ (if t<10000 then pL L.vs xv (bx L.ms) t else .dead) _;split;rename_i ht;have:=W t;unfold eZ at this;rw[if_pos ht]at this;exact vG this;trivial;exfalso;have ht':(if t<10000 then pL L.vs xv (bx L.ms) t else .dead)=.maybe g want v:=ht;split at ht';have:=W t;rw[ht']at this;exact this;cases ht';have:=W (t+10000);unfold eZ at this;rw[if_neg (by omega),ubz]at this;exact this
end
end Go.Ab
