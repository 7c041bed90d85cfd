/-
  Parts of the proof, one behind the other.
-/
import Derived.Test.YtdokapnnagbehaaGreatMe
import Derived.RangeFuncNested
import Derived.Lib.Overlaps
import Derived.Lib.AppendZerosOnto
import Derived.Laws.NewBlocks
import Derived.LoopN
set_option linter.all false
set_option maxRecDepth 100000
set_option maxHeartbeats 4000000
open Option renaming some->U,none->V
open Bool renaming true->Z,false->Y
open Decidable renaming decide->J
open Go Go.RowKit
variable {T α σ ρ β:Type} {P:Program} {ad:Addr} {arr cs cur:Array Value} {f:FuncId} {x a y day:Int} {k:IntKind} {l:List Int} {xs vs news:List Value} {off i n b c d j B m len:Nat} {F F' K:Nat->Prop} {R g R':Nat->Value->Prop} {o:Oper} {p:Prop} {e ety t ty el:TypeId} {v u vx:Value} {w w' W' W:World}
namespace Go.Ab
open Go Go.RowKit
def qub(a:Pc):Ct:=⟨a.ps,a.rs,a.f,λx=>(a.bad x=Y)::a.ok x⟩
def gP(C:Cx)(f:FuncId):Option Ct:=match C.Γ f with
 |some a=>U a
 |none=>(C.Pi f).map qub
structure Pan where
 bad:Bool
 pv:PV
 good:List Prop
def jO(C:Cx)(o:Oper)(d:Nat->AV):Option Pan:=
 match o.guard,o.op,o.op.operands.toList.map (gC d)with
 |none,.call ⟨.value _,_,_⟩,.c (.fn f a)::args=>match C.Pi f with
  |some b=>match dK (λ_=>V) (args++a.map .c)with
   |some (xs,[])=>match jf C.Γ b.ps xs with
    |some (x,n)=>U ⟨b.bad x,b.pv x,n++b.ok x⟩
    |none=>V
   |_=>V
  |none=>V
 |_,_,_=>V
def kX(P:Program)(C:Cx)(b:Nat)(ops:List Oper):List Oper->St->Option (List (Ef×Option Pan)×St)
 |[],s=>U ([],s)
 |o::r,s=>match dY P (gP C) b ops o s.sl s.mem with
  |some e=>match kX P C b ops r (e.go s)with
   |some (es,a)=>U ((e,jO C o s.sl)::es,a)
   |none=>V
  |none=>V
def IG(pv:PV):Ef×Option Pan->List Prop
 |(e,V)=>e.need
 |(e,U p)=>[p.bad=Y->av e.need,p.bad=Z->av p.good/\p.pv=pv]
def Lu(d:St)(all:List (Ef×Option Pan))(a:Tr):List Pan->Tr
 |[]=>a
 |p::r=>.br p.bad (needL (all.flatMap (IG p.pv)) (.leaf (.panic p.pv) d)) (Lu d all a r)
def E0(ops:List Oper)(es:List (Ef×Option Pan)):Bool:=
 let b:=fW [] ops
 (List.range es.length).all λk=>match es[k]?,b[k]? with
  |some (f,_),U a=>f.wr.isEmpty || (List.range es.length).all λi=>match es[i]? with
   |some (_,U _)=>a.testBit i
   |_=>Z
  |_,_=>Y
def tL(ops:List Oper)(es:List (Ef×Option Pan)):List Tmp:=
 let b:=fW [] ops
 (List.range es.length).filterMap λk=>match es[k]?,b[k]? with
  |some (f,_),U a=>if (List.range es.length).all (λi=>match es[i]? with
   |some (_,U _)=>a.testBit i
   |_=>Z)then V else f.dst
  |_,_=>V
def yf(D:List Tmp)(a:Nat->AV)(t:Tmp):AV:=if D.contains t then .dead else iF a t
def Kn(P:Program)(C:Cx)(b:Nat)(ops:List Oper)(s:St):Option Tr:=
 if pM s.n 0 [] ops then match kX P C b ops ops s with
  |some (es,a)=>if r9 ops (es.map (·.1))=Z/\E0 ops es=Z then
    U (Lu ⟨s.n,yf (tL ops es) s.sl,s.mem,s.gs⟩ es (JH (es.map (·.1)) (.leaf .normal (fk a))) (es.filterMap (·.2)))
   else V
  |none=>V
 else V
section
variable {P:Program} {w w':World} {E:Env} {F F':Nat->Prop} {b:Nat} {γ γ' γ0:Nat->Value} {ops:Array Oper} {es:List (Ef×Option Pan)} {C:Cx}
def qme(j:CxOK P C):∀ f c,gP C f=U c->af P f c:=by
 intro f c h;unfold gP at h;split at h;rename_i k d;cases h;exact j.ct.1 f _ d;cases g:C.Pi f with
 |none=>rw[g]at h;cases h
 |some i=>
  rw[g]at h;cases h;obtain⟨l,m⟩:=j.pc f i g;refine⟨l,λw F xs vs n o a=>?_⟩;obtain⟨b,a⟩:i.bad xs=Y/\av (i.ok xs):=je.1 a;refine(m w F xs vs n o a).mono λe w' h=>?_;rcases h with h|h
  exact h.2;rw[b]at h;cases h.1
def qv6{b a:Nat->AV}(h:∀ t∈wh o.op,a t=b t):jO C o a=jO C o b:=by
 unfold jO;rw[PM h]
def TV{b:Nat->AV}(h:o.guard≠V):jO C o b=none:=by
 unfold jO;split;rename_i a _ _;exact absurd a h;rfl
def qgh{Γ:Gm}{c:List Oper}{f:Nat->AV}{m:aT}{e:Ef}(a:dY P Γ b c o f m=U e)(d:o.guard=V):e.rd=wh o.op:=by
 unfold dY at a;rw[d]at a;simp only at a;split at a<;>try trivial
 cases a;rfl
def TU{Γ:Gm}{h:List Oper}{e f:Ef}{s:St}(k:dY P Γ b h o s.sl s.mem=U f)(j:∀ t,e.dst=U t->t ∉ f.rd):jO C o (e.go s).sl=jO C o s.sl:=by
 cases a:o.guard with
 |some g=>rw[TV (by rw[a];simp),TV (by rw[a];simp)]
 |none=>
  refine qv6 λt i=>?_;show e8 s.sl e.dst e.v t=s.sl t;rw[<- qgh k a]at i;cases l:e.dst with
  |none=>rfl
  |some x=>
   have c:t≠x:=λd=>j x l (d ▸ i);exact ufw c
def sZ(P:Program)(C:Cx)(b:Nat)(ops:Array Oper)(es:List (Ef×Option Pan))(a:St):List Nat->St->Prop
 |[],s=>s=a
 |i::r,s=>∃ o e p,ops[i]?= U o/\es[i]?= U (e,p)/\dY P (gP C) b ops.toList o s.sl s.mem=U e/\jO C o s.sl=p/\sZ P C b ops es a r (e.go s)
def UV{j:St}:(l:List Oper)->(k:Nat)->(s:St)->(c:List (Ef×Option Pan))->kX P C b ops.toList l s=U (c,j)->(∀ i o,l[i]?= U o->ops[k+i]?= U o) ->
  (∀ i e,c[i]?= U e->es[k+i]?= U e)->sZ P C b ops es j (List.range' k l.length) s
 |[],k,s,c,h,_,_=>by
  simp only[kX,ucl,ueg]at h;exact h.2
 |o::r,k,s,c,h,g,f=>by
  simp only[kX]at h;split at h<;>try trivial
  rename_i e a;split at h<;>try trivial
  rename_i d q n;cases h;refine⟨o,e,_,by simpa using g 0 o rfl,by simpa using f 0 _ rfl,a,rfl,?_⟩;refine UV r (k+1) _ d n (λi p hi=>?_) (λi m hi=>?_);have:=g (i+1) p (by simpa using hi)
  rwa [show k+1+i=k+(i+1) by omega]
  have:=f (i+1) m (by simpa using hi)
  rwa [show k+1+i=k+(i+1) by omega]
def UR{e:List Oper}:(l:List Oper)->(s:St)->(d:List (Ef×Option Pan))->(a:St)->kX P C b e l s=U (d,a)->a.n=s.n
 |[],s,d,a,h=>by
  simp only[kX,ucl,ueg]at h;rw[h.2]
 |o::r,s,d,a,h=>by
  simp only[kX]at h;split at h<;>try trivial
  split at h<;>try trivial
  rename_i c g f;cases h;exact(UR r _ c _ f).trans rfl
def UQ{d:List Oper}:(l:List Oper)->(s:St)->(a:List (Ef×Option Pan))->(e:St)->kX P C b d l s=U (a,e)->a.length=l.length
 |[],s,a,e,h=>by
  simp only[kX,ucl,ueg]at h;rw[<- h.1];rfl
 |o::r,s,a,e,h=>by
  simp only[kX]at h;split at h<;>try trivial
  split at h<;>try trivial
  rename_i c g f;cases h;simp[UQ r _ c _ f]
def QK{H:St}:(d:List Nat)->(s:St)->sZ P C b ops es H d s->d.Pairwise (· < ·)->j∈d ->
  (∀ i∈d,i<j->∀ e f,es[i]?= U e->es[j]?= U f->zl3 e.1 f.1=Z) ->
  ∃ o f p,ops[j]?= U o/\es[j]?= U (f,p)/\dY P (gP C) b ops.toList o s.sl s.mem=U f/\jO C o s.sl=p/\sZ P C b ops es H (d.erase j) (f.go s)
 |[],_,_,_,x,_=>by simp at x
 |i::r,s,M,G,x,hi=>by
  obtain⟨o,e,p,F,w,c,g,u⟩:=M;by_cases l:i=j;subst l;refine⟨o,e,p,F,w,c,g,?_⟩;rw[ubl];exact u
  ·have q:j∈r:=by
    rcases uei.1 x with h|h
    exact absurd h.symm l;exact h
   have z:=(uca.1 G).1 j q;obtain⟨N,f,O,A,m,K,B,D⟩:=QK r (e.go s) u (uca.1 G).2 q (λk L y=>hi k (ubj _ L) y);have a:=hi i (by simp) z _ _ w m;have v:=Cn a;have n:=P0 a K;refine⟨N,f,O,A,m,n,(TU n (λt E=>(v.1 t E).1)).symm.trans B,?_⟩;rw[List.erase_cons_tail (by simpa using l)];refine⟨o,e,p,F,w,P1 a c,(TU c (λt E=>v.2.1 t E)).trans g,?_⟩;rw[<- QS a];exact D
def qv7(hC:CxOK P C){N:St}{a:Act}{W:List Tmp}{p:Pan}(hi:InvG P E N a w W F γ)(h:jO C o N.sl=U p)(M:p.bad=Z)(hn:av p.good)(K:Act->World->Prop)(Q:Exit->Act->World->Prop)(hq:∀ w',I P E (fk N) a w'->Q (.panic [{ v:=p.pv.val,recovered:=Y }]) a w'):o.guard=V/\o.wp P a w K Q:=by
 unfold jO at h;split at h<;>try trivial
 rename_i f0 d ts f k args hg ho hvs;refine⟨hg,?_⟩;split at h<;>try trivial
 rename_i pc hpc;split at h<;>try trivial
 rename_i xs D;split at h<;>try trivial
 rename_i x n A;cases h;obtain⟨S,T⟩:=jd.1 hn;have z:=oH hi.sl o.op.operands.toList;rw[hvs]at z;have B:o.op.operands.toList.map a.eval=a.eval f0::(d.map a.eval).toList:=by simp[ho,Op.operands,Call.operands]
 rw[B]at z;obtain⟨⟨_,R⟩,r⟩:=z;obtain⟨L,e1,e2,e3⟩:=R;have s:=OA e2 e3;have G:(∀ args w,(callFunc f args).run P w=.ok (.enter f args) w)->(execOp a.eval o).run P w=.ok (.enter f (d.map a.eval++L)) w:=λu=>by
  unfold execOp;rw[ho];simp[resolve,e1,Deferred.ofValue,invoke,u]
 have du:((d.map a.eval).toList++L.toList).toArray=d.map a.eval++L:=by simp
 have m:(args++k.map AV.c).all fX=true:=by
  have:∀ (l:List AV),(∃ xs u',dK (λ_=>V) l=U (xs,u'))->l.all fX=true:=by
   intro l
   induction l with
   |nil=>intros;rfl
   |cons y l ih=>
    rintro⟨xs,u',hx⟩;simp only[dK]at hx;split at hx<;>try trivial
    rename_i h1 h2;simp only[uej,udc];refine⟨?_,ih ⟨_,_,h2⟩⟩;cases y<;>first|rfl|(simp[pD]at h1)
  exact this _ ⟨_,_,D⟩
 have i:bj P w F (ap N.mem γ) (args++k.map AV.c) ((d.map a.eval).toList++L.toList):=by
  refine Dz (rW r ?_) s;rw[udn,udc]at m;exact m.1
 obtain⟨F1,s1,m1,_,r1⟩:=iy hi.mem (dv hi) (cX.of λ_ _ h=>by cases h) D i;have hps:=mK hC.ct A S r1;obtain⟨u,j⟩:=hC.pc f pc hpc;have hc:=j w F1 x _ s1.bd hps T;unfold Oper.wp;rw[G u];rw[du]at hc;have O:pc.bad x=true:=M;refine hc.mono λe w2 hp=>?_;rcases hp with ⟨g,_⟩|⟨g,rfl,q⟩
 rw[O]at g;cases g;refine hq w2 ⟨F1,γ,?_⟩;obtain⟨s2,m2⟩:=Step.below m1 (nM hi) s1.bd q (λ_ h=>h) (λb M=>⟨.inl M,ucb (s1.bd b M) q.size⟩);have H:=s1.trans s2;obtain⟨γ0,h0⟩:=hi.step;exact oV ⟨hi.n,hi.df,⟨γ0,h0.trans H⟩,m2,λt=>(hi.sl t).mono H.hF H.hw H.hR,hi.hg,λt=>H.repA (hi.gh t)⟩
def qog{f:St}{a:Act}{D:List Tmp}{i:St}(h:InvG P E (fk f) a w [] F γ)(l:∀ t,t ∉ D->f.sl t=i.sl t):InvG P E ⟨f.n,yf D i.sl,f.mem,f.gs⟩ a w [] F γ:=by
 refine⟨h.n,h.df,h.step,h.mem,λt=>?_,λt g c v m=>?_,h.gh⟩;show dP P w F _ _ (if D.contains t then AV.dead else iF i.sl t) _;split;trivial;rename_i j;have d:=λk=>j (by simpa using k);have e:iF i.sl t=iF f.sl t:=by
  unfold iF;rw[l t d]
 rw[e];exact h.sl t;have b:(if D.contains t then AV.dead else iF i.sl t)=.maybe g c v:=m;split at b;cases b;rename_i j;have d:=λk=>j (by simpa using k);have e:iF i.sl t=iF f.sl t:=by
  unfold iF;rw[l t d]
 rw[e]at b;exact h.hg t g c v b
def zU(pv:PV)(x:Ef×Option Pan):Prop:=match x.2 with
 |none=>av x.1.need
 |some p=>(p.bad=Y->av x.1.need)/\(p.bad=Z->av p.good/\p.pv=pv)
def qmt{pv:PV}{x:Ef×Option Pan}(h:av (IG pv x)):zU pv x:=by
 obtain⟨e,p⟩:=x;cases p with
 |none=>exact h
 |some p=>exact⟨h.1,h.2⟩
def sY(P:Program)(E:Env)(C:Cx)(b:Nat)(ops:Array Oper)(es:List (Ef×Option Pan))(D:List Tmp)(f g:St)(c:List Nat)(a:Act)(w:World):Prop:=
 ∃ d W F γ,InvG P E d a w W F γ/\(∀ t,t∈W↔∃ k o,ops[k]?= U o/\k ∉ c/\o.dst=U t)/\sZ P C b ops es g c d/\d.n=g.n/\d.gs=f.gs /\
  (∀ (k:Nat) e p,es[k]?= U (e,U p)->k ∉ c->p.bad=Y)/\((∃ k:Nat,∃ e p,k∈c/\es[k]?= U (e,U p))->d.mem=f.mem/\∀ t,t ∉ D->d.sl t=f.sl t)
def qw7(hC:CxOK P C){D:List Tmp}{B s':St}{c:List Nat}{a:Act}(hi:sY P E C b ops es D B s' c a w)(hj:j∈c)(hp:c.Pairwise (· < ·))(z:∀ i∈c,i<j->∀ e f,es[i]?= U e->es[j]?= U f->zl3 e.1 f.1=Z)(A:∀ o j' s,ops[j]?= U o->o.guard=U (j',s)->j' ∉ c)(hst:StatOK s'.n ops){pv:PV}(N:∀ (i:Nat) x,es[i]?= U x->zU pv x)(hwr:∀ f p,es[j]?= U (f,p)->(f.wr ≠ [] \/ ∃ t,f.dst=U t/\t ∉ D)->∀ (k:Nat) e q,es[k]?= U (e,U q)->k ∉ c)(hn0:B.n=s'.n)(K:Act->World->Prop)(Q:Exit->Act->World->Prop)(hK:∀ L w',sY P E C b ops es D B s' (c.erase j) L w'->K L w')(hQ:(∃ k:Nat,∃ e p,es[k]?= U (e,U p)/\p.bad=Z)->∀ L w',I P E ⟨B.n,yf D B.sl,B.mem,B.gs⟩ L w'->Q (.panic [{ v:=pv.val,recovered:=Y }]) L w'):wpOp P ops Q j K a w:=by
 obtain⟨st,W,F,γ,G,hW,hruns,hn,hgs,M,H⟩:=hi;obtain⟨o,f,p,ho,hf,heff,hpan,hr⟩:=QK c st hruns hp hj z;have hnd:=yq hp;have d:∀ k,k ∉ c.erase j↔k=j\/k ∉ c:=λk=>by
  rw[hnd.mem_erase_iff];constructor;intro h;by_cases u:k=j;exact .inl u;exact .inr λh'=>h ⟨u,h'⟩;rintro(h|h) ⟨y,h2⟩;exact y h;exact h h2
 unfold wpOp;rw[ho];simp only;have hg:=N j _ hf;by_cases l:∃ q,p=U q/\q.bad=Z;obtain⟨q,rfl,hq⟩:=l;obtain⟨hgq,hpv⟩:=hg.2 hq;have r:=H ⟨j,f,q,hj,hf⟩;have key:=qv7 hC (K:=K) (Q:=Q) G hpan hq hgq (λw' R=>by
  rw[hpv];refine hQ ⟨j,f,q,hf,hq⟩ a w' ?_;obtain⟨F1,γ1,R⟩:=R;rw[hn0,<- hn,<- r.1,<- hgs];exact⟨F1,γ1,qog R r.2⟩)
 have hw:Region.wanted o (yielded ops a.tmps)=true:=by simp[Region.wanted,key.1]
 rw[ufv hw];exact .inl key.2;have hneed:av f.need:=by
  cases p with
  |none=>exact hg
  |some q=>
   refine hg.1 ?_;cases hq:q.bad with
   |false=>rfl
   |true=>exact absurd ⟨q,rfl,hq⟩ l
 have key:=JQ (Γ:=⟨gP C,λ_=>V⟩) ⟨qme hC,λ_ _ h=>(nomatch h)⟩ G heff hneed (λx hx=>⟨by rw[hn];exact hst.lt j o x ho hx,λhxW=>by
   obtain⟨k,ok,hok,u,hd⟩:=(hW x).1 hxW;have:=hst.once j k o ok x ho hok hx hd;subst this;exact u hj⟩)
  (λj' s g hg hd=>by
   have y:=A o j' s ho hg;cases ho':ops[j']? with
   |none=>rw[ho']at hd;cases hd
   |some o'=>
    rw[ho']at hd;exact(hW g).2 ⟨j',o',ho',y,hd⟩)
  K Q (λL w' F' γ' O=>hK L w' ⟨f.go st,_,F',γ',O,λt=>?_,hr,hn,hgs,λk e q u m=>?_,λhex=>?_⟩)
 split;rename_i hw;rw[ufv hw]at key;exact .inl key;rename_i hw;rw[ufw hw]at key;exact key;rw[uds,hW];constructor;rintro(h|⟨k,ok,y,h2,h3⟩);exact⟨j,o,ho,(d j).2 (.inl rfl),by simpa using h⟩;exact⟨k,ok,y,(d k).2 (.inr h2),h3⟩;rintro⟨k,ok,y,h2,h3⟩;rcases(d k).1 h2 with rfl|h
 rw[ho]at y;cases y;exact .inl (by simp[h3]);exact .inr ⟨k,ok,y,h,h3⟩;rcases(d k).1 m with rfl|h
 rw[hf]at u;cases u;cases hq:q.bad with
 |false=>rfl
 |true=>exact absurd ⟨q,rfl,hq⟩ l
 exact M k e q u h;obtain⟨k,e,q,u,S⟩:=hex;have m:=ua8 u;have r:=H ⟨k,e,q,m,S⟩;refine⟨?_,λt ht=>?_⟩;show ax st.mem f.wr=B.mem;have hnil:f.wr=[]:=by
  apply Classical.byContradiction;intro T;exact hwr f p hf (.inl T) k e q S m
 rw[hnil];exact r.1;show e8 st.sl f.dst f.v t=B.sl t;rw[<- r.2 t ht];cases hx:f.dst with
 |none=>rfl
 |some x=>
  have T:t≠x:=λhtx=>by
   subst htx;exact hwr f p hf (.inr ⟨t,hx,ht⟩) k e q S m
  exact ufw T
def zde(h:E0 ops.toList es=Z){f:Ef}{p:Option Pan}(l:es[j]?= U (f,p))(g:f.wr ≠ []){k:Nat}{e:Ef}{q:Pan}(m:es[k]?= U (e,U q)):((fW [] ops.toList).getD j 0).testBit k=true:=by
 unfold E0 at h;rw[uc8]at h;have c:=(uak.1 l).1;have d:=(uak.1 m).1;have a:=h j (ud9.2 c);rw[l]at a;split at a;rename_i r s n b o;cases b;rw[udt]at a;rcases a with a|a
 exact absurd (by simpa using a) g;rw[uc8]at a;have i:=a k (ud9.2 d);rw[m]at i;rw[uah,o];exact i;cases a
def qge{f:Ef}{p:Option Pan}{t:Tmp}(g:es[j]?= U (f,p))(i:f.dst=U t)(n:t ∉ tL ops.toList es){b:Nat}(l:(fW [] ops.toList)[j]?= U b){k:Nat}{e:Ef}{q:Pan}(h:es[k]?= U (e,U q)):b.testBit k=true:=by
 apply Classical.byContradiction;intro m;apply n;have c:=(uak.1 g).1;have d:=(uak.1 h).1;refine ub9.2 ⟨j,ud9.2 c,?_⟩;rw[g,l];show(if _ then V else f.dst)=U t;rw[ufw,i];intro a;rw[uc8]at a;have:=a k (ud9.2 d);rw[h]at this;exact m this
def Ut(hC:CxOK P C){D:List Tmp}(hD:D=tL ops.toList es){s0 s':St}(O:StatOK s'.n ops)(S:r9 ops.toList (es.map (·.1))=Z)(T:E0 ops.toList es=Z){pv:PV}(B:∀ (i:Nat) x,es[i]?= U x->zU pv x)(hn0:s0.n=s'.n)(Q:Exit->Act->World->Prop)(hQ:∀ a w,sY P E C b ops es D s0 s' [] a w->Q .normal a w)(hQp:(∃ k:Nat,∃ e p,es[k]?= U (e,U p)/\p.bad=Z)->∀ a' w',I P E ⟨s0.n,yf D s0.sl,s0.mem,s0.gs⟩ a' w'->Q (.panic [{ v:=pv.val,recovered:=Y }]) a' w'):
  (g:Nat)->∀ (u:List Nat) (c:Array Bool) (a:Act) (w:World),u.length<=g->u.Pairwise (· < ·)->c.size=ops.size->(∀ i,i<ops.size->(c.getD i Z=Y↔i∈u))->(∀ i∈u,i<ops.size) ->
   (∀ k,k<ops.size->k ∉ u->∀ i,((fW [] ops.toList).getD k 0).testBit i=Z->i ∉ u)->sY P E C b ops es D s0 s' u a w->wpAny P .any ops Q g c a w
 |g,[],c,a,w,_,_,hsz,hl,_,_,hi=>by
  have y:Region.ready .any ops c=[]:=by
   apply List.eq_nil_iff_forall_not_mem.2;intro i d;obtain⟨W,o,ho,_⟩:=ufo.1 d;have L:=(uaf.1 ho).1;simpa using (hl i L).1 W
  cases g with
  |zero=>exact⟨y,hQ a w hi⟩
  |succ g=>exact⟨λ_=>hQ a w hi,λi d=>by rw[y]at d;simp at d⟩
 |0,i::r,_,_,_,R,_,_,_,_,_,_=>by simp at R
 |g+1,i::r,c,a,w,R,hp,hsz,hl,L,H,hi=>by
  have z:i∈Region.ready .any ops c:=by
   have hio:=L i (by simp);refine ufo.2 ⟨(hl i hio).2 (by simp),ops[i],by simp,λe he A=>?_⟩;have hback:=O.back i ops[i] (by simp) e he A;have hnot:e.on ∉ i::r:=λhh=>by
    rcases uei.1 hh with h|h
    omega;have:=(uca.1 hp).1 _ h;omega
   have W:=λh=>hnot ((hl e.on (by omega)).1 h);have hsz':e.on<c.size:=by omega
   simp only[uac,uam hsz']at W |-;simpa using W
  refine⟨λy=>by rw[y]at z;simp at z,λj hj=>?_⟩;obtain⟨hj1,o,ho,F⟩:=ufo.1 hj;have hjlt:=(uaf.1 ho).1;have G:=(hl j hjlt).1 hj1;have s:∀ b,c.getD b Y=Z->b<ops.size/\b ∉ i::r:=λb A=>by
   have hbs:b<c.size:=by
    rcases uep b c.size with h|h
    exact h;simp[ua1 h]at A
   refine⟨by omega,λd=>?_⟩;have:=(hl b (by omega)).2 d;simp only[uac,uam hbs,udd]at A this;rw[A]at this;cases this
  obtain⟨m,M,hm2⟩:=(JA ops.toList []).2 j o (by simpa using ho);simp at M;have N:∀ b,((fW [] ops.toList).getD j 0).testBit b=Z->b ∉ i::r:=λb A=>by
   rw[uah,M]at A;obtain⟨e,he,hb',hor⟩:=hm2 b A;obtain⟨W,h2⟩:=s e.on (F e he hb');rcases hor with rfl|h
   exact h2;exact H e.on W h2 b h
  have hnd:=yq hp;refine qw7 hC hi G hp (λk K l e f he hf=>?_) (λo' j' want ho' hg d=>?_) O B (λf p hf hne k e q K=>?_) hn0 _ Q (λa' w' h'=>?_) hQp;have he':(es.map (·.1))[k]?= U e.1:=by rw[uco,he];rfl
  have hf':(es.map (·.1))[j]?= U f.1:=by rw[uco,hf];rfl
  exact(TA S he' hf' l).resolve_left λh=>N k h K;obtain⟨_,e,he,heq,A⟩:=O.guard j o' j' want ho' hg;rw[ho]at ho';cases ho';have:=(s e.on (F e he A)).2;rw[heq]at this;exact this d;rcases hne with hne|⟨t,hdt,htD⟩
  exact N k (zde T hf hne K);refine N k ?_;rw[uah,M];exact qge hf hdt (hD ▸ htD) M K;refine Ut hC hD O S T B hn0 Q hQ hQp g _ (c.setIfInBounds j Z) a' w' ?_ (TS hp j) (by simpa using hsz) (λk K=>?_) (λk K=>L k (ua8 K)) (λk K hkr b A=>?_) h';rw[List.length_erase_of_mem G];omega;rw[hnd.mem_erase_iff];by_cases l:j=k;subst l;simp[hsz];simp only[uac,uaa l];rw[<- uac,hl k K];constructor;exact λh=>⟨Ne.symm l,h⟩;exact λh=>h.2;rw[hnd.mem_erase_iff]at hkr |-;rintro⟨W,h2⟩;by_cases l:k=j;subst l;exact N b A h2;exact H k K (λhh=>hkr ⟨l,hh⟩) b A h2
def Wg{d:St}{all:List (Ef×Option Pan)}{a:Tr}{Q:XE->St->Prop}:{ps:List Pan}->(Lu d all a ps).sat Q->(∃ p∈ps,p.bad=Z/\av (all.flatMap (IG p.pv))/\Q (.panic p.pv) d)\/((∀ p∈ps,p.bad=Y)/\a.sat Q)
 |[],h=>.inr ⟨λp g=>by simp at g,h⟩
 |p::r,h=>by
  cases e:p.bad with
  |true=>
   obtain⟨b,c⟩:=jm _ (h.1 e);exact .inl ⟨p,by simp,e,b,c⟩
  |false=>
   rcases Wg (h.2 e)with ⟨q,b,c⟩|⟨b,c⟩
   exact .inl ⟨q,ubj _ b,c⟩;refine .inr ⟨λq f=>?_,c⟩;rcases uei.1 f with rfl|f
   exact e;exact b q f
def OO{A:Type}{f:A->List Prop}:{l:List A}->av (l.flatMap f)->∀ x∈l,av (f x)
 |[],_,x,a=>by simp at a
 |y::r,h,x,a=>by
  obtain⟨b,c⟩:=jd.1 h;rcases uei.1 a with rfl|a
  exact b;exact OO c x a
def qw8(hC:CxOK P C){id:Nat}:lr P E (.region id ops Z) (Kn P C b ops.toList):=by
 intro s t h Q hq a w hi;unfold Kn at h;split at h<;>try trivial
 rename_i G;split at h<;>try trivial
 rename_i es O g;split at h<;>try trivial
 rename_i u;cases h;have S:=UR _ _ _ _ g;have hst:StatOK O.n ops:=by rw[S];exact DH G
 have D:sZ P C b ops es O (List.range' 0 ops.size) s:=by
  have:=UV ops.toList 0 s es g (λi o hi=>by simpa using hi) (λi e hi=>by simpa using hi);simpa using this
 have hlen:es.length=ops.size:=by
  have:=UQ _ _ _ _ g;simpa using this
 obtain⟨F,γ,hi⟩:=hi;have j:∀ w',InvG P E s a w' [] F γ->sY P E C b ops es (tL ops.toList es) s O (List.range' 0 ops.size) a w':=λw' f=>by
  refine⟨s,[],F,γ,f,λt=>?_,D,S.symm,rfl,λk e p r c=>?_,λ_=>⟨rfl,λ_ _=>rfl⟩⟩;constructor;intro hh;simp at hh;rintro⟨k,o,r,c,_⟩;exfalso;apply c;rw[ucw];have:=(uaf.1 r).1;omega;exfalso;apply c;rw[ucw];have:=(uak.1 r).1;omega
 have key:∀ pv:PV,(∀ (i:Nat) x,es[i]?= U x->zU pv x)->(∀ l w',sY P E C b ops es (tL ops.toList es) s O [] l w'->eq P E Q .normal l w') ->
   ((∃ k:Nat,∃ e p,es[k]?= U (e,U p)/\p.bad=Z)->∀ l w',I P E ⟨s.n,yf (tL ops.toList es) s.sl,s.mem,s.gs⟩ l w'->eq P E Q (.panic [{ v:=pv.val,recovered:=Y }]) l w')->(Code.region id ops Z).wp P (eq P E Q) a w:=by
  intro pv hg L N;refine wp_region_any hC.mo ?_;refine Ut hC rfl hst u.1 u.2 hg S.symm _ L N ops.size (List.range' 0 ops.size) _ a _ (by simp) uaw (by simp) (λi f=>?_) (λi f=>?_) (λk r c=>?_) (j _ (RQ hi));simp only[ucw,uac,uas,f,if_true,udd,true_iff];omega;rw[ucw]at f;omega;exfalso;apply c;rw[ucw];omega
 rcases Wg hq with ⟨p,hp,y,K,hQ⟩|⟨T,A⟩
 refine key p.pv (λi x H=>qmt (OO K x (ubg H))) ?_ (λ_ l w' R=>⟨.panic p.pv,_,rfl,R,hQ⟩);rintro l w' ⟨st,W,F',γ',m,_,_,_,_,z,_⟩;obtain⟨x,H,hxp⟩:=ub9.1 hp;obtain⟨i,hi⟩:=ubs H;obtain⟨e,q⟩:=x;subst hxp;have:=z i e p hi (by simp);rw[y]at this;cases this;obtain⟨B,hq'⟩:=JI _ A;have d:∀ (k:Nat) e p,es[k]?= U (e,U p)->p.bad=false:=λk e p r=>T p (ub9.2 ⟨(e,U p),ubg r,rfl⟩);refine key ⟨0,.i64,0⟩ (λi x H=>?_) ?_ ?_;obtain⟨e,p⟩:=x;have M:=B e (ue6.2 ⟨(e,p),ubg H,rfl⟩);cases p with
 |none=>exact M
 |some q=>exact⟨λ_=>M,λy=>by rw[d i e q H]at y;cases y⟩
 rintro l w' ⟨st,W,F',γ',m,_,hr,_⟩;have hr':=hr;subst hr';exact⟨.normal,_,rfl,⟨F',γ',oV m⟩,hq'⟩;rintro⟨k,e,p,r,y⟩;rw[d k e p r]at y;cases y
end
def Pn:List Oper->Option (FuncId×Tmp)
 |[⟨V,.defer ⟨.value (.func f),args,_⟩,_,_,_,V⟩]=>match args.toList with
  |[.tmp tp]=>U (f,tp)
  |_=>V
 |_=>V
def K9(P:Program)(C:Cx)(run:St->Option Tr)(T:TypeId)(k:IntKind)(fn:Func)(A:Code)(tp:Tmp)(ps:List PT)(rs:List Ty)(xs:ag ps):Option (Fr (aa rs)):=
 if (fn.name == "runtime.NumGoroutine")=Y/\ps.length<=fn.ntmps then match cr P C 0 bw A 0 (sj fn.ntmps (eI ps xs))with
  |some (.leaf .normal s1)=>match s1.sl tp with
   |.c (.ptr id 0)=>match run ⟨s1.n,s1.sl,s1.mem,λt=>if t=0 then .c (.ptr id 0)else .dead⟩with
    |some t=>ia P T k fn.results.toList rs t
    |none=>V
   |_=>V
  |_=>V
 else V
section
variable {P:Program} {w w':World} {E:Env} {F F':Nat->Prop} {γ γ':Nat->Value}
def qgc{C:Cx}(hC:CxOK P C){run:St->Option Tr}{g:FuncId}{T:TypeId}{fn:Func}{A c:Code}{rid:Nat}{ops:Array Oper}{tp:Tmp}{ps:List PT}{rs:List Ty}{fr:ag ps->Fr (aa rs)}(x0:ag ps)(hf:P.funcs[f]?= some fn)(hb:fn.body=some (.seq A (.seq (.region rid ops false) c)))(hd:Pn ops.toList=some (g,tp))(hT:TolOK P g T k)(hR:∀ E,lr P E c run)(hrun:∀ xs,K9 P C run T k fn A tp ps rs xs=some (fr xs)):af P f ⟨ps,rs,λxs=>(fr xs).get,λxs=>[(fr xs).ok]⟩:=by
 have h0:=hrun x0
 unfold K9 at h0
 split at h0<;>try (cases h0;done)
 rename_i hc
 refine⟨enters hf hb hc.1,λw F xs vs hbd hr hok=>uce hf hb ?_⟩
 have hr':=hrun xs
 unfold K9 at hr'
 simp only[hc,ufr,if_true]at hr'
 split at hr'<;>try (cases hr';done)
 rename_i s1 ht1
 split at hr'<;>try (cases hr';done)
 rename_i id hsl
 split at hr'<;>try (cases hr';done)
 rename_i t ht2
 have hlen:vs.length=ps.length:=rV hr
 have hstart:=vV (D:=[]) (n:=fn.ntmps) hbd (λR=>mO hr) (by have:=hc.2;omega)
 have hsz:(vs.toArray).size=vs.length:=by simp
 refine wp_seq (wp_mono (fR hC A 0 (aY A 0) ht1 (Q:=λe s=>e=.normal/\s=s1) ⟨rfl,rfl⟩ hstart) ?_)
 rintro e a1 w1 ⟨xe,s,rfl,⟨F1,γ1,hi⟩,rfl,rfl⟩
 have hv0:=rm hi tp
 rw[hsl]at hv0
 obtain⟨_,b0,hR0,hv0⟩:=hv0
 refine wp_seq (ufp ?_)
 unfold Pn at hd
 split at hd<;>try (cases hd;done)
 rename_i f0 args ats ty pos aft hops
 split at hd<;>try (cases hd;done)
 rename_i tp0 hargs
 simp at hd
 obtain⟨rfl,rfl⟩:=hd
 obtain⟨ol⟩:=ops
 subst hops
 have hargs':args = #[.tmp tp0]:=by
  obtain⟨l⟩:=args
  simp only at hargs
  rw[hargs]
 subst hargs'
 have hev:a1.eval (.tmp tp0)=.pointer (some ⟨b0,0,none⟩):=hv0
 have hexec:(execOp a1.eval ⟨none,.defer ⟨.value (.func f0),#[.tmp tp0],ats⟩,ty,pos,aft,none⟩).run P w1=.ok (.defer { target:=.fn (.func f0) #[],args:=#[.pointer (some ⟨b0,0,none⟩)] }) w1:=by
  have hef:a1.eval (.func f0)=.func (.func f0) #[] #[]:=rfl
  simp[execOp,resolve,hev,hef,Deferred.ofValue]
 have hrange:List.range (#[(⟨none,.defer ⟨.value (.func f0),#[.tmp tp0],ats⟩,ty,pos,aft,none⟩:Oper)]:Array Oper).size=[0]:=rfl
 unfold wpOps
 simp
 have hw:Region.wanted (⟨none,.defer ⟨.value (.func f0),#[.tmp tp0],ats⟩,ty,pos,aft,none⟩:Oper) (yielded #[(⟨none,.defer ⟨.value (.func f0),#[.tmp tp0],ats⟩,ty,pos,aft,none⟩:Oper)] a1.tmps)=true:=rfl
 refine .inl ?_
 unfold Oper.wp
 rw[hexec]
 have hi':InvG P ⟨w,F,λ_=>.pointer (some ⟨b0,0,none⟩),[{ target:=.fn (.func f0) #[],args:=#[.pointer (some ⟨b0,0,none⟩)] }],w.heap.size,ue9 _⟩ ⟨s.n,s.sl,s.mem,λt=>if t=0 then .c (.ptr id 0)else .dead⟩ { a1 with defers:={ target:=.fn (.func f0) #[],args:=#[.pointer (some ⟨b0,0,none⟩)] }::a1.defers } w1 [] F1 γ1:=by
  refine⟨hi.n,?_,hi.step,hi.mem,hi.sl,hi.hg,λt=>?_⟩
  ·show _::a1.defers=[_]
   rw[hi.df]
  ·show aE P w1 F1 _ (if t=0 then .c (.ptr id 0)else .dead) _
   split
   ·exact⟨rfl,b0,hR0,rfl⟩
   ·trivial
 have hwp:=hR ⟨w,F,λ_=>.pointer (some ⟨b0,0,none⟩),[{ target:=.fn (.func f0) #[],args:=#[.pointer (some ⟨b0,0,none⟩)] }],w.heap.size,ue9 _⟩ _ _ ht2 _ (qW hr' hok) _ _ ⟨F1,γ1,hi'⟩
 refine wp_mono hwp ?_
 rintro e a2 w2 ⟨xe,s2,rfl,⟨F2,γ2,hi2⟩,hx⟩
 have hinv:∀ W,(invoke (.fn (.func f0) #[]) #[.pointer (some ⟨b0,0,none⟩)]).run P W=.ok (.enter f0 #[.pointer (some ⟨b0,0,none⟩)]) W:=λW=>by
  have:=hT.enter #[.pointer (some ⟨b0,0,none⟩)] W
  simp[invoke,this]
 have hfin:(∃ n,dh P fn.results.toList rs s2=some (Fr.needL n (.val (fr xs).get))/\av n)->Leaves P fn a2.tmps (fJ w F rs (fr xs).get) a2.defers .returning w2:=by
  rintro⟨n,hend,hn⟩
  rw[hi2.df]
  refine ufe (by simp) (hinv w2) ((hT.idle _ w2).mono ?_)
  rintro e u' w' ⟨⟨v,rfl⟩,rfl,rfl⟩
  exact tP hi2 rfl hend hn
 cases xe with
 |normal=>exact hfin hx
 |ret=>exact hfin hx
 |exit _=>exact hx.elim
 |val _=>exact hx.elim
 |jump _=>exact hx.elim
 |panic p=>
  obtain⟨s',n,hs',hin,hend,hn⟩:=hx
  obtain⟨hty,hk,hlow,b,tyb,old,hG,hheap,hi3⟩:=VY hi2 hs' hin
  have hG':=hG
  simp at hG'
  subst hG'
  show Leaves P fn a2.tmps _ a2.defers (.panicking [{ v:=p.val,recovered:=false }]) w2
  rw[WG (by rw[hty];exact hlow),hi2.df,hty,hk]
  refine ufe (by simp) (hinv w2) ((hT.told b0 tyb old p.n w2 hheap).mono ?_)
  rintro e u' w' ⟨⟨v,rfl⟩,rfl,rfl⟩
  exact tP hi3 rfl hend hn
end
section
variable {P:Program} {E:Env}
def zdi {c rest:Code} {o L N Eo R:LS} {id l:Nat} {s:o.X->Fr (Rd L.X Eo.X R.X)} {f:L.X->Fr (Rd L.X Eo.X R.X)} (A:findLabel c l=U rest) (t:gi P l c o ⟨n,id,L,Eo,R⟩ s) (u:gi P l rest L ⟨n,id,L,Eo,R⟩ f)
  {q:o.X->Fr (Rd N.X Eo.X R.X)} {F:L.X->Fr (Rd N.X Eo.X R.X)} {inv:L.X->Prop} {μ:L.X->Nat}
  (i:∀ x,∀ Q:Rd N.X Eo.X R.X->Prop,(q x).satP Q->(s x).satP λ
   |.next g=>inv g/\(F g).satP Q
   |.out y=>Q (.out y)
   |.back z=>Q (.back z)
   |.pan p=>Q (.pan p))
  (k:∀ x,inv x->∀ Q:Rd N.X Eo.X R.X->Prop,(F x).satP Q->(f x).satP λ
   |.next g=>inv g/\μ g<μ x/\(F g).satP Q
   |.out y=>Q (.out y)
   |.back z=>Q (.back z)
   |.pan p=>Q (.pan p)):ae P (.scope c) o ⟨n,id,N,Eo,R⟩ q:=by
 intro E a w x Q hi B;refine wp_scope_jumps l (λa w=>∃ m,∃ x,inv x/\μ x=m/\I P E (L.tpl n x) a w/\(F x).satP Q) (λa w=>u9 λm=>∃ x,inv x/\μ x=m/\I P E (L.tpl n x) a w/\(F x).satP Q) A ?_ ?_
 ·refine wp_mono (t E a w x _ hi (i x Q B)) ?_;rintro e K w' ⟨r,d,j⟩;cases r with
  |next g=>
   obtain⟨rfl,b⟩:=j;exact⟨rfl,⟨μ g,g,d.1,rfl,b,d.2⟩⟩
  |out y=>
   obtain⟨rfl,b⟩:=j;exact⟨.out y,d,rfl,b⟩
  |back z=>
   obtain⟨rfl,b⟩:=j;exact⟨.back z,d,rfl,b⟩
  |pan v=>
   obtain⟨rfl,b⟩:=j;exact⟨.pan v,d,rfl,b⟩
 ·rintro a w ⟨m,j⟩;obtain⟨⟨g,C,D,G,H⟩,_⟩:=uA (p:=λm=>∃ x,inv x/\μ x=m/\I P E (L.tpl n x) a w/\(F x).satP Q) ⟨m,j⟩;refine wp_mono (u E a w g _ G (k g C Q H)) ?_;rintro e M O ⟨r,d,h⟩;cases r with
  |next y=>
   obtain⟨rfl,b⟩:=h;refine⟨rfl,⟨μ y,y,d.1,rfl,b,d.2.2⟩,?_⟩;rw[<- D];exact ucd ((uA ⟨μ y,y,d.1,rfl,b,d.2.2⟩).2 (μ y) ⟨y,d.1,rfl,b,d.2.2⟩) d.2.1
  |out y=>
   obtain⟨rfl,b⟩:=h;exact⟨.out y,d,rfl,b⟩
  |back z=>
   obtain⟨rfl,b⟩:=h;exact⟨.back z,d,rfl,b⟩
  |pan v=>
   obtain⟨rfl,b⟩:=h;exact⟨.pan v,d,rfl,b⟩
end
structure GrowOK (P:Program) (f:FuncId) (e:TypeId) (T:Ty) (bytes:Nat):Prop where
 enters:∀ args w,(callFunc f args).run P w=.ok (.enter f args) w
 calls:∀ (w:World) (n:Nat),n<=maxLen->n*bytes<=140737488355328->Calls P f #[.slice none 0 0,.int .i64 n] w λen w'=>
  ∃ v,en=.returned v/\w.grownBy w' none/\w'.ownsRow w.heap.size e T.size v 0 []
def II(f:FuncId)(e:TypeId)(T:Ty)(bytes:Nat)(d:Nat)(g:FuncId)(args:List AV)(s:St):Option Tr:=
 if g=f/\e<cj then match args,s.mem d with
  |[.c .nil,.c (.int .i64 n)],V=>U (needL [0<=n/\n<=maxLen/\n*bytes<=140737488355328] (.leaf (.val (.c (.own d))) ⟨s.n,s.sl,upd s.mem d (.arr e T []),s.gs⟩))
  |_,_=>V
 else V
def nY(w:World)(o:Obj)(i:Nat)(h:i<w.heap.size):(w.alloc o).heap[i]?= w.heap[i]? := by
 first
  |exact heap_alloc_old w o h
  |exact heap_alloc_old w o i h
def qv1{B':Nat}{size:Nat}(h:w.ownsRow B e size v n xs)(a:B'<=B):w.ownsRow B' e size v n xs:=
 rD h λg b=>ueo a (h.lt g b).1
def qmz{T:Ty}{bytes:Nat}(h:GrowOK P f e T bytes):gQ P (II f e T bytes):=by
 intro d g args s t p;unfold II at p;split at p<;>try trivial
 rename_i q;obtain⟨rfl,u⟩:=q;split at p<;>try trivial
 rename_i n y;cases p;refine⟨h.enters,λE a w F γ vs Q hi M L=>?_⟩;obtain⟨⟨C,W,h2⟩,z⟩:=L
 match vs,M with
 |[v1,v2],⟨⟨_,A⟩,⟨_,B,_⟩,_⟩=>
  have D:=A;have G:=B;subst D;subst G;obtain⟨m,rfl⟩:∃ m:Nat,n=m:=⟨n.toNat,by omega⟩;have H:m*bytes<=140737488355328:=by omega
  refine(h.calls w m (by omega) H).mono λS R K=>?_;obtain⟨v,rfl,r,b⟩:=K;have j:=nM hi;have o:=qv1 b j;obtain⟨s1,O⟩:=uN (l:=([]:List T.den)) hi.mem (dv hi) j y r o (λg q=>(b.lt g q).1) (λi x N=>by simp at N) u;have k:InvG P E ⟨s.n,s.sl,upd s.mem d (.arr e T []),s.gs⟩ a R [] F (cU γ d v):=by
   refine⟨hi.n,hi.df,?_,O,λt=>(hi.sl t).mono s1.hF s1.hw s1.hR,hi.hg,λt=>s1.repA (hi.gh t)⟩;obtain⟨γ0,C⟩:=hi.step;exact⟨γ0,C.trans s1⟩
  exact⟨.val (.c (.own d)),_,F,_,z,k,v,rfl,lP (kT b)⟩
section
variable {F:Fence} {n:Nat} {P:Program} {w:World}
def Ac(F:Fence)(n:Nat)(P:Program)(gf:Nat)(lb:Array Value)(encs:α->Array Value)(E:α->World->World->Prop)(Kp:World->World->Prop)(S:List α->Prop)(N:Nat)(w0:World):Prop:=
 ∀ (l:Nat) (d:List α->World->Prop) (W:World),Below w0.heap.size w0 W->AbidesFrom W.heap.size d ->
  (∀ a x b c,d a b->Below b.heap.size b c->E x b c->a.length<N->YieldAt F (n-1) P l (encs x) c λe W'=>e=.returned (.bool Z)/\d (a++[x]) W'/\Kp c W') ->
  d [] W->CallsIn F n P gf (#[.func (.yield l) #[] #[]]++lb) W λe W'=>(∃ v,e=.returned v)/\∃ xs,S xs/\d xs W'
def qx0(b:Nat)(Kp:World->World->Prop)(I:List α->World->Prop)(xs:List α)(W:World)(e:Exit)(_:Act)(W':World):Prop:=
 e=.normal/\KeepsFrom b W W'/\Kp W W'/\I xs W'
def zdc {g:Operand} {ps:Array Tmp} {assign body:Code} {Q:Exit->Act->World->Prop} {a:Act}
  (hro:F.round=none) (h1:1<=n) {gf:Nat} {lb:Array Value} (hg:a.eval g=.func (.func gf) #[] lb) (hFg:F.fn gf) (eg:∀ args w,(callFunc gf args).run P w=.ok (.enter gf args) w)
  {encs:α->Array Value} {E:α->World->World->Prop} {Kp:World->World->Prop} {S:List α->Prop} {N:Nat} (hseq:Ac F (n-1) P gf lb encs E Kp S N w)
  (hKt:∀ {A B C:World},Kp A B->Kp B C->Kp A C) (hKb:∀ (W:World) (l:Nat) (o o':Obj),w.heap.size<=l->W.heap[l]?= some o->o.isCells=false->Kp W (W.putObj l o')) (hps:∀ x,(encs x).size=ps.size)
  (I:List α->World->Prop) (hI:OwnFrom w.heap.size I) (h0:I [] w) (A:List α->α->Act->World->Prop) (hA:∀ pre x a',OwnFrom w.heap.size (λ(_:Unit) W=>A pre x a' W))
  (hassign:∀ (l:Nat) (pre:List α) (x:α) (W0 W:World) (K:Act->World->Prop),I pre W0->Below W0.heap.size W0 W->E x W0 W->(∀ a' W',KeepsFrom w.heap.size W W'->Kp W W'->A pre x a' W'->K a' W') ->
   assign.wpIn (F.inRound l) (n-1-1) P (Exit.then K (λ_ _ _=>False)) { tmps:=(ps.zip (encs x)).foldl (λt (p,v)=>t.setIfInBounds p v) a.tmps,defers:=[] } W)
  (hbody:∀ (l:Nat) (pre:List α) (x:α) (a':Act) (W:World),A pre x a' W->pre.length<N->body.wpIn (F.inRound l) (n-1-1) P (qx0 w.heap.size Kp I (pre++[x]) W) a' W)
  (hdone:∀ (D:Nat) (xs:List α) (W:World),w.heap.size<=D->S xs->I xs W->W.heap[D]?= some (.deferred (some []))->Q .normal { a with defers:={ target:=.collected D,args:=#[] }::a.defers } W) :
  (Code.rangeFunc g ps assign body).wpIn F n P Q a w:=by
 refine wpIn_rangeFunc λfn hfn=>?_;rw[hro]
 let mk:LoopState->Option Code->Loop:=λst pe=>{ state:=st,pending:=pe,fn,tmps:=a.tmps,params:=ps,assign,body,defers:=w.heap.size }
 let d0:Obj:=.deferred (some [])
 have hsz:(w.alloc d0).heap.size=w.heap.size+1:=by simp
 have hL:((w.alloc d0).alloc (.loop (mk .ready none))).heap[w.heap.size+1]?= some (.loop (mk .ready none)):=by
  have:=World.alloc_heap_new (w.alloc d0) (.loop (mk .ready none))
  rwa [hsz]at this
 have hD:((w.alloc d0).alloc (.loop (mk .ready none))).heap[w.heap.size]?= some d0:=
  (udb _ _ _ (by rw[hsz];omega)).trans (World.alloc_heap_new w _)
 have hbel:Below w.heap.size w ((w.alloc d0).alloc (.loop (mk .ready none))):=((ufi _ w).alloc (ue9 _) _).alloc (by rw[hsz];omega) _;generalize hW1:(w.alloc d0).alloc (.loop (mk .ready none))=W1 at hL hD hbel;have hI1:I [] W1:=by rw[<- hW1];exact hI.alloc _ (hI.alloc _ h0)
 have hs1:W1.heap.size=w.heap.size+2:=by rw[<- hW1];simp
 refine⟨w.heap.size+1,[{ target:=.collected w.heap.size,args:=#[] }],W1,{ target:=.fn (.func gf) lb,args:=#[.func (.yield (w.heap.size+1)) #[] #[]] },W1,gf,
  #[.func (.yield (w.heap.size+1)) #[] #[]]++lb,W1,?_,?_,?_,?_,λ_=>h1,?_⟩
 ·rw[<- hW1];exact run_enterLoop_outer _ _ _ _ _
 ·simp only[resolve,hg];simp[go_sem]
 ·intro f' hf';simp[Target.leads]at hf';subst hf';exact hFg
 ·simp[invoke,eg]
 have hwalk:∀ {A:World} {row:Option Nat},(∀ r,row=some r->W1.heap.size<=r/\∃ o:Obj,A.heap[r]?= some o/\o.isWalk=true)->∀ r,row=some r->w.heap.size<=r/\∃ o:Obj,A.heap[r]?= some o/\o.isCells=false:=λhr r e=>by
  obtain⟨hb,o,ho,hw⟩:=hr r e;exact⟨by omega,o,ho,Obj.not_cells_of_walk hw⟩
 refine(hseq (w.heap.size+1) (λpre W=>I pre W/\W.heap[w.heap.size+1]?= some (.loop (mk .ready none))/\W.heap[w.heap.size]?= some d0) W1 hbel ?_ ?_ ⟨hI1,hL,hD⟩).mono ?_
 ·rintro s X Y row ⟨q1,q2,q3⟩ hgr hr;exact⟨hI s X Y row q1 hgr (hwalk hr),(grownBy_keeps hgr (λr e=>(hr r e).2) q2 rfl).trans q2,(grownBy_keeps hgr (λr e=>(hr r e).2) q3 rfl).trans q3⟩
 ·rintro pre x W0 W ⟨hi0,hl0,hd0⟩ hb0 hE hlen;have hl:=(hb0.block _ (uaf.1 hl0).1).trans hl0;have hd:=(hb0.block _ (uaf.1 hd0).1).trans hd0;refine⟨fn,_,assign,body,run_yield hl (hps x),roundIn_of_wpIn hfn (hassign _ pre x W0 W _ hi0 hb0 hE ?_)⟩;intro a' Wa hka hkpa hax;have hla:=hka.same _ _ (by omega) hl rfl;have hda:=hka.same _ _ (ue9 _) hd rfl;have hlt:=(uaf.1 hla).1;refine⟨_,run_beginRound hla rfl,?_⟩;have hl2:(Wa.putObj (w.heap.size+1) (.loop { mk .ready none with state:=.busy })).heap[w.heap.size+1]?= some (.loop { mk .ready none with state:=.busy }):=World.putObj_heap_same hlt;have hd2:(Wa.putObj (w.heap.size+1) (.loop { mk .ready none with state:=.busy })).heap[w.heap.size]?= some d0:=(World.putObj_heap_other (by omega)).trans hda;have hk2:Kp Wa (Wa.putObj (w.heap.size+1) (.loop { mk .ready none with state:=.busy })):=hKb _ _ _ _ (by omega) hla rfl;refine wpIn_mono (hbody _ pre x a' _ ((hA pre x a').putObj (s:=()) _ hax (by omega) hla rfl) hlen) ?_;rintro e a3 W3 ⟨rfl,hk3,hkp3,hi3⟩;have hl3:=hk3.same _ _ (by omega) hl2 rfl;have hd3:=hk3.same _ _ (ue9 _) hd2 rfl;have hend:=run_endRound (P:=P) none hl3;refine⟨_,_,hend,rfl,⟨hI.putObj _ hi3 (by omega) hl3 rfl,World.putObj_heap_same (uaf.1 hl3).1,(World.putObj_heap_other (by omega)).trans hd3⟩,hKt hkpa (hKt (hKt hk2 hkp3) (hKb _ _ _ _ (by omega) hl3 rfl))⟩
 ·rintro e W2 ⟨⟨v,rfl⟩,xs,hS,hi,hl,hd⟩;exact⟨none,_,run_endLoop hl (by simp),hdone _ xs _ (ue9 _) hS (hI.putObj _ hi (by omega) hl rfl) ((World.putObj_heap_other (by omega)).trans hd)⟩
end
def Aa(w' w:World):Prop:=w'.heap=w.heap/\w'.os=w.os/\w'.tape=w.tape/\w'.output=w.output
structure ToldTwo (P:Program) (g:FuncId) (T:TypeId) (k:IntKind) (m:Nat):Prop where
 enter:∀ args w,(callFunc g args).run P w=.ok (.enter g args) w
 idle:∀ (p q:Addr) (w:World),CallsD P g #[.pointer (some p),.pointer (some q)] .returning w λe u' w'=>(∃ v,e=.returned v)/\u'=.returning/\w'=w
 told:∀ (b1 b2:Nat) (t1 t2:TypeId) (o1 o2:Array Value) (n:Int) (w:World),b1≠b2->w.heap[b1]?= some (.cells o1 t1 (0,0))->o1.size=m->w.heap[b2]?= some (.cells o2 t2 (0,0))->o2.size=1 ->
  CallsD P g #[.pointer (some ⟨b1,0,none⟩),.pointer (some ⟨b2,0,none⟩)] (.panicking [{ v:=.iface T (.agg #[.int k n]),recovered:=false }]) w λe u' w'=>
   (∃ v,e=.returned v)/\u'=.panicking [{ v:=.iface T (.agg #[.int k n]),recovered:=true }]/\Aa w' ((w.setRow b1 (Array.replicate m (.int .i64 0))).setRow b2 #[.int k n])
def zH(m:Nat):List AC:=List.replicate m (.int .i64 0)
def En(T:TypeId)(k:IntKind)(m:Nat)(p:PV)(s:St):Option St:=
 match s.gs 0,s.gs 1 with
 |.c (.ptr i 0),.c (.ptr j 0)=>match s.mem i,s.mem j with
  |some (.box e cs),U (.box a [_])=>if p.ty=T+1000000/\p.k=k/\i≠j/\cs.length=m then U ⟨s.n,s.sl,upd (upd s.mem i (.box e (zH m))) j (.box a [.int k p.n]),s.gs⟩else V
  |_,_=>V
 |_,_=>V
def iM(P:Program)(T:TypeId)(k:IntKind)(m:Nat)(a:List ResultVar)(rs:List Ty):Tr->Option (Fr (aa rs))
 |.leaf .ret s=>dh P a rs s
 |.leaf .normal s=>dh P a rs s
 |.leaf (.panic p) s=>match En T k m p s with
  |some e=>match dh P a rs e with
   |some f=>U (.need (inR k p.n) f)
   |none=>V
  |none=>V
 |.leaf _ _=>V
 |.br b x y=>match iM P T k m a rs x,iM P T k m a rs y with
  |some c,U d=>U (.br b c d)
  |_,_=>V
 |.need p x=>match iM P T k m a rs x with
  |some c=>U (.need p c)
  |none=>V
 |.two p x y=>match iM P T k m a rs x,iM P T k m a rs y with
  |some c,U d=>U (.need (p->c.ok/\c.get=d.get) d)
  |_,_=>V
def Po:List Oper->Option (FuncId×Tmp×Tmp×Tmp)
 |[⟨U td,.makeFunc (.func f) first a,_,_,_,V⟩,⟨V,.defer ⟨.value (.tmp b),args,_⟩,_,_,_,V⟩]=>match first.toList,a.toList,args.toList with
  |[],[.tmp ta,.tmp tb],[]=>if b=td then U (f,td,ta,tb)else V
  |_,_,_=>V
 |_=>V
def K8(P:Program)(C:Cx)(run:St->Option Tr)(T:TypeId)(k:IntKind)(m:Nat)(fn:Func)(A:Code)(td ta tb:Tmp)(ps:List PT)(rs:List Ty)(xs:ag ps):Option (Fr (aa rs)):=
 if (fn.name == "runtime.NumGoroutine")=Y/\ps.length<=fn.ntmps/\td<fn.ntmps then match cr P C 0 bw A 0 (sj fn.ntmps (eI ps xs))with
  |some (.leaf .normal s1)=>match s1.sl ta,s1.sl tb with
   |.c (.ptr i 0),.c (.ptr j 0)=>if s1.n=fn.ntmps then match run (fk ⟨s1.n,e8 s1.sl (U td) .dead,s1.mem,λt=>if t=0 then .c (.ptr i 0)else if t=1 then .c (.ptr j 0)else .dead⟩)with
    |some t=>iM P T k m fn.results.toList rs t
    |none=>V
    else V
   |_,_=>V
  |_=>V
 else V
section
variable {P:Program} {w w':World} {E:Env} {F F':Nat->Prop} {γ γ':Nat->Value}
def ub{T:TypeId}{g:List ResultVar}{rs:List Ty}:{t:Tr} -> {f:Fr (aa rs)}->iM P T k m g rs t=U f->f.ok->t.sat λe s=>match e with
  |.ret=>∃ n,dh P g rs s=U (Fr.needL n (.val f.get))/\av n
  |.normal=>∃ n,dh P g rs s=U (Fr.needL n (.val f.get))/\av n
  |.panic p=>∃ j n,En T k m p s=U j/\inR k p.n/\dh P g rs j=U (Fr.needL n (.val f.get))/\av n
  |_=>False
 |.leaf e s,f,h,a=>by
  cases e with
  |exit i=>simp[iM]at h
  |val i=>simp[iM]at h
  |jump i=>simp[iM]at h
  |normal=>exact tO h a
  |ret=>exact tO h a
  |panic p=>
   simp only[iM]at h;split at h<;>try trivial
   rename_i j q;split at h<;>try trivial
   rename_i A o;cases h;obtain⟨n,w,l⟩:=tO o a.2;exact⟨j,n,q,a.1,w,l⟩
 |.br b x y,f,h,a=>by
  simp only[iM]at h;split at h<;>try trivial
  rename_i v z d r;cases h;refine⟨λc=>?_,λc=>?_⟩;have:=ub d (a.1 c);simpa only[Fr.get,c,if_true]using this;have:=ub r (a.2 c);simpa only[Fr.get,c,ub3,ufs]using this
 |.need p x,f,h,a=>by
  simp only[iM]at h;split at h<;>try trivial
  rename_i v d;cases h;have:=ub d a.2;exact⟨a.1,this⟩
 |.two p x y,f,h,a=>by
  simp only[iM]at h;split at h<;>try trivial
  rename_i v z d r;cases h;have l:=ub r a.2;refine⟨λu=>?_,l⟩;have:=ub d (a.1 u).1
  rwa [(a.1 u).2]at this
def qoh{s:St}{a:Act}(hi:InvG P E s a w [] F γ)(h:Aa w' w):InvG P E s a w' [] F γ:=by
 obtain⟨e,g,i,j⟩:=h;have d:∀ b:Nat,w'.heap[b]?= w.heap[b]? := λb=>by rw[e]
 have c:Step E.B w F γ s.mem w' F γ s.mem:=⟨λ_ h=>h,λb _=>d b,λ_ _ h=>h,λb _=>d b,g,i,j,by rw[e];exact ue9 _,λb k=>by rw[e];exact dv hi b k,λ_ h=>.inl h⟩;refine⟨hi.n,hi.df,?_,hi.mem.keep (λ_ h=>h) (λb _=>d b) (λid o b m l=>⟨d b,(gZ (hi.mem.ob id o m) l).2.1⟩),λt=>(hi.sl t).mono c.hF c.hw c.hR,hi.hg,λt=>c.repA (hi.gh t)⟩;obtain⟨γ0,f⟩:=hi.step;exact⟨γ0,f.trans c⟩
def WK:(m:Nat) -> {g:Nat->Value->Prop}->(∀ j,j<m->g j (.int .i64 0))->aN P w F R (zH m) g
 |0,_,_=>trivial
 |m+1,_,h=>⟨⟨.int .i64 0,h 0 (by omega),rfl,rfl,by decide,by decide⟩,WK m λj a=>h (j+1) (by omega)⟩
def qvv{a new:Array Value}(h:a.size=new.size):cF a 0 new.toList=new:=by
 apply ufn;rw[yy (by simp;omega)];exact h;intro i c b;simp only[cF,List.take_zero,List.getElem_toArray];rw[List.getElem_append_left (by simpa using b)];simp
def zb1{T:TypeId}{p:PV}{s s':St}{a:Act}(hi:InvG P E s a w [] F γ)(h:En T k m p s=U s')(hr:inR k p.n):
  p.ty=T+1000000/\p.k=k/\∃ b1 d t1 t2 o1 o2,E.G 0=.pointer (U ⟨b1,0,V⟩)/\E.G 1=.pointer (U ⟨d,0,V⟩)/\b1≠d/\w.heap[b1]?= U (.cells o1 t1 (0,0))/\o1.size=m/\w.heap[d]?= U (.cells o2 t2 (0,0))/\o2.size=1 /\
   InvG P E s' a ((w.setRow b1 (Array.replicate m (.int .i64 0))).setRow d #[.int k p.n]) [] F γ:=by
 unfold En at h;split at h<;>try trivial
 rename_i i j R S;split at h<;>try trivial
 rename_i e cs K c0 g l;split at h<;>try trivial
 rename_i hp;cases h;obtain⟨hp1,hp2,y,b⟩:=hp;have B:=hi.gh 0;rw[R]at B;have h1:=hi.gh 1;rw[S]at h1;obtain⟨b1,o1,q,C,r,D,H,f,e17⟩:=lw hi.mem g B.2;obtain⟨d,o2,u,L,v,M,N,O,e27⟩:=lw hi.mem l h1.2;have z:b1≠d:=by
  rintro rfl;exact hi.mem.apart i j _ _ b1 y g l ⟨_,q,rfl⟩ ⟨_,u,rfl⟩
 have A:cF o1 0 (Array.replicate m (.int .i64 0):Array Value).toList=Array.replicate m (.int .i64 0):=qvv (by simp[f,b]);obtain⟨s1,s2⟩:=pJ (off:=0) (cs':=zH m) (vs:=(Array.replicate m (.int .i64 0):Array Value).toList) hi.mem (dv hi) g q r D H (by simp[f,b]) (by simp[zH,f,b]) (by
  rw[A];exact WK m λj hj=>by simp[hj])
 rw[A]at s1 s2;have x:upd s.mem i (.box e (zH m)) j=U (.box K [c0]):=(fa _ _ (Ne.symm y)).trans l;obtain⟨o,rfl⟩:=JO (by simpa using O);have W:cF #[o] 0 [.int k p.n] = #[.int k p.n]:=by simp[cF]
 have Q:(w.setRow b1 (Array.replicate m (.int .i64 0))).heap[d]?= U (.cells #[o] K (0,0)):=(uez w b1 d _ (Ne.symm z)).trans v;obtain⟨s3,s4⟩:=pJ (off:=0) (cs':=[.int k p.n]) (vs:=[.int k p.n]) s2 s1.bd x u Q M N (by simp) rfl ⟨⟨.int k p.n,by rw[W];rfl,rfl,rfl,hr⟩,uT⟩;have c:=s1.trans s3;refine⟨hp1,hp2,b1,d,e,K,o1,#[o],C,L,z,r,f.trans b,v,rfl,⟨hi.n,hi.df,?_,s4,λt=>(hi.sl t).mono c.hF c.hw c.hR,hi.hg,λt=>c.repA (hi.gh t)⟩⟩;obtain⟨γ0,B⟩:=hi.step;exact⟨γ0,B.trans c⟩
def qf9{C:Cx}(hC:CxOK P C){run:St->Option Tr}{g:FuncId}{T:TypeId}{fn:Func}{A c:Code}{rid:Nat}{ops:Array Oper}{td ta tb:Tmp}{ps:List PT}{rs:List Ty}{fr:ag ps->Fr (aa rs)}(x0:ag ps)(hf:P.funcs[f]?= some fn)(hb:fn.body=some (.seq A (.seq (.region rid ops false) c)))(hd:Po ops.toList=some (g,td,ta,tb))(hT:ToldTwo P g T k m)(hR:∀ E,lr P E c run)(hrun:∀ xs,K8 P C run T k m fn A td ta tb ps rs xs=some (fr xs)):af P f ⟨ps,rs,λxs=>(fr xs).get,λxs=>[(fr xs).ok]⟩:=by
 have h0:=hrun x0
 unfold K8 at h0
 split at h0<;>try (cases h0;done)
 rename_i hc
 refine⟨enters hf hb hc.1,λw F xs vs hbd hr hok=>uce hf hb ?_⟩
 have hr':=hrun xs
 unfold K8 at hr'
 simp only[hc,ufr,if_true]at hr'
 split at hr'<;>try (cases hr';done)
 rename_i s1 ht1
 split at hr'<;>try (cases hr';done)
 rename_i i j hsl1 hsl2
 split at hr'<;>try (cases hr';done)
 rename_i hsn
 split at hr'<;>try (cases hr';done)
 rename_i t ht2
 have hlen:vs.length=ps.length:=rV hr
 have hstart:=vV (D:=[]) (n:=fn.ntmps) hbd (λR=>mO hr) (by have:=hc.2.1;omega)
 have hsz:(vs.toArray).size=vs.length:=by simp
 refine wp_seq (wp_mono (fR hC A 0 (aY A 0) ht1 (Q:=λe s=>e=.normal/\s=s1) ⟨rfl,rfl⟩ hstart) ?_)
 rintro e a1 w1 ⟨xe,s,rfl,⟨F1,γ1,hi⟩,rfl,rfl⟩
 have hva:=rm hi ta
 rw[hsl1]at hva
 obtain⟨_,b1,hR1,hva⟩:=hva
 have hvb:=rm hi tb
 rw[hsl2]at hvb
 obtain⟨_,b2,hR2,hvb⟩:=hvb
 refine wp_seq (ufp ?_)
 obtain⟨ol⟩:=ops
 simp only at hd
 unfold Po at hd
 split at hd<;>try (cases hd;done)
 rename_i td0 f0 first caps ty pos aft td1 args ats ty' pos' aft'
 split at hd<;>try (cases hd;done)
 rename_i ta0 tb0 hfirst hcaps hargs
 split at hd<;>try (cases hd;done)
 rename_i htd
 subst htd
 simp at hd
 obtain⟨rfl,rfl,rfl,rfl⟩:=hd
 have h1':first = #[]:=by
  obtain⟨l⟩:=first
  simp only at hfirst
  rw[hfirst]
 have h2':caps = #[.tmp ta0,.tmp tb0]:=by
  obtain⟨l⟩:=caps
  simp only at hcaps
  rw[hcaps]
 have h3':args = #[]:=by
  obtain⟨l⟩:=args
  simp only at hargs
  rw[hargs]
 subst h1'
 subst h2'
 subst h3'
 have hev1:a1.eval (.tmp ta0)=.pointer (some ⟨b1,0,none⟩):=hva
 have hev2:a1.eval (.tmp tb0)=.pointer (some ⟨b2,0,none⟩):=hvb
 let cl:Value:=.func (.func f0) #[] #[.pointer (some ⟨b1,0,none⟩),.pointer (some ⟨b2,0,none⟩)]
 let o0:Oper:=⟨some td1,.makeFunc (.func f0) #[] #[.tmp ta0,.tmp tb0],ty,pos,aft,none⟩
 let o1:Oper:=⟨none,.defer ⟨.value (.tmp td1),#[],ats⟩,ty',pos',aft',none⟩
 have hx0:(execOp a1.eval o0).run P w1=.ok (.value cl) w1:=by
  have hmf:∀ (fn:Fn) (first cap:Array Value) (w:World),(Instr.makeFunc fn first cap).run P w=.ok (.func fn first cap) w:=λ_ _ _ _=>rfl
  simp[execOp,o0,hev1,hev2,hmf,cl]
 have hput:(a1.put (some td1) cl).eval (.tmp td1)=cl:=by
  show(a1.put (some td1) cl).tmps.getD td1 undef=cl
  rw[Du _ _ _ _ (λx hx=>by cases hx;rw[hi.n,hsn];exact hc.2.2),ufv rfl]
 have hx1:(execOp (a1.put (some td1) cl).eval o1).run P w1=.ok (.defer { target:=.fn (.func f0) #[.pointer (some ⟨b1,0,none⟩),.pointer (some ⟨b2,0,none⟩)],args:=#[] }) w1:=by
  simp[execOp,resolve,o1,hput,cl,Deferred.ofValue]
 have hrange:List.range ((#[o0,o1]:Array Oper)).size=[0,1]:=rfl
 show wpOps P #[o0,o1] _ (List.range ((#[o0,o1]:Array Oper)).size) a1 w1
 rw[hrange]
 unfold wpOps
 simp
 refine .inl ?_
 unfold Oper.wp
 rw[hx0,Oper.upon_value]
 unfold wpOps
 simp
 refine .inl ?_
 unfold Oper.wp
 rw[show o0.dst=some td1 from rfl,hx1,Oper.upon_defer]
 have hip:=oV (lJ (d:=some td1) (v:=.dead) (u:=cl) (wr:=[]) hi (λx hx=>by cases hx;exact⟨by rw[hsn];exact hc.2.2,by simp⟩) (Step.refl (dv hi)) hi.mem trivial (λ_ _ _ h=>by cases h))
 let D:List Deferred:=[{ target:=.fn (.func f0) #[.pointer (some ⟨b1,0,none⟩),.pointer (some ⟨b2,0,none⟩)],args:=#[] }]
 let E2:Env:=⟨w,F,λt=>if t=0 then .pointer (some ⟨b1,0,none⟩)else .pointer (some ⟨b2,0,none⟩),D,w.heap.size,ue9 _⟩
 have hi':InvG P E2 (fk ⟨s.n,e8 s.sl (some td1) .dead,s.mem,λt=>if t=0 then .c (.ptr i 0)else if t=1 then .c (.ptr j 0)else .dead⟩) { (a1.put (some td1) cl)with defers:={ target:=.fn (.func f0) #[.pointer (some ⟨b1,0,none⟩),.pointer (some ⟨b2,0,none⟩)],args:=#[] }::(a1.put (some td1) cl).defers } w1 [] F1 γ1:=by
  refine⟨hip.n,?_,hip.step,hip.mem,hip.sl,hip.hg,λt=>?_⟩
  ·show _::(a1.put (some td1) cl).defers=D
   rw[show(a1.put (some td1) cl).defers=a1.defers from rfl,hi.df]
  ·show aE P w1 F1 (ap s.mem γ1) (if t=0 then .c (.ptr i 0)else if t=1 then .c (.ptr j 0)else .dead) (if t=0 then .pointer (some ⟨b1,0,none⟩)else .pointer (some ⟨b2,0,none⟩))
   by_cases ht0:t=0
   ·rw[ufv ht0,ufv ht0]
    exact⟨rfl,b1,hR1,rfl⟩
   ·rw[ufw ht0,ufw ht0]
    by_cases ht1':t=1
    ·rw[ufv ht1']
     exact⟨rfl,b2,hR2,rfl⟩
    ·rw[ufw ht1']
     trivial
 have hwp:=hR E2 _ _ ht2 _ (ub hr' hok) _ _ ⟨F1,γ1,hi'⟩
 refine wp_mono hwp ?_
 rintro e a2 w2 ⟨xe,s2,rfl,⟨F2,γ2,hi2⟩,hx⟩
 have hinv:∀ W,(invoke (.fn (.func f0) #[.pointer (some ⟨b1,0,none⟩),.pointer (some ⟨b2,0,none⟩)]) #[]).run P W=.ok (.enter f0 #[.pointer (some ⟨b1,0,none⟩),.pointer (some ⟨b2,0,none⟩)]) W:=λW=>by
  have:=hT.enter #[.pointer (some ⟨b1,0,none⟩),.pointer (some ⟨b2,0,none⟩)] W
  simp[invoke,this]
 have hdf:a2.defers=[{ target:=.fn (.func f0) #[.pointer (some ⟨b1,0,none⟩),.pointer (some ⟨b2,0,none⟩)],args:=#[] }]:=hi2.df
 have hfin:(∃ n,dh P fn.results.toList rs s2=some (Fr.needL n (.val (fr xs).get))/\av n)->Leaves P fn a2.tmps (fJ w F rs (fr xs).get) a2.defers .returning w2:=by
  rintro⟨n,hend,hn⟩
  rw[hdf]
  refine ufe (by simp) (hinv w2) ((hT.idle _ _ w2).mono ?_)
  rintro e u' w' ⟨⟨v,rfl⟩,rfl,rfl⟩
  exact tP hi2 rfl hend hn
 cases xe with
 |normal=>exact hfin hx
 |ret=>exact hfin hx
 |exit _=>exact hx.elim
 |val _=>exact hx.elim
 |jump _=>exact hx.elim
 |panic p=>
  obtain⟨s',n,hs',hin,hend,hn⟩:=hx
  obtain⟨hty,hk,c1,c2,t1,t2,o1,o2,hG1,hG2,hne,hh1,hs1,hh2,hs2,hi3⟩:=zb1 hi2 hs' hin
  have hG1':(Value.pointer (some ⟨b1,0,none⟩))=.pointer (some ⟨c1,0,none⟩):=hG1
  have hG2':(Value.pointer (some ⟨b2,0,none⟩))=.pointer (some ⟨c2,0,none⟩):=hG2
  simp at hG1' hG2'
  subst hG1'
  subst hG2'
  show Leaves P fn a2.tmps _ a2.defers (.panicking [{ v:=p.val,recovered:=false }]) w2
  rw[WF hty,hdf,hk]
  refine ufe (by simp) (hinv w2) ((hT.told b1 b2 t1 t2 o1 o2 p.n w2 hne hh1 hs1 hh2 hs2).mono ?_)
  rintro e u' w' ⟨⟨v,rfl⟩,rfl,hsw⟩
  exact tP (qoh hi3 hsw) rfl hend hn
end
section
variable {P:Program} {w w':World} {F:Nat->Prop}
def D7(w:World)(p z ty c:TypeId)(k g o b e:Nat)(a:Addr)(d l:Nat)(cs:List Value)(cur:Array Value)(t:TypeId)(y:P.underlying p=U (.slice c))(q:(P.info? c).map (·.size)=U k)(x:cs.length=Nat.min d b*k)(h:∀ j v,cs[j]?= U v->w.cell? (a.add j)=U v)(s:w.heap[g]?= U (.cells cur t (0,0)))(f:o+cs.length<=cur.size)(r:∀ v∈cs,v.oneCell'=Z):
  (Builtin.copy_ #[p,z] ty #[.slice (U ⟨g,o,V⟩) b e,.slice (U a) d l]).run P w=.ok (goInt (Nat.min d b)) (w.setRow g (cur.toList.take o++cs++cur.toList.drop (o+cs.length)).toArray):=by
 have u:=run_loadCells_list (P:=P) w a cs h;have n:=run_storeCells_at P g o t cs 0 cur w s (by simpa using f) r;cases m:P.info? c with
 |none=>simp[m]at q
 |some i=>
  have hi:i.size=k:=by simpa[m]using q
  simp[Builtin.copy_,ud5 y,Builtin.lenOf,Builtin.firstCells,sizeOf,typeInfo,m,hi,<- x,u,n]
def qym(l m:List α)(p q:Nat)(h:p<=q)(a:q<=l.length):(l.take q++m).take p=l.take p:=by
 rw[List.take_append_of_le_length (by simp;omega),ud8,udp h]
def qob(cur xs news:List α)(q p k:Nat)(d:cur.take q=xs)(j:q+k<=cur.length)(h:p<=q)(g:news.length=k)(C1 C2:List α)(a:C1=cur.take (p+k)++xs.drop p++cur.drop (p+k+(xs.drop p).length))(b:C2=C1.take p++news++C1.drop (p+news.length)):
  C1.length=cur.length/\C2.length=cur.length/\C2.take (q+k)=xs.take p++news++xs.drop p:=by
 have i:xs.length=q:=by rw[<- d,uc5];omega
 have c:C1.length=cur.length:=by rw[a];simp;omega
 have e:C1.take p=xs.take p:=by
  rw[a,ucr,qym cur _ p (p+k) (by omega) (by omega),<- d,ud8,udp h]
 have f:C1.drop (p+k)=xs.drop p++cur.drop (p+k+(xs.drop p).length):=by
  rw[a,ucr];exact ud0 (by rw[uc5];omega)
 rw[g,e,f]at b;refine⟨c,?_,?_⟩;rw[b];simp;omega;rw[b,<- ucr];exact udz (by simp;omega)
def qoa(row xs news:List α)(q p k:Nat)(g:xs.length=q)(j:p<=q)(f:row.take p=xs.take p)(h:q+k<=row.length)(i:news.length=k)(C1 C2:List α)(c:C1=row.take p++news++row.drop (p+news.length))(d:C2=C1.take (p+k)++xs.drop p++C1.drop (p+k+(xs.drop p).length)):
  C1.length=row.length/\C2.length=row.length/\C2.take (q+k)=xs.take p++news++xs.drop p:=by
 have a:C1.length=row.length:=by rw[c];simp;omega
 have e:C1.take (p+k)=xs.take p++news:=by
  rw[c,f];exact udz (by simp;omega)
 have b:C2.length=row.length:=by rw[d];simp;omega
 refine⟨a,b,?_⟩;rw[d,e];exact udz (by simp;omega)
end
def W8(w:World){a:Act}{K:Act->World->Prop}{Q:Exit->Act->World->Prop}(d s:Operand)(t b:TypeId)(f:o.op=.call { callee:=.builtin .copy,args:=#[d,s],argTypes:=#[t,b] })(v u:Value)(e:a.eval d=v)(i:a.eval s=u){c:Value}{w':World}(g:(Builtin.copy_ #[t,b] o.type #[v,u]).run P w=.ok c w')(h:K (a.put o.dst c) w'):o.wp P a w K Q:=by
 unfold Oper.wp execOp;simp only[f,resolve,invoke,builtin,ues,ueu,ucm,List.map_toArray,uek,List.map_nil,e,i,g];exact h
def nI(w:World){ops:Array Oper}{rest:List Oper}{a:Act}{Q:Exit->Act->World->Prop}(b:o.guard=V)(d s:Operand)(t c:TypeId)(i:o.op=.call { callee:=.builtin .copy,args:=#[d,s],argTypes:=#[t,c] })(v u:Value)(g:a.eval d=v)(k:a.eval s=u){e:Value}{w':World}(j:(Builtin.copy_ #[t,c] o.type #[v,u]).run P w=.ok e w')(h:wpList P ops Q rest (a.put o.dst e) w'):wpList P ops Q (o::rest) a w:=
 wpList_plain b λ_ f=>W8 w d s t c i v u g k j (f _ _ h)
def vX{ops:Array Oper}{a:Act}{K:Act->World->Prop}{Q:Exit->Act->World->Prop}{E:Prop}(i:o.guard=V)(d x:Operand)(b e:TypeId)(c:o.op=Op.call { callee:=Callee.builtin Builtin.copy,args:=#[d,x],argTypes:=#[b,e] })(v u:Value)(h:a.eval d=v)(l:a.eval x=u){f:Value}{w':World}(j:(Builtin.copy_ #[b,e] o.type #[v,u]).run P w=.ok f w')(g:K (a.put o.dst f) w'):
  if Region.wanted o (yielded ops a.tmps)=Z then Oper.wp P o a w K Q else E:=by
 have k:Region.wanted o (yielded ops a.tmps)=true:=by simp[Region.wanted,i]
 rw[ufv k];exact W8 w d x b e c v u h l j g
def xk{g q:Nat}(b:w.heap[g]?= U (.cells cur t (0,0)))(c:cur.toList.take q=xs)(a:xs[j]?= U v):w.cell? ⟨g,j,V⟩=U v:=by
 rw[cell_of_row w g j cur t (0,0) b];rw[<- c,ub2]at a;split at a;simpa using a;cases a
section
open Go.Lib
section
variable {P:Program} {ts te tn:TypeId} {i0:TypeInfo} {z:Value} {q by_:Nat} {f:FuncId}
structure InsTy (P:Program) (ts te tn:TypeId) (i0:TypeInfo) (z:Value) (q by_:Nat):Prop where
 us:P.underlying ts=some (.slice te)
 un:P.underlying tn=some (.int .i64)
 hi:P.info? te=some i0
 hz:i0.zero=some z
 hq:i0.size=q
 hb:i0.bytes=by_
 hc:z.cells.size=q
 h0:0<q
def InsTy.sz(T:InsTy P ts te tn i0 z q by_):(P.info? te).map (·.size)=U q:=by rw[T.hi];simp[T.hq]
def zV(P:Program)(f:FuncId)(te:TypeId)(q by_:Nat):Prop:=
 ∀ (w:World) (B n:Nat) (s v:Value) (xs news:List Value),B<=w.heap.size->w.ownsRow B te q s n xs->w.ownsRow B te q v 1 news->(∀ u∈news,u.oneCell'=Z)->n+1<=maxLen->(n+1)*by_<=140737488355328 ->
  Calls P f #[s,.int .i64 n,v] w λb w'=>∃ a,b=.returned a/\w.grownBy w' s.ownBlock/\w'.ownsRow B te q a (n+1) (xs++news)/\(a.ownBlock=s.ownBlock\/a.ownBlock=U w.heap.size)
def zX(P:Program)(f:FuncId)(te:TypeId)(q:Nat):Prop:=
 ∀ (w:World) (n i g a d vc:Nat) (cur:Array Value) (xs news:List Value),i<n->w.heap[g]?= U (.cells cur te (0,0))->cur.size=a*q->n+1<=a->a<=maxLen->cur.toList.take (n*q)=xs ->
  ∀ (c:Array Value),w.heap[d]?= U (.cells c te (0,0))->d≠g->news.length=q->c.toList.take q=news->1<=vc->c.size=vc*q->(∀ u∈xs,u.oneCell'=Z)->(∀ u∈news,u.oneCell'=Z) ->
  Calls P f #[.slice (U ⟨g,0,V⟩) n a,.int .i64 i,.slice (U ⟨d,0,V⟩) 1 vc] w λe w'=>∃ b,e=.returned (.slice (U ⟨g,0,V⟩) (n+1) a)/\w'=w.drew.setRow g b/\b.size=cur.size/\b.toList.take ((n+1)*q)=xs.take (i*q)++news++xs.drop (i*q)
def zW(P:Program)(f:FuncId)(te:TypeId)(q by_:Nat):Prop:=
 ∀ (w:World) (n i g a c vc:Nat) (cur:Array Value) (xs news:List Value),i<n->w.heap[g]?= U (.cells cur te (0,0))->cur.size=a*q->n<=a->a<n+1->cur.toList.take (n*q)=xs ->
  ∀ (b:Array Value),w.heap[c]?= U (.cells b te (0,0))->news.length=q->b.toList.take q=news->(∀ u∈xs,u.oneCell'=Z)->(∀ u∈news,u.oneCell'=Z)->n+1<=maxLen->(n+1)*by_<=140737488355328 ->
  Calls P f #[.slice (U ⟨g,0,V⟩) n a,.int .i64 i,.slice (U ⟨c,0,V⟩) 1 vc] w λd w'=>∃ G C,d=.returned (.slice (U ⟨w.heap.size,0,V⟩) (n+1) G)/\w.grownBy w' V/\w'.heap[w.heap.size]?= U (.cells C te (0,0))/\n+1<=G/\G<=maxLen/\C.size=G*q /\
   C.toList.take ((n+1)*q)=xs.take (i*q)++news++xs.drop (i*q)
def TK{q:Nat}(d:w.ownsRow B te q v 1 news):∃ g a cur,v=.slice (U ⟨g,0,V⟩) 1 a/\B<=g/\w.heap[g]?= U (.cells cur te (0,0))/\1<=a/\a<=maxLen/\cur.size=a*q/\cur.toList.take (1*q)=news:=by
 rcases d.2 with ⟨_,c⟩|b
 exact absurd c (by omega);exact b
def IY{T:Ty}(N:∀ args w,(callFunc f args).run P w=.ok (.enter f args) w)(he:zV P f te T.size by_)(hg:zW P f te T.size by_)(W:zX P f te T.size):InsOK P f te T by_:=by
 refine⟨N,λw B n i s v xs news hB S hv R hi r L t u=>?_⟩;rcases uep i n with m|m
 obtain⟨H,vc,h,rfl,hvb,E,hv1,hv2,hv3,o⟩:=TK hv;have z:news.length=T.size:=by have:=hv.1;omega
 rw[Nat.one_mul]at o;rcases S.2 with ⟨rfl,h0⟩|⟨g,c,cur,rfl,M,l,Q,x,j,b⟩
 omega;have y:H≠g:=λe=>R H rfl (by rw[e];rfl);rcases uep c (n+1)with D|D
 refine(hg w n i g c H vc cur xs news m l j Q D b h E z o r L t u).mono λen w' A=>?_;obtain⟨G,C,rfl,a,hh,F,K,p,q⟩:=A;refine⟨_,rfl,⟨a.os,a.tape,a.output,a.size,λk O _=>a.block k O (by simp)⟩,⟨?_,.inr ⟨_,_,_,rfl,hB,hh,F,K,p,q⟩⟩,.inr rfl⟩;rw[<- q,uc5,ubu,p];exact udp (ube _ F);refine(W w n i g c H vc cur xs news m l j D x b h E y z o hv1 hv3 r L).mono λen w' A=>?_;obtain⟨d,rfl,rfl,p,q⟩:=A;have a5:=p.trans j;refine⟨_,rfl,⟨rfl,rfl,rfl,by simp,λk _ O=>uez w.drew g k _ (λe=>O (by simp[Value.ownBlock,e]))⟩,⟨?_,.inr ⟨g,c,d,rfl,M,ufc w.drew g cur d _ _ l,D,x,a5,q⟩⟩,.inl rfl⟩;rw[<- q,uc5,ubu,a5];exact udp (ube _ D);have e:i=n:=by omega
 subst e;refine(he w B i s v xs news hB S hv L t u).mono λen w' A=>?_;obtain⟨v',rfl,F,K,p⟩:=A;refine⟨v',rfl,F,?_,p⟩;have hx:=S.1;rw[ua3 (by omega),ua2 (by omega),udr];exact K
def RN{b q:Nat}(c:cur.size=b*q)(d:n<=b)(a:cur.toList.take (n*q)=xs):xs.length=n*q:=by
 rw[<- a,uc5,ubu,c];exact udp (ube _ d)
def InsTy.shift(T:InsTy P ts te tn i0 z q by_){g c o vc:Nat}(hi:i<n)(s:w.heap[g]?= U (.cells cur te (0,0)))(r:cur.size=c*q)(f:n+1<=c)(a:cur.toList.take (n*q)=xs){b:Array Value}(y:w.heap[o]?= U (.cells b te (0,0)))(x:o≠g)(e:news.length=q)(A:b.toList.take q=news)(p:∀ u∈xs,u.oneCell'=Z)(F:∀ u∈news,u.oneCell'=Z):
  ∃ C1 C2:Array Value,(∀ ty d C,(Builtin.copy_ #[ts,ts] ty #[.slice (U ⟨g,(i+1)*q,V⟩) (n-i) d,.slice (U ⟨g,i*q,V⟩) (n+1-i) C]).run P w.drew=.ok (goInt (Nat.min (n+1-i) (n-i))) (w.drew.setRow g C1)) /\
   (∀ ty d,(Builtin.copy_ #[ts,ts] ty #[.slice (U ⟨g,i*q,V⟩) (n+1-i) d,.slice (U ⟨o,0,V⟩) 1 vc]).run P (w.drew.setRow g C1)=.ok (goInt (Nat.min 1 (n+1-i))) (w.drew.setRow g C2)) /\
   C2.size=cur.size/\C2.toList.take ((n+1)*q)=xs.take (i*q)++news++xs.drop (i*q):=by
 have D:(i+1)*q=i*q+q:=uew _ _;have E:(n+1)*q=n*q+q:=uew _ _;have M:(n-i)*q=n*q-i*q:=Nat.sub_mul _ _ _;have N:(i+1)*q<=n*q:=ube _ hi;have O:(n+1)*q<=c*q:=ube _ f;have B:=RN r (by omega) a;have m:(xs.drop (i*q)).length=(n-i)*q:=by rw[uc6,B];omega
 obtain⟨C1,k⟩:∃ C1:Array Value,C1=(cur.toList.take ((i+1)*q)++xs.drop (i*q)++cur.toList.drop ((i+1)*q+(xs.drop (i*q)).length)).toArray:=⟨_,rfl⟩;obtain⟨C2,l⟩:∃ C2:Array Value,C2=(C1.toList.take (i*q)++news++C1.toList.drop (i*q+news.length)).toArray:=⟨_,rfl⟩;obtain⟨H,K,L⟩:=qob cur.toList xs news (n*q) (i*q) q a (by simp;omega) (by omega) e C1.toList C2.toList (by rw[k];simp only[D]) (by rw[l]);refine⟨C1,C2,λty d C=>?_,λty d=>?_,by rw[<- ubu,K,ubu],by rw[E];exact L⟩;rw[k];exact D7 w.drew _ _ ty te q g ((i+1)*q) (n-i) d ⟨g,i*q,V⟩ (n+1-i) C (xs.drop (i*q)) cur te T.us T.sz (by rw[m,show Nat.min (n+1-i) (n-i)=n-i from Nat.min_eq_right (by omega)])
  (λj v t=>by rw[ue7];exact xk s a (by rwa [ub1]at t)) s (by rw[m];omega) (λv G=>p v (ubr G))
 rw[l];have h:=D7 (w.drew.setRow g C1) ts ts ty te q g (i*q) (n+1-i) d ⟨o,0,V⟩ 1 vc news C1 te T.us T.sz (by rw[e,show Nat.min 1 (n+1-i)=1 from udp (by omega),Nat.one_mul])
  (λj v t=>by
   rw[ue7,uex];exact xk ((uez w.drew g o C1 x).trans y) A t) (ufc w.drew g cur C1 _ _ s) (by rw[e,<- ubu,H,ubu];omega) F
 rw[setRow_setRow]at h;exact h
def InsTy.grow(T:InsTy P ts te tn i0 z q by_){g cap vb vc:Nat}(hi:i<n)(hg:w.heap[g]?= some (.cells cur te (0,0)))(hcs:cur.size=cap*q)(hnc:n<=cap)(hroom:cap<n+1)(htake:cur.toList.take (n*q)=xs){vcur:Array Value}(hvg:w.heap[vb]?= some (.cells vcur te (0,0)))(hnl:news.length=q)(hvt:vcur.toList.take q=news)(h1x:∀ u∈xs,u.oneCell'=true)(h1:∀ u∈news,u.oneCell'=true)(h63:n+1<=maxLen)(hby:(n+1)*by_<=140737488355328):
  ∃ (G:Nat) (ROW C1 C2:Array Value),(∀ ty,(Builtin.append_ #[ts,tn] ty #[.slice (some ⟨g,0,none⟩) i cap,.int .i64 ((n:Int)+1-(i:Int))]).run P w=.ok (.slice (some ⟨w.heap.size,0,none⟩) (n+1) G) (w.drew.alloc (.cells ROW te))) /\
   (∀ ty dc,(Builtin.copy_ #[ts,ts] ty #[.slice (some ⟨w.heap.size,i*q,none⟩) (n+1-i) dc,.slice (some ⟨vb,0,none⟩) 1 vc]).run P (w.alloc (.cells ROW te)).drew=.ok (goInt (Nat.min 1 (n+1-i))) ((w.alloc (.cells ROW te)).drew.setRow w.heap.size C1)) /\
   (∀ ty dc sc,(Builtin.copy_ #[ts,ts] ty #[.slice (some ⟨w.heap.size,(i+1)*q,none⟩) (n-i) dc,.slice (some ⟨g,i*q,none⟩) (n-i) sc]).run P ((w.alloc (.cells ROW te)).drew.setRow w.heap.size C1).drew=.ok (goInt (Nat.min (n-i) (n-i))) (((w.alloc (.cells ROW te)).drew.setRow w.heap.size C1).drew.setRow w.heap.size C2)) /\
   n+1<=G/\G<=maxLen/\w.grownBy (((w.alloc (.cells ROW te)).drew.setRow w.heap.size C1).drew.setRow w.heap.size C2) none/\(((w.alloc (.cells ROW te)).drew.setRow w.heap.size C1).drew.setRow w.heap.size C2).heap[w.heap.size]?= some (.cells C2 te (0,0)) /\
   C2.size=G*q/\C2.toList.take ((n+1)*q)=xs.take (i*q)++news++xs.drop (i*q):=by
 have h63':n+1<=9223372036854775807:=by unfold maxLen at h63;omega
 have e1:(i+1)*q=i*q+q:=uew _ _;have e2:(n+1)*q=n*q+q:=uew _ _;have e3:(n-i)*q=n*q-i*q:=Nat.sub_mul _ _ _;have m1:(i+1)*q<=n*q:=ube _ hi;have hxl:=RN hcs hnc htake;have hdl:(xs.drop (i*q)).length=(n-i)*q:=by rw[uc6,hxl];omega
 have hgw:=(uaf.1 hg).1;have hvw:=(uaf.1 hvg).1;have hkk:(n:Int)+1-(i:Int)=((n+1-i:Nat):Int):=by omega
 have hik:i+(n+1-i)=n+1:=by omega
 have hold:(Builtin.firstCells i0.size i (.slice (some ⟨g,0,none⟩) i cap)).run P w.drew=.ok (xs.take (i*q)).toArray w.drew:=by
  rw[T.hq];exact run_firstCells_some w.drew q i ⟨g,0,none⟩ i cap (xs.take (i*q)) (by rw[uc5];omega) (λj v hj=>by
   rw[ue7,uex];rw[ub2]at hj;split at hj
   ·exact xk hg htake hj
   ·cases hj)
 obtain⟨G,hG⟩:∃ G,G=grownCap w (n+1) cap te:=⟨_,rfl⟩;have hGn:n+1<=G:=by rw[hG];exact grownCap_ge w _ _ _
 have hGm:G<=maxLen:=by rw[hG];exact ub7 w _ _ _ h63
 have m3:(n+1)*q<=G*q:=ube _ hGn;obtain⟨ROW,hROW⟩:∃ ROW:Array Value,ROW=(xs.take (i*q)).toArray++Builtin.zeroCells z.cells (n+1-i)++Builtin.zeroCells z.cells (G-(n+1)):=⟨_,rfl⟩;have hrz:∀ ty,(Builtin.append_ #[ts,tn] ty #[.slice (some ⟨g,0,none⟩) i cap,.int .i64 ((n:Int)+1-(i:Int))]).run P w =
   .ok (.slice (some ⟨w.heap.size,0,none⟩) (n+1) G) (w.drew.alloc (.cells ROW te)):=λty=>by
  have h:=Lib.run_append_grow_zeros w ts tn ty te i0 _ .i64 .i64 T.us T.un T.hi T.hz (some ⟨g,0,none⟩) i cap (xs.take (i*q)) hold (n+1-i) (by omega) (by have:=T.h0;have:=T.hq;omega) (by omega) (by omega) (by
   rw[T.hb];have:(n+1-i)*by_<=(n+1)*by_:=ube _ (by omega);omega) (by rw[T.hb,hik];exact growslice_fits hroom hby)
  rw[hik,<- hG,<- hROW]at h;rw[hkk];exact h
 have e4:(n+1-i)*q=(n+1)*q-i*q:=Nat.sub_mul _ _ _;have e5:(G-(n+1))*q=G*q-(n+1)*q:=Nat.sub_mul _ _ _;have hRs:ROW.size=G*q:=by
  rw[hROW];simp only[ucp,ucq,size_zeroCells,T.hc,uc5];omega
 have hRt:ROW.toList.take (i*q)=xs.take (i*q):=by
  rw[hROW,Array.toList_append,Array.toList_append,ucr];exact udz (by rw[uc5];omega)
 obtain⟨C1,hC1⟩:∃ C1:Array Value,C1=(ROW.toList.take (i*q)++news++ROW.toList.drop (i*q+news.length)).toArray:=⟨_,rfl⟩;obtain⟨C2,hC2⟩:∃ C2:Array Value,C2=(C1.toList.take ((i+1)*q)++xs.drop (i*q)++C1.toList.drop ((i+1)*q+(xs.drop (i*q)).length)).toArray:=⟨_,rfl⟩;obtain⟨k1,k2,k3⟩:=qoa ROW.toList xs news (n*q) (i*q) q hxl (by omega) hRt (by rw[ubu];omega) hnl C1.toList C2.toList (by rw[hC1]) (by rw[hC2];simp only[e1]);have hnew:(w.drew.alloc (.cells ROW te)).heap[w.heap.size]?= some (.cells ROW te (0,0)):=ud7 w.drew _;refine⟨G,ROW,C1,C2,hrz,λty dc=>?_,λty dc sc=>?_,hGn,hGm,⟨rfl,rfl,rfl,?_,λk hk _=>?_⟩,?_,by rw[<- ubu,k2,ubu,hRs],by rw[e2];exact k3⟩
 ·rw[hC1];exact D7 _ _ _ ty te q w.heap.size (i*q) (n+1-i) dc ⟨vb,0,none⟩ 1 vc news ROW te T.us T.sz (by rw[hnl,show Nat.min 1 (n+1-i)=1 from udp (by omega),Nat.one_mul])
   (λj v hj=>by
    rw[ue7,uex];exact xk ((nY w.drew _ vb hvw).trans hvg) hvt hj) hnew (by omega) h1
 ·rw[hC2];exact D7 _ _ _ ty te q w.heap.size ((i+1)*q) (n-i) dc ⟨g,i*q,none⟩ (n-i) sc (xs.drop (i*q)) C1 te T.us T.sz (by rw[hdl,show Nat.min (n-i) (n-i)=n-i from Nat.min_self _])
   (λj v hj=>by
    rw[ue7];exact xk (((uez (w.alloc (.cells ROW te)).drew w.heap.size g C1 (by omega)).trans (nY w.drew _ g hgw)).trans hg) htake (by rwa [ub1]at hj))
   (ufc (w.alloc (.cells ROW te)).drew w.heap.size ROW C1 _ _ hnew) (by rw[hdl,<- ubu,k1,ubu];omega) (λv hv=>h1x v (ubr hv))
 ·simp
 ·exact(uez ((w.alloc (.cells ROW te)).drew.setRow w.heap.size C1).drew w.heap.size k C2 (by omega)).trans ((uez (w.alloc (.cells ROW te)).drew w.heap.size k C1 (by omega)).trans (nY w _ k hk))
 ·exact ufc ((w.alloc (.cells ROW te)).drew.setRow w.heap.size C1).drew w.heap.size C1 C2 _ _ (ufc (w.alloc (.cells ROW te)).drew w.heap.size ROW C1 _ _ hnew)
def InsTy.fin(T:InsTy P ts te tn i0 z q by_){s:Value}(m:B<=w.heap.size)(p:w.ownsRow B te q s n xs)(f:w.ownsRow B te q v 1 news)(l:∀ u∈news,u.oneCell'=Z)(c:n+1<=maxLen)(d:(n+1)*by_<=140737488355328):
  ∃ b vc a w',v=.slice (U ⟨b,0,V⟩) 1 vc/\(∀ ty,(Builtin.append_ #[ts,ts] ty #[s,.slice (U ⟨b,0,V⟩) 1 vc]).run P w=.ok a w')/\w.grownBy w' s.ownBlock/\w'.ownsRow B te q a (n+1) (xs++news)/\(a.ownBlock=s.ownBlock\/a.ownBlock=U w.heap.size):=by
 obtain⟨b,vc,g,rfl,A,C,r,t,x,y⟩:=TK f;obtain⟨a,w',o,i,j,k⟩:=qr ts ts te i0 _ q T.us T.hi T.hz T.hq T.hc T.h0 s n xs p (U ⟨b,0,V⟩) 1 vc news (λh=>by cases h) f.1 (λad e=>by cases e;exact f.cells rfl) l c (by rw[T.hb];exact d) m;exact⟨b,vc,a,w',rfl,λty=>o,j,i,k⟩
def InsTy.nil(T:InsTy P ts te tn i0 z q by_)(w:World)(A:Option Addr)(n c:Nat):(binOp .eql ts (.slice A n c) (.slice V 0 0)).run P w=.ok (.bool A.isNone) w:=by
 have a:binOp .eql ts (.slice A n c) (.slice V 0 0)=(do pure (.bool (<- Op.equal ts (.slice A n c) (.slice V 0 0)))):=rfl;have b:Op.equal ts (.slice A n c) (.slice V 0 0)=Op.equalIn (9999+1) ts (.slice A n c) (.slice V 0 0):=rfl;rw[a,b];simp[JJ T.us]
def InsTy.clone(T:InsTy P ts te tn i0 z q by_)(l:xs.length=n*q)(i:∀ (j:Nat) u,xs[j]?= U u->w.cell? (ad.add j)=U u)(p:∀ u∈xs,u.oneCell'=Z)(f:n<=maxLen)(g:n*by_<=140737488355328):
  ∃ d w',(∀ ty,(Builtin.append_ #[ts,ts] ty #[.slice (U ⟨w.heap.size,0,V⟩) 0 0,.slice (U ad) n c]).run P (w.alloc (.cells #[] te))=.ok d w')/\w.grownBy w' V/\w'.ownsRow w.heap.size te q d n xs:=by
 have r:(w.alloc (.cells #[] te)).ownsRow w.heap.size te q (.slice (U ⟨w.heap.size,0,V⟩) 0 0) 0 []:=World.ownsRow_lit w #[] 0 (ue9 _) (by unfold maxLen;omega) (by simp);have a:∀ (j:Nat) u,xs[j]?= U u->(w.alloc (.cells #[] te)).cell? (ad.add j)=U u:=λj u t=>by
  have h:=i j u t;have s:=block_lt_of_cell h;rw[ubd (nY w _ _ s)];exact h
 obtain⟨d,w',x,m,b,y⟩:=qr ts ts te i0 _ q T.us T.hi T.hz T.hq T.hc T.h0 _ 0 [] r (U ad) n c xs (λh=>by cases h) l (λo e=>by cases e;exact a) p (by rw[uex];exact f) (by rw[T.hb,uex];exact g) (by simp);rw[uex,udm]at m;refine⟨d,w',λty=>x,⟨b.os,b.tape,b.output,ueo (by simp) b.size,λk v _=>(b.block k (by simp;omega) (λe=>?_)).trans (nY w _ k v)⟩,m⟩;have:k=w.heap.size:=by simpa[Value.ownBlock]using e
 omega
def ul(hi:i<n)(a:n<=9223372036854775806):¬ ((i:Int)=(n:Int))/\I6.wrap ((i:Int)+(1:Int))=(i:Int)+(1:Int)/\(0:Int)<=(i:Int)+(1:Int)/\((i:Int)+(1:Int)).toNat=i+1/\i<=n/\(i:Int)<=(n:Int)/\(i:Int)<=(n:Int)+(1:Int):=
 ⟨by omega,by rw[udf];omega,by omega,by omega,by omega,by omega,by omega⟩
end
end
def da(step:Int->T->σ->Fr (σ ⊕ ρ)):Int->List T->σ->σ ⊕ ρ
 |_,[],s=>.inl s
 |i,x::r,s=>match (step i x s).get with
  |.inl a=>da step (i+1) r a
  |.inr y=>.inr y
def eJ(step:Int->T->σ->Fr (σ ⊕ ρ)):Int->List T->σ->Prop
 |_,[],_=>True
 |i,x::r,s=>(step i x s).ok/\match (step i x s).get with
  |.inl a=>eJ step (i+1) r a
  |.inr _=>True
def bO(step:Int->T->σ->Fr σ):Int->List T->σ->σ
 |_,[],s=>s
 |i,x::r,s=>bO step (i+1) r (step i x s).get
def bM(step:Int->T->σ->Fr σ):Int->List T->σ->Prop
 |_,[],_=>True
 |i,x::r,s=>(step i x s).ok/\bM step (i+1) r (step i x s).get
section
variable {P:Program} {c:Code} {L Eo R:LS} {n id:Nat} {κ T σ ρ:Type}
structure InK (n i:Int) (l:Nat):Prop where
 n:n=(l:Int)
 lo:0<=i
 hi:0<=(l:Int)
 big:(l:Int)<=9223372036854775807
def FK(a:L.X->Int×κ×σ)(e:κ->Int)(b:κ->List T)(step:κ->Prop->Int->T->σ->Fr (σ ⊕ ρ))(ca:κ->σ->Eo.X)(outR:κ->ρ->Rd Empty Eo.X R.X)(d:σ)(c:ρ)(x:L.X):Fr (Rd L.X Eo.X R.X):=
 Fr.need (InK (e (a x).2.1) (a x).1 (b (a x).2.1).length) (Fr.need (eJ (step (a x).2.1 True) (a x).1 ((b (a x).2.1).drop (a x).1.toNat) (a x).2.2)
  (Fr.br (dF (da (step (a x).2.1 True) (a x).1 ((b (a x).2.1).drop (a x).1.toNat) (a x).2.2)) (Fr.val (Rd.out (ca (a x).2.1 (dO d (da (step (a x).2.1 True) (a x).1 ((b (a x).2.1).drop (a x).1.toNat) (a x).2.2)))))
   (Fr.val (Rd.up (outR (a x).2.1 (zej c (da (step (a x).2.1 True) (a x).1 ((b (a x).2.1).drop (a x).1.toNat) (a x).2.2)))))))
def yu(mk:Int->κ->σ->L.X)(outR:κ->ρ->Rd Empty Eo.X R.X)(i:Int)(k:κ):σ ⊕ ρ->Rd L.X Eo.X R.X
 |.inl s=>.next (mk (I6.wrap (i+1)) k s)
 |.inr y=>Rd.up (outR k y)
def lm {C:Cx} (S:CxOK P C) {Λ:Nat->St->Option Tr} (mk:Int->κ->σ->L.X) {a:L.X->Int×κ×σ} {o:κ->Int} {b:κ->List T} (w:T) {step:κ->Prop->Int->T->σ->Fr (σ ⊕ ρ)} {ca:κ->σ->Eo.X} {outR:κ->ρ->Rd Empty Eo.X R.X} {d:σ} {M:ρ}
  (hΛ:∀ E,bP P E Λ c 0:=by exact λ_=>aY _ 0)
  (hr:∀ i k s,nB P C 0 Λ c L ⟨n,id,L,Eo,R⟩ (mk i k s)=U (Fr.br (J (i<o k)) ((step k (0<=i/\i<((b k).length:Int)) i ((b k).getD i.toNat w) s).mapR (yu mk outR i k)) (Fr.val (Rd.out (ca k s)))):=by intro i k s;kernel_rfl)
  (K:∀ x,mk (a x).1 (a x).2.1 (a x).2.2=x:=by intro _;rfl) (D:∀ i k s,a (mk i k s)=(i,k,s):=by intro _ _ _;rfl)
  (hM:L.low=true:=by rfl) (W:Eo.low=true:=by rfl) (hR:R.low=true:=by rfl) :
  ae P (.loop c) L ⟨n,id,L,Eo,R⟩ (FK a o b step ca outR d M):=by
 have hs:ae P c L ⟨n,id,L,Eo,R⟩ (λx=>Fr.br (J ((a x).1<o (a x).2.1)) ((step (a x).2.1 (0<=(a x).1/\(a x).1<((b (a x).2.1).length:Int)) (a x).1 ((b (a x).2.1).getD (a x).1.toNat w) (a x).2.2).mapR (yu mk outR (a x).1 (a x).2.1)) (Fr.val (Rd.out (ca (a x).2.1 (a x).2.2)))):=
  ae.of_run S (bs:=0) (Λ:=Λ) hM W hR hΛ λx=>by
   have h:=hr (a x).1 (a x).2.1 (a x).2.2
   rwa [K]at h
 refine ae.loop (n:=n) (id:=id) hs (inv:=λx=>InK (o (a x).2.1) (a x).1 (b (a x).2.1).length) (μ:=λx=>(((b (a x).2.1).length:Int)-(a x).1).toNat) ?_ (λx Q H=>H.1);intro x v Q H;obtain⟨_,j,f,g⟩:=H;generalize hu:a x=u at *;obtain⟨i,k,s⟩:=u;dsimp only at v j f g |-;have F:=v.n;have B:=v.lo;have q:=v.big;refine⟨λA=>?_,λA=>?_⟩
 ·have hi:i<((b k).length:Int):=by rw[<- F];exact ucx A
  have t:i.toNat<(b k).length:=by omega
  have hb:(0<=i/\i<((b k).length:Int))=True:=eq_true ⟨B,hi⟩;have O:(b k).drop i.toNat=(b k)[i.toNat]::(b k).drop (i.toNat+1):=ual t;have hd:(b k).getD i.toNat w=(b k)[i.toNat]:=by rw[uah,uaq t];rfl
  have hw:I6.wrap (i+1)=i+1:=IntWalk.i64_in _ (by omega);rw[O]at j f g;rw[hb,hd];generalize (b k)[i.toNat]=e at j f g |-;refine su (nL j.1 ?_);have l:=j.2;simp only[da]at f g;cases N:(step k True i e s).get with
  |inl s'=>
   simp only[N]at l f g;show InK _ _ _/\_<_/\(FK a o b step ca outR d M (mk (I6.wrap (i+1)) k s')).satP Q;rw[hw];unfold FK;rw[D];have r:InK (o k) (i+1) (b k).length:=⟨F,by omega,by omega,q⟩;have G:(i+1).toNat=i.toNat+1:=by omega
   refine⟨r,by dsimp only;omega,r,?_⟩;dsimp only;rw[G];exact⟨l,f,g⟩
  |inr y=>
   simp only[N]at f g;have:=g rfl;simp only[zej]at this;cases m:outR k y with
   |next x=>exact nomatch x
   |out y2=>rw[m]at this;simp only[yu,m,Rd.up];exact this
   |back z=>rw[m]at this;simp only[yu,m,Rd.up];exact this
   |pan p=>rw[m]at this;simp only[yu,m,Rd.up];exact this
 have hi:¬ i<((b k).length:Int):=by rw[<- F];exact uch A
 have t:(b k).drop i.toNat=[]:=ua2 (by omega);rw[t]at f;exact f rfl
def FG(a:L.X->Int×κ×σ)(c:κ->Int)(b:κ->List T)(step:κ->Prop->Int->T->σ->Fr σ)(ca:κ->σ->Eo.X)(x:L.X):Fr (Rd L.X Eo.X R.X):=
 Fr.need (InK (c (a x).2.1) (a x).1 (b (a x).2.1).length) (Fr.need (bM (step (a x).2.1 True) (a x).1 ((b (a x).2.1).drop (a x).1.toNat) (a x).2.2)
  (Fr.val (Rd.out (ca (a x).2.1 (bO (step (a x).2.1 True) (a x).1 ((b (a x).2.1).drop (a x).1.toNat) (a x).2.2)))))
def cN {C:Cx} (B:CxOK P C) {Λ:Nat->St->Option Tr} (mk:Int->κ->σ->L.X) {a:L.X->Int×κ×σ} {g:κ->Int} {b:κ->List T} (p:T) {step:κ->Prop->Int->T->σ->Fr σ} {ca:κ->σ->Eo.X}
  (hΛ:∀ E,bP P E Λ c 0:=by exact λ_=>aY _ 0)
  (M:∀ i k s,nB P C 0 Λ c L ⟨n,id,L,Eo,R⟩ (mk i k s)=U (Fr.br (J (i<g k)) ((step k (0<=i/\i<((b k).length:Int)) i ((b k).getD i.toNat p) s).mapR (λs=>Rd.next (mk (I6.wrap (i+1)) k s))) (Fr.val (Rd.out (ca k s)))):=by intro i k s;kernel_rfl)
  (z:∀ x,mk (a x).1 (a x).2.1 (a x).2.2=x:=by intro _;rfl) (t:∀ i k s,a (mk i k s)=(i,k,s):=by intro _ _ _;rfl)
  (F:L.low=true:=by rfl) (D:Eo.low=true:=by rfl) (G:R.low=true:=by rfl) :
  ae P (.loop c) L ⟨n,id,L,Eo,R⟩ (FG a g b step ca):=by
 have N:ae P c L ⟨n,id,L,Eo,R⟩ (λx=>Fr.br (J ((a x).1<g (a x).2.1)) ((step (a x).2.1 (0<=(a x).1/\(a x).1<((b (a x).2.1).length:Int)) (a x).1 ((b (a x).2.1).getD (a x).1.toNat p) (a x).2.2).mapR (λs=>Rd.next (mk (I6.wrap ((a x).1+1)) (a x).2.1 s))) (Fr.val (Rd.out (ca (a x).2.1 (a x).2.2)))):=
  ae.of_run B (bs:=0) (Λ:=Λ) F D G hΛ λx=>by
   have h:=M (a x).1 (a x).2.1 (a x).2.2
   rwa [z]at h
 refine ae.loop (n:=n) (id:=id) N (inv:=λx=>InK (g (a x).2.1) (a x).1 (b (a x).2.1).length) (μ:=λx=>(((b (a x).2.1).length:Int)-(a x).1).toNat) ?_ (λx Q y=>y.1);intro x o Q y;obtain⟨_,f,d⟩:=y;generalize S:a x=u at *;obtain⟨i,k,s⟩:=u;dsimp only at o f d |-;have v:=o.n;have r:=o.lo;have j:=o.big;refine⟨λq=>?_,λq=>?_⟩;have hi:i<((b k).length:Int):=by rw[<- v];exact ucx q
 have m:i.toNat<(b k).length:=by omega
 have H:(0<=i/\i<((b k).length:Int))=True:=eq_true ⟨r,hi⟩;have A:(b k).drop i.toNat=(b k)[i.toNat]::(b k).drop (i.toNat+1):=ual m;have K:(b k).getD i.toNat p=(b k)[i.toNat]:=by rw[uah,uaq m];rfl
 have O:I6.wrap (i+1)=i+1:=IntWalk.i64_in _ (by omega);rw[A]at f d;rw[H,K];generalize (b k)[i.toNat]=e at f d |-;refine su (nL f.1 ?_);show InK _ _ _/\_<_/\(FG a g b step ca (mk (I6.wrap (i+1)) k (step k True i e s).get)).satP Q;rw[O];unfold FG;rw[t];have l:InK (g k) (i+1) (b k).length:=⟨v,by omega,by omega,j⟩;have w:(i+1).toNat=i.toNat+1:=by omega
 refine⟨l,by dsimp only;omega,l,?_⟩;dsimp only;rw[w];exact⟨f.2,d⟩;have hi:¬ i<((b k).length:Int):=by rw[<- v];exact uch q
 have m:(b k).drop i.toNat=[]:=ua2 (by omega);rw[m]at d;exact d
end
structure Ht where
 pt:TypeId
 bt:TypeId
 e:TypeId
 T:Ty
 ps:List PT
 rs:List Ty
 f:List T.den->ag ps->List T.den×aa rs
 ok:List T.den->ag ps->List Prop
section
variable {P:Program} {w w':World} {E:Env} {F F':Nat->Prop} {γ γ':Nat->Value}
def Nv(w:World)(c:Ht)(b:Nat)(s:Value)(y:List c.T.den×aa c.rs)(e:Ending)(w':World):Prop:=
 ∃ u d a,e=.returned u/\w'.os=w.os/\w'.tape=w.tape/\w'.output=w.output/\w.heap.size<=w'.heap.size/\(∀ k,k<w.heap.size->k≠b->s.ownBlock≠U k->w'.heap[k]?= w.heap[k]?) /\
  w'.heap[b]?= U (.cells #[d] c.bt (0,0))/\w'.ownsRow 0 c.e c.T.size d y.1.length a/\(∀ g,d.ownBlock=U g->(s.ownBlock=U g\/w.heap.size<=g)/\g≠b) /\
  bU w' (λ_=>False) c.T y.1 a/\(∀ u∈a,u.oneCell'=Z)/\d.oneCell'=Z/\gT w' (λ_=>False) c.rs y.2 u
structure SoundHt (P:Program) (f:FuncId) (ht:Ht):Prop where
 lt:ht.e<cj
 flat:ht.T.flat=true
 flats:ht.rs.all Ty.flat=true
 enters:∀ args w,(callFunc f args).run P w=.ok (.enter f args) w
 calls:∀ (w:World) (F:Nat->Prop) (l:List ht.T.den) (xs:ag ht.ps) (b:Nat) (s:Value) (vs rows:List Value),(∀ b,F b->b<w.heap.size)->w.heap[b]?= some (.cells #[s] ht.bt (0,0))->¬ F b ->
  w.ownsRow 0 ht.e ht.T.size s l.length rows->(∀ g,s.ownBlock=some g->¬ F g/\g≠b)->bU w F ht.T l rows->(∀ u∈rows,u.oneCell'=true)->cJ P w F ht.ps xs vs->av (ht.ok l xs) ->
  Calls P f (.iface ht.pt (.pointer (some ⟨b,0,none⟩))::vs).toArray w (Nv w ht b s (ht.f l xs))
def ue(Γ:Gm)(f:FuncId)(a:Ht)(d:Nat)(g:FuncId)(args:List AV)(s:St):Option Tr:=
 if g=f then match args with
  |.c (.ifp pt id)::rest=>match dK s.mem rest with
   |some (xs,u)=>match ax s.mem u id with
    |some (.box bt [.own r])=>match ax s.mem u r,ax s.mem u d with
     |some (.arr e t l),V=>if h:t=a.T then if e=a.e/\pt=a.pt/\bt=a.bt then match jf Γ a.ps xs with
       |some (x,n)=>U (needL (n++a.ok (cA h l) x) (.leaf (.val (jg a.rs (a.f (cA h l) x).2)) ⟨s.n,s.sl,ax (ax s.mem u) [(r,.gone),(d,.arr a.e a.T (a.f (cA h l) x).1),(id,.box a.bt [.own d])],s.gs⟩))
       |none=>V
      else V else V
     |_,_=>V
    |_=>V
   |none=>V
  |_=>V
 else V
def Ch{Γ:Gm}(hΓ:kN P Γ){c:Ht}(h:SoundHt P f c):gQ P (ue Γ f c):=by
 intro d g args s t m;unfold ue at m;split at m<;>try trivial
 rename_i G;subst G;split at m<;>try trivial
 rename_i pt id rest;split at m<;>try trivial
 rename_i xs u hrs;split at m<;>try trivial
 rename_i bt r p;split at m<;>try trivial
 rename_i e ty l S hd;split at m<;>try trivial
 rename_i hty;split at m<;>try trivial
 rename_i hc;obtain⟨rfl,rfl,rfl⟩:=hc;split at m<;>try trivial
 rename_i x n hdec;cases m;subst hty;refine⟨h.enters,λE a w F γ vs Q hi z hq=>?_⟩;obtain⟨hn,hqv⟩:=jm _ hq;obtain⟨hn1,hn2⟩:=jd.1 hn;cases vs with
 |nil=>exact z.elim
 |cons v vs=>
  obtain⟨⟨_,b0,hv1,rfl⟩,z⟩:=z;obtain⟨F1,s1,m1,_,r1⟩:=iy hi.mem (dv hi) (cX.of λ_ _ h=>h) hrs z;have hps:=mK hΓ hdec hn1 r1;generalize hM:ax s.mem u=M at *;obtain⟨b,arr,k1,k2,k3,k4,k5,k6⟩:=m1.ob id _ p;have hb0:b0=b:=by
   have D:ap M γ id (.pointer (U ⟨b0,0,V⟩)):=s1.hR id _ hv1;unfold ap at D;rw[p]at D;have h3:Value.pointer (U ⟨b0,0,V⟩)=γ id:=D;rw[k1]at h3;cases h3;rfl
  subst hb0;obtain⟨⟨sv,z1,z2,z3⟩,_⟩:=k6;have hsv:sv=γ r:=ez S (by simp) z3;subst hsv;have du:arr = #[γ r]:=by
   refine uci λj=>?_;cases j with
   |zero=>simpa using z1
   |succ j=>
    have:arr.size=1:=k5;rw[ua1 (by omega),ua1 (by simp)]
  subst du;obtain⟨rows,o1,o2,o3,o4⟩:=gg.of (m1.ob r _ S) h.lt;have hrid:r≠id:=by rintro rfl;rw[S]at p;cases p
  have q:d≠id:=by rintro rfl;rw[hd]at p;cases p
  have hdr:d≠r:=by rintro rfl;rw[hd]at S;cases S
  have hgb:∀ g,(γ r).ownBlock=U g->g≠b0:=λg G he=>m1.apart r id _ _ g hrid S p (.inl G) ⟨_,k1,he.symm⟩;have R:∀ g,(γ r).ownBlock=U g->E.B<=g/\g<w.heap.size:=λg G=>o1.lt g G;have hc:=h.calls w F1 l x b0 (γ r) vs rows s1.bd k2 k3 (rD o1 (λ_ _=>uff _)) (λg G=>⟨o2 g G,hgb g G⟩) o3 o4 hps hn2;refine hc.mono λen w2 hp=>?_;obtain⟨u2,O,rows2,rfl,p1,p2,p3,p4,p5,p6,p7,p8,p9,p10,p11,p12⟩:=hp;have hBs:=nM hi;have N:∀ j,ax M [(r,Ob.gone),(d,.arr c.e c.T (c.f l x).1),(id,.box c.bt [.own d])] j=if j=id then U (.box c.bt [.own d])else if j=d then U (.arr c.e c.T (c.f l x).1)else if j=r then U .gone else M j:=λj=>by
   simp only[ax,upd]
  have y:∀ k,k<w.heap.size->k≠b0->(γ r).ownBlock≠U k->w2.heap[k]?= w.heap[k]? := p5;have hFk:∀ k,F1 k->w2.heap[k]?= w.heap[k]? := λk m=>y k (s1.bd k m) (λe=>k3 (e ▸ m)) (λe=>o2 k e m);have hR:∀ i v',ap M γ i v'->ap (ax M [(r,Ob.gone),(d,.arr c.e c.T (c.f l x).1),(id,.box c.bt [.own d])]) (cU γ d O) i v':=λi v' C=>by
   unfold ap at C |-;rw[N];by_cases W:i=id;subst W;rw[p]at C;rw[ufv rfl,eC _ _ q.symm];exact C;rw[ufw W];by_cases D:i=d;subst D;rw[hd]at C;exact C.elim;rw[ufw D];by_cases h3:i=r;rw[ufv h3];trivial;rw[ufw h3,eC _ _ D];exact C
  have K:∀ i o,(i=id\/i=d\/i=r)->ax M [(r,Ob.gone),(d,.arr c.e c.T (c.f l x).1),(id,.box c.bt [.own d])] i=U o->(i=id/\o=.box c.bt [.own d])\/(i=d/\o=.arr c.e c.T (c.f l x).1)\/o=.gone:=λi o hs H=>by
   rw[N]at H;by_cases W:i=id;rw[ufv W]at H;exact .inl ⟨W,(ud3 H).symm⟩;rw[ufw W]at H;by_cases D:i=d;rw[ufv D]at H;exact .inr (.inl ⟨D,(ud3 H).symm⟩);rw[ufw D,ufv ((hs.resolve_left W).resolve_left D)]at H;exact .inr (.inr (ud3 H).symm)
  have hnm:=nq p7;have hB2:∀ g,O.ownBlock=U g->E.B<=g:=λg G=>(p8 g G).1.elim (λh=>(R g h).1) (λh=>by omega);have hF2:∀ g,O.ownBlock=U g->¬ F1 g:=λg G hF=>(p8 g G).1.elim (λh=>o2 g h hF) (λh=>by have:=s1.bd g hF;omega);have s2:Step E.B w F1 γ M w2 F1 (cU γ d O) (ax M [(r,Ob.gone),(d,.arr c.e c.T (c.f l x).1),(id,.box c.bt [.own d])]):=
   ⟨λ_ h=>h,hFk,hR,λk m=>y k (by omega) (λe=>by omega) (λe=>by have:=(R k e).1;omega),p1,p2,p3,p4,λk m=>ucb (s1.bd k m) p4,λ_ h=>.inl h⟩
  have m2:MemOK P E.B w2 F1 (cU γ d O) (ax M [(r,Ob.gone),(d,.arr c.e c.T (c.f l x).1),(id,.box c.bt [.own d])]):=by
   refine m1.re (λi=>i=id\/i=d\/i=r) (λi hi=>?_) (λi hi=>eC _ _ (λe=>hi (.inr (.inl e)))) hFk hR (λk m hno=>y k m (λe=>hno id _ (.inl rfl) p ⟨_,k1,e.symm⟩) (λe=>hno r _ (.inr (.inr rfl)) S (.inl e))) ?_ ?_ ?_;rw[N,ufw (λe=>hi (.inl e)),ufw (λe=>hi (.inr (.inl e))),ufw (λe=>hi (.inr (.inr e)))];intro i o hs H;rcases K i o hs H with ⟨rfl,rfl⟩|⟨rfl,rfl⟩|rfl
   rw[eC _ _ q.symm];refine⟨b0,#[O],k1,p6,k3,k4,rfl,⟨O,rfl,p11,?_⟩,uT⟩;simp only[bc];unfold ap;rw[N,ufw q,ufv rfl,fy];rw[fy];exact .inl ⟨h.lt,rows2,rD p7 hB2,hF2,p9.flat h.flat,p10⟩;trivial;intro i o k hs H m;rcases K i o hs H with ⟨rfl,rfl⟩|⟨rfl,rfl⟩|rfl
   rw[eC _ _ q.symm]at m;exact .inl ⟨i,_,.inl rfl,p,m⟩;rw[fy]at m;exact(p8 k ((lE h.lt hnm).1 m)).1.imp (λh=>⟨r,_,.inr (.inr rfl),S,.inl h⟩) (λh=>h);exact m.elim;have key:∀ k,bK w2 (.arr c.e c.T (c.f l x).1) O k->¬ bK w2 (.box c.bt [.own d]) (γ id) k:=λk m ⟨ad,q1,q2⟩=>by
    rw[k1]at q1;cases q1;exact(p8 k ((lE h.lt hnm).1 m)).2 q2.symm
   intro i j oi oj k hs hs' hij hoi hoj L A;rcases K i oi hs hoi with ⟨rfl,rfl⟩|⟨rfl,rfl⟩|rfl
   rw[eC _ _ q.symm]at L;rcases K j oj hs' hoj with ⟨rfl,rfl⟩|⟨rfl,rfl⟩|rfl
   exact hij rfl;rw[fy]at A;exact key k A L;exact A;rw[fy]at L;rcases K j oj hs' hoj with ⟨rfl,rfl⟩|⟨rfl,rfl⟩|rfl
   rw[eC _ _ q.symm]at A;exact key k L A;exact hij rfl;exact A;exact L
  have s3:=s1.trans s2;have hinv:InvG P E ⟨s.n,s.sl,ax M [(r,Ob.gone),(d,.arr c.e c.T (c.f l x).1),(id,.box c.bt [.own d])],s.gs⟩ a w2 [] F1 (cU γ d O):=by
   refine⟨hi.n,hi.df,?_,m2,λt=>(hi.sl t).mono s3.hF s3.hw s3.hR,hi.hg,λt=>s3.repA (hi.gh t)⟩;obtain⟨γ0,h0⟩:=hi.step;exact⟨γ0,h0.trans s3⟩
  exact⟨.val (jg c.rs (c.f l x).2),_,F1,_,hqv,hinv,u2,rfl,tN (p12.flat h.flats)⟩
def sk(n:Nat)(pt bt e:TypeId)(T:Ty)(l:List T.den)(args:List AV):St:=
 ⟨n,λi=>(AV.c (.ifp pt (9999))::args).getD i .dead,λi=>if i=9999 then U (.box bt [.own (ba 0)])else if i=ba 0 then U (.arr e T l)else V,λi=>if i=0 then .c (.ptr (9999) 0)else .dead⟩
def qQ(P:Program)(d:List ResultVar)(bt e:TypeId)(T:Ty)(rs:List Ty)(s:St):Option (Fr (List T.den×aa rs)):=
 match s.gs 0 with
 |.c (.ptr i 0)=>match s.mem i with
  |some (.box a [.own k])=>match s.mem k with
   |some (.arr b t l)=>if h:t=T then if b=e/\a=bt then match gv P s d with
     |some (vs,n)=>match g9 rs vs with
      |some y=>U (Fr.needL n (.val (cA h l,y)))
      |none=>V
     |none=>V
    else V else V
   |_=>V
  |_=>V
 |_=>V
def iJ(P:Program)(a:List ResultVar)(bt e:TypeId)(T:Ty)(rs:List Ty):Tr->Option (Fr (List T.den×aa rs))
 |.leaf .ret s=>qQ P a bt e T rs s
 |.leaf .normal s=>qQ P a bt e T rs s
 |.leaf _ _=>V
 |.br b x y=>match iJ P a bt e T rs x,iJ P a bt e T rs y with
  |some c,U d=>U (.br b c d)
  |_,_=>V
 |.need p x=>match iJ P a bt e T rs x with
  |some c=>U (.need p c)
  |none=>V
 |.two p x y=>match iJ P a bt e T rs x,iJ P a bt e T rs y with
  |some c,U d=>U (.need (p->c.ok/\c.get=d.get) d)
  |_,_=>V
def tY{g:List ResultVar}{bt:TypeId}{T:Ty}{rs:List Ty}:{t:Tr} -> {f:Fr (List T.den×aa rs)}->iJ P g bt e T rs t=U f->f.ok->t.sat λx s=>(x=.ret\/x=.normal)/\∃ n,qQ P g bt e T rs s=U (Fr.needL n (.val f.get))/\av n
 |.leaf x s,f,h,a=>by
  have key:qQ P g bt e T rs s=U f->∃ n,qQ P g bt e T rs s=U (Fr.needL n (.val f.get))/\av n:=λh=>by
   have m:=h;unfold qQ at h;split at h<;>try trivial
   split at h<;>try trivial
   split at h<;>try trivial
   split at h<;>try trivial
   split at h<;>try trivial
   split at h<;>try trivial
   split at h<;>try trivial
   cases h;refine⟨_,?_,(uM _ a).1⟩;rw[uK];exact m
  cases x with
  |exit i=>simp[iJ]at h
  |panic i=>simp[iJ]at h
  |val i=>simp[iJ]at h
  |jump i=>simp[iJ]at h
  |normal=>exact⟨.inr rfl,key h⟩
  |ret=>exact⟨.inl rfl,key h⟩
 |.br b x y,f,h,a=>by
  simp only[iJ]at h;split at h<;>try trivial
  rename_i l q d j;cases h;refine⟨λc=>?_,λc=>?_⟩;have:=tY d (a.1 c);simpa only[Fr.get,c,if_true]using this;have:=tY j (a.2 c);simpa only[Fr.get,c,ub3,ufs]using this
 |.need p x,f,h,a=>by
  simp only[iJ]at h;split at h<;>try trivial
  rename_i l d;cases h;have:=tY d a.2;exact⟨a.1,this⟩
 |.two p x y,f,h,a=>by
  simp only[iJ]at h;split at h<;>try trivial
  rename_i l q d j;cases h;have o:=tY j a.2;refine⟨λk=>?_,o⟩;have:=tY d (a.1 k).1
  rwa [(a.1 k).2]at this
def KD(P:Program)(C:Cx)(Λ:Nat->St->Option Tr)(fn:Func)(pt bt e:TypeId)(T:Ty)(ps:List PT)(rs:List Ty)(l:List T.den)(xs:ag ps):Option (Fr (List T.den×aa rs)):=
 match fn.body with
 |some c=>if (fn.name == "runtime.NumGoroutine")=Y/\ps.length+1<=fn.ntmps then match cr P C 0 Λ c 0 (sk fn.ntmps pt bt e T l (eI ps xs))with
   |some t=>iJ P fn.results.toList bt e T rs t
   |none=>V
  else V
 |none=>V
def Ci{C:Cx}(hC:CxOK P C){Λ:Nat->St->Option Tr}{fn:Func}{pt bt:TypeId}{T:Ty}{ps:List PT}{rs:List Ty}{fr:List T.den->ag ps->Fr (List T.den×aa rs)}(x0:ag ps)(hf:P.funcs[f]?= U fn)(hΛ:∀ c E,fn.body=U c->bP P E Λ c 0)(O:∀ l xs,KD P C Λ fn pt bt e T ps rs l xs=U (fr l xs))(hT:T.flat=true:=by rfl)(hTs:rs.all Ty.flat=true:=by rfl)(m:e<cj:=by decide):
  SoundHt P f ⟨pt,bt,e,T,ps,rs,λl xs=>(fr l xs).get,λl xs=>[(fr l xs).ok]⟩:=by
 have h0:=O [] x0;unfold KD at h0;split at h0<;>try trivial
 rename_i c hb;split at h0<;>try trivial
 rename_i hc;refine⟨m,hT,hTs,enters hf hb hc.1,λw F l xs b s vs rows hbd M hbF G hnF hrows Q hr hok=>ufd hf hb ?_⟩;have K:=O l xs;unfold KD at K;simp only[hb,hc,ufr,if_true]at K;split at K<;>try trivial
 rename_i t ht;have hlen:vs.length=ps.length:=rV hr;have hone:=kT G;have hblt:b<w.heap.size:=(uaf.1 M).1;have hFb:∀ k,F k->(k<w.heap.size/\k≠b/\s.ownBlock≠U k):=λk z=>⟨hbd k z,λh=>hbF (h ▸ z),λh=>(hnF k h).1 z⟩;have hps:cJ P w (λk=>k<w.heap.size/\k≠b/\s.ownBlock≠U k) ps xs vs:=cJ.mono hFb (λ_ _=>rfl) hr;have r:∀ R:Nat->Value->Prop,R (9999) (.pointer (U ⟨b,0,V⟩))->bj P w (λk=>k<w.heap.size/\k≠b/\s.ownBlock≠U k) R (AV.c (.ifp pt (9999))::eI ps xs) (.iface pt (.pointer (U ⟨b,0,V⟩))::vs):=λR hR=>⟨⟨rfl,b,hR,rfl⟩,mO hps⟩;have x:9999≠ba 0:=by unfold ba;omega
 have L:I P ⟨w,λk=>k<w.heap.size/\k≠b/\s.ownBlock≠U k,λ_=>.pointer (U ⟨b,0,V⟩),[],0,uff _⟩ (sk fn.ntmps pt bt e T l (eI ps xs)) { tmps:=(Value.iface pt (.pointer (U ⟨b,0,V⟩))::vs).toArray++Array.replicate (fn.ntmps-(Value.iface pt (.pointer (U ⟨b,0,V⟩))::vs).length) undef,defers:=[] } w:=by
  have hm1:(sk fn.ntmps pt bt e T l (eI ps xs)).mem (9999)=U (.box bt [.own (ba 0)]):=by
   simp only[sk,if_true]
  have hm0:(sk fn.ntmps pt bt e T l (eI ps xs)).mem (ba 0)=U (.arr e T l):=by
   simp only[sk,if_true,ufw x.symm]
  have H:∀ i o,(sk fn.ntmps pt bt e T l (eI ps xs)).mem i=U o->(i=9999/\o=.box bt [.own (ba 0)])\/(i=ba 0/\o=.arr e T l):=λi o ho=>by
   have D:(if i=9999 then U (Ob.box bt [.own (ba 0)])else if i=ba 0 then U (.arr e T l)else V)=U o:=ho;split at D;rename_i q;cases D;exact .inl ⟨q,rfl⟩;split at D;rename_i q;cases D;exact .inr ⟨q,rfl⟩;cases D
  have hnm:=nq G;refine⟨_,λi=>if i=9999 then .pointer (U ⟨b,0,V⟩)else s,?_,rfl,⟨λ_=>undef,⟨λ_ h=>h,λ_ _=>rfl,λ_ _ h=>h.elim,λk z=>absurd z (Nat.not_lt_zero k),rfl,rfl,rfl,ue9 _,λk z=>z.1,λk z=>.inl z⟩⟩,⟨λid o ho=>?_,λi j oi oj k hij hi hj A hkj=>?_⟩,λt=>?_,λt g want v ht=>?_,λt=>?_⟩;show _=fn.ntmps;simp only[ucp,ucq,Array.size_replicate,uc9];omega;rcases H id o ho with ⟨rfl,rfl⟩|⟨rfl,rfl⟩
  refine⟨b,#[s],ufv rfl,M,λh=>h.2.1 rfl,uff _,rfl,⟨s,rfl,hone,?_⟩,uT⟩;simp only[bc];unfold ap;rw[hm0];exact(ufw x.symm).symm;refine .inl ⟨m,rows,?_,λg S h=>?_,hrows.flat hT,Q⟩;show w.ownsRow 0 e T.size (if ba 0=9999 then _ else s) _ _;rw[ufw x.symm];exact G;have hg':(if ba 0=9999 then Value.pointer (U ⟨b,0,V⟩)else s).ownBlock=U g:=S;rw[ufw x.symm]at hg';exact h.2.2 hg';have key:bK w (.box bt [.own (ba 0)]) (if 9999=9999 then .pointer (U ⟨b,0,V⟩)else s) k->¬ bK w (.arr e T l) (if ba 0=9999 then .pointer (U ⟨b,0,V⟩)else s) k:=by
   rw[ufv rfl,ufw x.symm];rintro⟨a,q,h2⟩ h3;cases q;exact(hnF k ((lE m hnm).1 h3)).2 h2.symm
  rcases H i oi hi with ⟨rfl,rfl⟩|⟨rfl,rfl⟩
  rcases H j oj hj with ⟨rfl,rfl⟩|⟨rfl,rfl⟩
  exact hij rfl;exact key A hkj;rcases H j oj hj with ⟨rfl,rfl⟩|⟨rfl,rfl⟩
  exact key hkj A;exact hij rfl;have S:((Value.iface pt (.pointer (U ⟨b,0,V⟩))::vs).toArray++Array.replicate (fn.ntmps-(Value.iface pt (.pointer (U ⟨b,0,V⟩))::vs).length) undef).getD t undef=(Value.iface pt (.pointer (U ⟨b,0,V⟩))::vs).getD t undef:=by
   simp only[uac,uah];rcases uep t (Value.iface pt (.pointer (U ⟨b,0,V⟩))::vs).length with m|hge
   rw[uai (by simpa using m)];simp;rw[uad (by simpa using hge),ua4 hge];simp only[uas];split<;>rfl
  show dP P w _ _ _ ((AV.c (.ifp pt (9999))::eI ps xs).getD t .dead) (((Value.iface pt (.pointer (U ⟨b,0,V⟩))::vs).toArray++Array.replicate (fn.ntmps-(Value.iface pt (.pointer (U ⟨b,0,V⟩))::vs).length) undef).getD t undef);rw[S];refine vG (ny (r _ ?_) t);unfold ap;rw[hm1];exact(ufv rfl).symm;exfalso;have:=ny (r (λ_ _=>True) trivial) t;have ht':(AV.c (.ifp pt (9999))::eI ps xs).getD t .dead=.maybe g want v:=ht;rw[ht']at this;exact this;show aE P w _ _ (if t=0 then .c (.ptr (9999) 0)else .dead) _;split;refine⟨rfl,b,?_,rfl⟩;unfold ap;rw[hm1];exact(ufv rfl).symm;trivial
 have hwp:=fR hC c 0 (hΛ c _ hb) ht (tY K hok) L;have hsz:((Value.iface pt (.pointer (U ⟨b,0,V⟩))::vs).toArray).size=(Value.iface pt (.pointer (U ⟨b,0,V⟩))::vs).length:=by simp
 rw[hsz];refine wp_mono hwp ?_;rintro ex a' w' ⟨xe,st,rfl,⟨F',γ',hi⟩,hxe,n,d,hnn⟩;have N:a'.defers=[]/\∃ u,(results fn a'.tmps).run P w'=.ok u w'/\Nv w ⟨pt,bt,e,T,ps,rs,λl xs=>(fr l xs).get,λl xs=>[(fr l xs).ok]⟩ b s (fr l xs).get (.returned u) w':=by
  unfold qQ at d;split at d<;>try trivial
  rename_i i hgs;split at d<;>try trivial
  rename_i bt' k p;split at d<;>try trivial
  rename_i e' t' l' B;split at d<;>try trivial
  rename_i hty;split at d<;>try trivial
  rename_i hee;split at d<;>try trivial
  rename_i vs' n' hres;split at d<;>try trivial
  rename_i y hdec;injection d with d
  obtain⟨hn',hy⟩:=uL d hnn;subst hty;obtain⟨rfl,rfl⟩:=hee;obtain⟨us,hran,hreps⟩:=nz hi hres hn';obtain⟨γ0,q⟩:=hi.step;obtain⟨b2,arr,g1,g2,g3,g4,g5,g6⟩:=hi.mem.ob i _ p;have hb2:b2=b:=by
   have h2:=hi.gh 0;rw[hgs]at h2;obtain⟨_,b3,h3,h4⟩:=h2;have h5:Value.pointer (U ⟨b3,0,V⟩)=γ' i:=by simpa[ap,p]using h3
   have h4':Value.pointer (U ⟨b,0,V⟩)=.pointer (U ⟨b3,0,V⟩):=h4;cases h4';rw[g1]at h5;cases h5;rfl
  subst hb2;obtain⟨⟨sv,z1,z2,z3⟩,_⟩:=g6;have hsv:sv=γ' k:=ez B (by simp) z3;subst hsv;have du:arr = #[γ' k]:=by
   refine uci λj=>?_;cases j with
   |zero=>simpa using z1
   |succ j=>
    have:arr.size=1:=g5;rw[ua1 (by omega),ua1 (by simp)]
  subst du;obtain⟨rows2,q1,q2,q3,q4⟩:=gg.of (hi.mem.ob k _ B) m;have A:k≠i:=by rintro rfl;rw[B]at p;cases p
  refine⟨hi.df,_,pz hran,_,γ' k,rows2,rfl,q.os,q.tape,q.output,q.size,λk z hne hno=>q.hw k ⟨z,hne,hno⟩,g2,?_,λg S=>⟨?_,λhe=>hi.mem.apart k i _ _ g A B p (.inl S) ⟨_,g1,he.symm⟩⟩,?_,q4,z2,?_⟩;rw[<- hy];exact rD q1 (λ_ _=>uff _);rcases uep g w.heap.size with W|W
  by_cases hso:s.ownBlock=U g;exact .inl hso;exfalso;by_cases hgb:g=b2;exact hi.mem.apart k i _ _ g A B p (.inl S) ⟨_,g1,hgb.symm⟩;exact q2 g S (q.hF g ⟨W,hgb,hso⟩);exact .inr W;rw[<- hy];exact q3.flat hT;rw[<- hy];exact(vH (lC hdec hreps)).flat hTs
 rcases hxe with rfl|rfl
 exact N;exact N
def Bf{a:Ht}(h:SoundHt P f a)(g:List a.T.den->ag a.ps->List a.T.den×aa a.rs)(ok:List a.T.den->ag a.ps->List Prop)(q:∀ w F l xs vs,cJ P w F a.ps xs vs->l.length<=maxLen->(∀ x∈l,Wf a.T x)->av (ok l xs)->av (a.ok l xs)/\a.f l xs=g l xs):SoundHt P f ⟨a.pt,a.bt,a.e,a.T,a.ps,a.rs,g,ok⟩:=by
 refine⟨h.lt,h.flat,h.flats,h.enters,λw F l xs b s vs d o t r k p j u c i=>?_⟩;obtain⟨m,n⟩:=q w F l xs vs c (TP k) (UH j) i;have:=h.calls w F l xs b s vs d o t r k p j u c m;rw[n]at this;exact this
end
end Go.Ab
