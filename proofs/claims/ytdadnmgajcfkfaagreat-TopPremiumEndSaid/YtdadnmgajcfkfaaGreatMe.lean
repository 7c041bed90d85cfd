/-
  Parts of the proof, one behind the other.
-/
import Derived.Test.YtdadnmgajcfkfaaGreatMd
import Derived.RangeFuncNested
import Derived.Lib.Overlaps
import Derived.Lib.AppendZerosOnto
import Derived.Laws.NewBlocks
import Derived.LoopN
import Derived.OrdersIn
import Derived.TacticsIn
import Derived.Test.YtdadnmgajcfkfaaGreatProg
import Derived.WalkKit
import Derived.IntWalk
set_option linter.all false
set_option maxRecDepth 100000
set_option maxHeartbeats 4000000
noncomputable section
open Option renaming some->U,none->V
open Bool renaming true->Z,false->Y
open Decidable renaming decide->J
open List renaming replicate->Lrp
open BitVec renaming ofInt->Bvo
open Go Go.RowKit
variable {T α σ ρ β:Type} {P:Program} {ad:Addr} {arr cs cur:Array Value} {f:FuncId} {x a y day:Int} {k:IntKind} {l:List Int} {xs vs news:List Value} {off i n b c d B m len:Nat} {F F' K:Nat->Prop} {R g R':Nat->Value->Prop} {o:Oper} {p:Prop} {e ety t ty el:TypeId} {v u vx:Value} {w w' W' W:World}
namespace Go.Ab
open Go Go.RowKit
def zgv(a:Pc):Ct:=⟨a.ps,a.rs,a.f,λx=>(a.bad x=Y)::a.ok x⟩
def gP(C:Cx)(f:FuncId):Option Ct:=match C.Γ f with
 |some a=>U a
 |none=>(C.Pi f).map zgv
structure Pan where
 bad:Bool
 pv:PV
 good:List Prop
def mn(C:Cx)(o:Oper)(e:Nat->AV):Option Pan:=
 match o.guard,o.op,o.op.operands.toList.map (jq e)with
 |none,.call ⟨.value _,_,_⟩,.c (.fn f b)::a=>match C.Pi f with
  |some d=>match fe (λ_=>V) (a++b.map .c)with
   |some (g,[])=>match lm C.Γ d.ps g with
    |some (x,n)=>U ⟨d.bad x,d.pv x,n++d.ok x⟩
    |none=>V
   |_=>V
  |none=>V
 |_,_,_=>V
def nr(P:Program)(C:Cx)(b:Nat)(a:List Oper):List Oper->St->Option (List (Ef×Option Pan)×St)
 |[],s=>U ([],s)
 |o::r,s=>match fF P (gP C) b a o s.sl s.mem with
  |some e=>match nr P C b a r (e.go s)with
   |some (c,d)=>U ((e,mn C o s.sl)::c,d)
   |none=>V
  |none=>V
def MX(pv:PV):Ef×Option Pan->List Prop
 |(e,V)=>e.need
 |(e,U p)=>[p.bad=Y->az e.need,p.bad=Z->az p.good/\p.pv=pv]
def PN(d:St)(all:List (Ef×Option Pan))(a:Tr):List Pan->Tr
 |[]=>a
 |p::r=>.br p.bad (needL (all.flatMap (MX p.pv)) (.leaf (.panic p.pv) d)) (PN d all a r)
def I5(c:List Oper)(b:List (Ef×Option Pan)):Bool:=
 let d:=iK [] c
 (List.range b.length).all λk=>match b[k]?,d[k]? with
  |some (f,_),U a=>f.wr.isEmpty || (List.range b.length).all λi=>match b[i]? with
   |some (_,U _)=>a.testBit i
   |_=>Z
  |_,_=>Y
def xo(c:List Oper)(b:List (Ef×Option Pan)):List Tmp:=
 let d:=iK [] c
 (List.range b.length).filterMap λk=>match b[k]?,d[k]? with
  |some (f,_),U a=>if (List.range b.length).all (λi=>match b[i]? with
   |some (_,U _)=>a.testBit i
   |_=>Z)then V else f.dst
  |_,_=>V
def Cb(D:List Tmp)(a:Nat->AV)(t:Tmp):AV:=if D.contains t then .dead else kx a t
def OG(P:Program)(C:Cx)(b:Nat)(a:List Oper)(s:St):Option Tr:=
 if ss s.n 0 [] a then match nr P C b a a s with
  |some (c,d)=>if uN a (c.map (·.1))=Z/\I5 a c=Z then
    U (PN ⟨s.n,Cb (xo a c) s.sl,s.mem,s.gs⟩ c (NX (c.map (·.1)) (.leaf .normal (gS d))) (c.filterMap (·.2)))
   else V
  |none=>V
 else V
section
variable {P:Program} {w w':World} {E:Env} {F F':Nat->Prop} {b:Nat} {γ γ' γ0:Nat->Value} {ops:Array Oper} {es:List (Ef×Option Pan)} {C:Cx}
def qyh(l:CxOK P C):∀ f c,gP C f=U c->ag P f c:=by
 intro f c h;unfold gP at h;split at h;rename_i m d;cases h;exact l.ct.1 f _ d;cases g:C.Pi f with
 |none=>rw[g]at h;cases h
 |some i=>
  rw[g]at h;cases h;obtain⟨n,o⟩:=l.pc f i g;refine⟨n,λw F k s p r a=>?_⟩;obtain⟨b,a⟩:i.bad k=Y/\az (i.ok k):=lk.1 a;refine(o w F k s p r a).mono λe t h=>?_;rcases h with h|h
  exact h.2;rw[b]at h;cases h.1
def zi8{b a:Nat->AV}(h:∀ t∈zN o.op,a t=b t):mn C o a=mn C o b:=by unfold mn;rw[U3 h]
def Zq{b:Nat->AV}(h:o.guard≠V):mn C o b=none:=by unfold mn;split;rename_i a _ _;exact absurd a h;rfl
def qrq{g:Gm}{c:List Oper}{f:Nat->AV}{m:aX}{e:Ef}(a:fF P g b c o f m=U e)(d:o.guard=V):e.rd=zN o.op:=by
 unfold fF at a;rw[d]at a;simp only at a;split at a<;>try trivial
 cases a;rfl
def Zp{n:Gm}{h:List Oper}{e f:Ef}{s:St}(l:fF P n b h o s.sl s.mem=U f)(k:∀ t,e.dst=U t->t ∉ f.rd):mn C o (e.go s).sl=mn C o s.sl:=by
 cases a:o.guard with
 |some g=>rw[Zq (by rw[a];simp),Zq (by rw[a];simp)]
 |none=>
  refine zi8 λt i=>?_;show fX s.sl e.dst e.v t=s.sl t;rw[<- qrq l a]at i;cases m:e.dst with
  |none=>rfl
  |some x=>have c:t≠x:=λd=>k x m (d ▸ i);exact ufx c
def w9(P:Program)(C:Cx)(b:Nat)(a:Array Oper)(c:List (Ef×Option Pan))(d:St):List Nat->St->Prop
 |[],s=>s=d
 |i::r,s=>∃ o e p,a[i]?= U o/\c[i]?= U (e,p)/\fF P (gP C) b a.toList o s.sl s.mem=U e/\mn C o s.sl=p/\w9 P C b a c d r (e.go s)
def qay{n:St}:(l:List Oper)->(k:Nat)->(s:St)->(c:List (Ef×Option Pan))->nr P C b ops.toList l s=U (c,n)->(∀ i o,l[i]?= U o->ops[k+i]?= U o) ->
  (∀ i e,c[i]?= U e->es[k+i]?= U e)->w9 P C b ops es n (List.range' k l.length) s
 |[],k,s,c,h,_,_=>by simp only[nr,ucl,ueh]at h;exact h.2
 |o::r,k,s,c,h,m,g=>by
  simp only[nr]at h;split at h<;>try trivial
  rename_i e a;split at h<;>try trivial
  rename_i d v t;cases h;refine⟨o,e,_,by simpa using m 0 o rfl,by simpa using g 0 _ rfl,a,rfl,?_⟩;refine qay r (k+1) _ d t (λi u f=>?_) (λi p f=>?_);have:=m (i+1) u (by simpa using f)
  rwa [show k+1+i=k+(i+1) by omega]
  have:=g (i+1) p (by simpa using f)
  rwa [show k+1+i=k+(i+1) by omega]
def qau{opl:List Oper}:(l:List Oper)->(s:St)->(fs:List (Ef×Option Pan))->(s':St)->nr P C b opl l s=some (fs,s')->s'.n=s.n
 |[],s,fs,s',h=>by
  simp only[nr,ucl,ueh]at h;rw[h.2]
 |o::r,s,fs,s',h=>by
  simp only[nr]at h;split at h<;>try trivial
  split at h<;>try trivial
  rename_i es' s2 hr;cases h;exact(qau r _ es' _ hr).trans rfl
def qat{d:List Oper}:(l:List Oper)->(s:St)->(a:List (Ef×Option Pan))->(e:St)->nr P C b d l s=U (a,e)->a.length=l.length
 |[],s,a,e,h=>by simp only[nr,ucl,ueh]at h;rw[<- h.1];rfl
 |o::r,s,a,e,h=>by
  simp only[nr]at h;split at h<;>try trivial
  split at h<;>try trivial
  rename_i c g f;cases h;simp[qat r _ c _ f]
def V8{L:St}{j:Nat}:(d:List Nat)->(s:St)->w9 P C b ops es L d s->d.Pairwise (· < ·)->j∈d ->
  (∀ i∈d,i<j->∀ e f,es[i]?= U e->es[j]?= U f->me e.1 f.1=Z) ->
  ∃ o f p,ops[j]?= U o/\es[j]?= U (f,p)/\fF P (gP C) b ops.toList o s.sl s.mem=U f/\mn C o s.sl=p/\w9 P C b ops es L (d.erase j) (f.go s)
 |[],_,_,_,y,_=>by simp at y
 |i::r,s,O,K,y,G=>by
  obtain⟨o,e,p,H,x,c,g,v⟩:=O;by_cases l:i=j;subst l;refine⟨o,e,p,H,x,c,g,?_⟩;rw[ubl];exact v
  ·have u:j∈r:=by
    rcases uej.1 y with h|h
    exact absurd h.symm l;exact h
   have A:=(uca.1 K).1 j u;obtain⟨Q,f,R,B,m,M,D,E⟩:=V8 r (e.go s) v (uca.1 K).2 u (λk N z=>G k (ubj _ N) z);have a:=G i (by simp) A _ _ x m;have w:=Gr a;have n:=Ua a M;refine⟨Q,f,R,B,m,n,(Zp n (λt F=>(w.1 t F).1)).symm.trans D,?_⟩;rw[List.erase_cons_tail (by simpa using l)];refine⟨o,e,p,H,x,Ub a c,(Zp c (λt F=>w.2.1 t F)).trans g,?_⟩;rw[<- VM a];exact E
def zi9(hC:CxOK P C){st:St}{a:Act}{W:List Tmp}{p:Pan}(k:InvG P E st a w W F γ)(h:mn C o st.sl=U p)(S:p.bad=Z)(hn:az p.good)(K:Act->World->Prop)(Q:Exit->Act->World->Prop)(hq:∀ w',I P E (gS st) a w'->Q (.panic [{ v:=p.pv.val,recovered:=Y }]) a w'):o.guard=V/\o.wp P a w K Q:=by
 unfold mn at h;split at h<;>try trivial
 rename_i f0 d ts f s g hg ho hvs;refine⟨hg,?_⟩;split at h<;>try trivial
 rename_i pc hpc;split at h<;>try trivial
 rename_i xs M;split at h<;>try trivial
 rename_i x n H;cases h;obtain⟨hn1,hn2⟩:=lj.1 hn;have G:=rp k.sl o.op.operands.toList;rw[hvs]at G;have L:o.op.operands.toList.map a.eval=a.eval f0::(d.map a.eval).toList:=by simp[ho,Op.operands,Call.operands]
 rw[L]at G;obtain⟨⟨_,hfv⟩,A⟩:=G;obtain⟨R,e1,e2,e3⟩:=hfv;have B:=Tc e2 e3;have N:(∀ g w,(callFunc f g).run P w=.ok (.enter f g) w)->(execOp a.eval o).run P w=.ok (.enter f (d.map a.eval++R)) w:=λD=>by unfold execOp;rw[ho];simp[resolve,e1,Deferred.ofValue,invoke,D]
 have fU:((d.map a.eval).toList++R.toList).toArray=d.map a.eval++R:=by simp
 have u:(g++s.map AV.c).all iL=true:=by
  have:∀ (l:List AV),(∃ xs u',fe (λ_=>V) l=U (xs,u'))->l.all iL=true:=by
   intro l
   induction l with
   |nil=>intros;rfl
   |cons y l ih=>
    rintro⟨xs,u',hx⟩;simp only[fe]at hx;split at hx<;>try trivial
    rename_i h1 h2;simp only[uek,udc];refine⟨?_,ih ⟨_,_,h2⟩⟩;cases y<;>first|rfl|(simp[sj]at h1)
  exact this _ ⟨_,_,M⟩
 have m:bI P w F (av st.mem γ) (g++s.map AV.c) ((d.map a.eval).toList++R.toList):=by refine Hz (vA A ?_) B;rw[udo,udc]at u;exact u.1
 obtain⟨F1,T,m1,_,r1⟩:=ke k.mem (eE k) (dM.of λ_ _ h=>by cases h) M m;have hps:=pI hC.ct H hn1 r1;obtain⟨D,r⟩:=hC.pc f pc hpc;have hc:=r w F1 x _ T.bd hps hn2;unfold Oper.wp;rw[N D];rw[fU]at hc;have hb':pc.bad x=true:=S;refine hc.mono λe w2 hp=>?_;rcases hp with ⟨i,_⟩|⟨i,rfl,z⟩
 rw[hb']at i;cases i;refine hq w2 ⟨F1,γ,?_⟩;obtain⟨s2,m2⟩:=Step.below m1 (qA k) T.bd z (λ_ h=>h) (λb S=>⟨.inl S,ucb (T.bd b S) z.size⟩);have O:=T.trans s2;obtain⟨γ0,h0⟩:=k.step;exact rE ⟨k.n,k.df,⟨γ0,h0.trans O⟩,m2,λt=>(k.sl t).mono O.hF O.hw O.hR,k.hg,λt=>O.repA (k.gh t)⟩
def zam{f:St}{a:Act}{D:List Tmp}{i:St}(h:InvG P E (gS f) a w [] F γ)(m:∀ t,t ∉ D->f.sl t=i.sl t):InvG P E ⟨f.n,Cb D i.sl,f.mem,f.gs⟩ a w [] F γ:=by
 refine⟨h.n,h.df,h.step,h.mem,λt=>?_,λt g c v o=>?_,h.gh⟩;show fw P w F _ _ (if D.contains t then AV.dead else kx i.sl t) _;split;trivial;rename_i k;have d:=λl=>k (by simpa using l);have e:kx i.sl t=kx f.sl t:=by unfold kx;rw[m t d]
 rw[e];exact h.sl t;have b:(if D.contains t then AV.dead else kx i.sl t)=.maybe g c v:=o;split at b;cases b;rename_i k;have d:=λl=>k (by simpa using l);have e:kx i.sl t=kx f.sl t:=by unfold kx;rw[m t d]
 rw[e]at b;exact h.hg t g c v b
def DS(pv:PV)(x:Ef×Option Pan):Prop:=match x.2 with
 |none=>az x.1.need
 |some p=>(p.bad=Y->az x.1.need)/\(p.bad=Z->az p.good/\p.pv=pv)
def qyx{pv:PV}{x:Ef×Option Pan}(h:az (MX pv x)):DS pv x:=by
 obtain⟨e,p⟩:=x;cases p with
 |none=>exact h
 |some p=>exact⟨h.1,h.2⟩
def w8(P:Program)(E:Env)(C:Cx)(b:Nat)(f:Array Oper)(g:List (Ef×Option Pan))(D:List Tmp)(h i:St)(c:List Nat)(a:Act)(w:World):Prop:=
 ∃ d W F l,InvG P E d a w W F l/\(∀ t,t∈W↔∃ k o,f[k]?= U o/\k ∉ c/\o.dst=U t)/\w9 P C b f g i c d/\d.n=i.n/\d.gs=h.gs /\
  (∀ (k:Nat) e p,g[k]?= U (e,U p)->k ∉ c->p.bad=Y)/\((∃ k:Nat,∃ e p,k∈c/\g[k]?= U (e,U p))->d.mem=h.mem/\∀ t,t ∉ D->d.sl t=h.sl t)
def zkk(hC:CxOK P C){D:List Tmp}{G s':St}{c:List Nat}{a:Act}(hi:w8 P E C b ops es D G s' c a w){j:Nat}(hj:j∈c)(hp:c.Pairwise (· < ·))(A:∀ i∈c,i<j->∀ e f,es[i]?= U e->es[j]?= U f->me e.1 f.1=Z)(B:∀ o j' u,ops[j]?= U o->o.guard=U (j',u)->j' ∉ c)(hst:StatOK s'.n ops){pv:PV}(O:∀ (i:Nat) x,es[i]?= U x->DS pv x)(hwr:∀ f p,es[j]?= U (f,p)->(f.wr ≠ [] \/ ∃ t,f.dst=U t/\t ∉ D)->∀ (k:Nat) e q,es[k]?= U (e,U q)->k ∉ c)(hn0:G.n=s'.n)(K:Act->World->Prop)(Q:Exit->Act->World->Prop)(hK:∀ M w',w8 P E C b ops es D G s' (c.erase j) M w'->K M w')(hQ:(∃ k:Nat,∃ e p,es[k]?= U (e,U p)/\p.bad=Z)->∀ M w',I P E ⟨G.n,Cb D G.sl,G.mem,G.gs⟩ M w'->Q (.panic [{ v:=pv.val,recovered:=Y }]) M w'):wpOp P ops Q j K a w:=by
 obtain⟨st,W,F,γ,H,hW,hruns,hn,hgs,N,L⟩:=hi;obtain⟨o,f,p,ho,hf,heff,hpan,hr⟩:=V8 c st hruns hp hj A;have hnd:=Cl hp;have d:∀ k,k ∉ c.erase j↔k=j\/k ∉ c:=λk=>by rw[hnd.mem_erase_iff];constructor;intro h;by_cases y:k=j;exact .inl y;exact .inr λh'=>h ⟨y,h'⟩;rintro(h|h) ⟨z,h2⟩;exact z h;exact h h2
 unfold wpOp;rw[ho];simp only;have hg:=O j _ hf;by_cases m:∃ q,p=U q/\q.bad=Z;obtain⟨q,rfl,hq⟩:=m;obtain⟨hgq,hpv⟩:=hg.2 hq;have s:=L ⟨j,f,q,hj,hf⟩;have l:=zi9 hC (K:=K) (Q:=Q) H hpan hq hgq (λw' S=>by rw[hpv];refine hQ ⟨j,f,q,hf,hq⟩ a w' ?_;obtain⟨F1,γ1,S⟩:=S;rw[hn0,<- hn,<- s.1,<- hgs];exact⟨F1,γ1,zam S s.2⟩)
 have hw:Region.wanted o (yielded ops a.tmps)=true:=by simp[Region.wanted,l.1]
 rw[ufw hw];exact .inl l.2;have hneed:az f.need:=by
  cases p with
  |none=>exact hg
  |some q=>
   refine hg.1 ?_;cases hq:q.bad with
   |false=>rfl
   |true=>exact absurd ⟨q,rfl,hq⟩ m
 have l:=Om (Γ:=⟨gP C,λ_=>V⟩) ⟨qyh hC,λ_ _ h=>(nomatch h)⟩ H heff hneed (λx hx=>⟨by rw[hn];exact hst.lt j o x ho hx,λhxW=>by
   obtain⟨k,ok,hok,y,hd⟩:=(hW x).1 hxW;have:=hst.once j k o ok x ho hok hx hd;subst this;exact y hj⟩)
  (λj' u g hg hd=>by
   have z:=B o j' u ho hg;cases ho':ops[j']? with
   |none=>rw[ho']at hd;cases hd
   |some o'=>rw[ho']at hd;exact(hW g).2 ⟨j',o',ho',z,hd⟩)
  K Q (λM w' F' γ' R=>hK M w' ⟨f.go st,_,F',γ',R,λt=>?_,hr,hn,hgs,λk e q y r=>?_,λhex=>?_⟩)
 split;rename_i hw;rw[ufw hw]at l;exact .inl l;rename_i hw;rw[ufx hw]at l;exact l;rw[udt,hW];constructor;rintro(h|⟨k,ok,z,h2,h3⟩);exact⟨j,o,ho,(d j).2 (.inl rfl),by simpa using h⟩;exact⟨k,ok,z,(d k).2 (.inr h2),h3⟩;rintro⟨k,ok,z,h2,h3⟩;rcases(d k).1 h2 with rfl|h
 rw[ho]at z;cases z;exact .inl (by simp[h3]);exact .inr ⟨k,ok,z,h,h3⟩;rcases(d k).1 r with rfl|h
 rw[hf]at y;cases y;cases hq:q.bad with
 |false=>rfl
 |true=>exact absurd ⟨q,rfl,hq⟩ m
 exact N k e q y h;obtain⟨k,e,q,y,T⟩:=hex;have r:=ua8 y;have s:=L ⟨k,e,q,r,T⟩;refine⟨?_,λt ht=>?_⟩;show aB st.mem f.wr=G.mem;have hnil:f.wr=[]:=by apply Classical.byContradiction;intro hne;exact hwr f p hf (.inl hne) k e q T r
 rw[hnil];exact s.1;show fX st.sl f.dst f.v t=G.sl t;rw[<- s.2 t ht];cases hx:f.dst with
 |none=>rfl
 |some x=>
  have hne:t≠x:=λhtx=>by subst htx;exact hwr f p hf (.inr ⟨t,hx,ht⟩) k e q T r
  exact ufx hne
def zr3(h:I5 ops.toList es=Z){j:Nat}{f:Ef}{p:Option Pan}(l:es[j]?= U (f,p))(g:f.wr ≠ []){k:Nat}{e:Ef}{q:Pan}(m:es[k]?= U (e,U q)):((iK [] ops.toList).getD j 0).testBit k=true:=by
 unfold I5 at h;rw[uc8]at h;have c:=(uak.1 l).1;have d:=(uak.1 m).1;have a:=h j (uea.2 c);rw[l]at a;split at a;rename_i r s n b o;cases b;rw[udu]at a;rcases a with a|a
 exact absurd (by simpa using a) g;rw[uc8]at a;have i:=a k (uea.2 d);rw[m]at i;rw[uah,o];exact i;cases a
def qrm{j:Nat}{f:Ef}{p:Option Pan}{t:Tmp}(g:es[j]?= U (f,p))(i:f.dst=U t)(n:t ∉ xo ops.toList es){b:Nat}(l:(iK [] ops.toList)[j]?= U b){k:Nat}{e:Ef}{q:Pan}(h:es[k]?= U (e,U q)):b.testBit k=true:=by apply Classical.byContradiction;intro m;apply n;have c:=(uak.1 g).1;have d:=(uak.1 h).1;refine ub9.2 ⟨j,uea.2 c,?_⟩;rw[g,l];show(if _ then V else f.dst)=U t;rw[ufx,i];intro a;rw[uc8]at a;have:=a k (uea.2 d);rw[h]at this;exact m this
def ZI(hC:CxOK P C){D:List Tmp}(hD:D=xo ops.toList es){s0 s':St}(O:StatOK s'.n ops)(S:uN ops.toList (es.map (·.1))=Z)(T:I5 ops.toList es=Z){pv:PV}(B:∀ (i:Nat) x,es[i]?= U x->DS pv x)(hn0:s0.n=s'.n)(Q:Exit->Act->World->Prop)(hQ:∀ a w,w8 P E C b ops es D s0 s' [] a w->Q .normal a w)(hQp:(∃ k:Nat,∃ e p,es[k]?= U (e,U p)/\p.bad=Z)->∀ a' w',I P E ⟨s0.n,Cb D s0.sl,s0.mem,s0.gs⟩ a' w'->Q (.panic [{ v:=pv.val,recovered:=Y }]) a' w'):
  (g:Nat)->∀ (u:List Nat) (c:Array Bool) (a:Act) (w:World),u.length<=g->u.Pairwise (· < ·)->c.size=ops.size->(∀ i,i<ops.size->(c.getD i Z=Y↔i∈u))->(∀ i∈u,i<ops.size) ->
   (∀ k,k<ops.size->k ∉ u->∀ i,((iK [] ops.toList).getD k 0).testBit i=Z->i ∉ u)->w8 P E C b ops es D s0 s' u a w->wpAny P .any ops Q g c a w
 |g,[],c,a,w,_,_,hsz,hl,_,_,hi=>by
  have y:Region.ready .any ops c=[]:=by apply List.eq_nil_iff_forall_not_mem.2;intro i d;obtain⟨W,o,ho,_⟩:=ufq.1 d;have L:=(uaf.1 ho).1;simpa using (hl i L).1 W
  cases g with
  |zero=>exact⟨y,hQ a w hi⟩
  |succ g=>exact⟨λ_=>hQ a w hi,λi d=>by rw[y]at d;simp at d⟩
 |0,i::r,_,_,_,R,_,_,_,_,_,_=>by simp at R
 |g+1,i::r,c,a,w,R,hp,hsz,hl,L,H,hi=>by
  have z:i∈Region.ready .any ops c:=by
   have hio:=L i (by simp);refine ufq.2 ⟨(hl i hio).2 (by simp),ops[i],by simp,λe he A=>?_⟩;have hback:=O.back i ops[i] (by simp) e he A;have hnot:e.on ∉ i::r:=λhh=>by
    rcases uej.1 hh with h|h
    omega;have:=(uca.1 hp).1 _ h;omega
   have W:=λh=>hnot ((hl e.on (by omega)).1 h);have hsz':e.on<c.size:=by omega
   simp only[uac,uam hsz']at W |-;simpa using W
  refine⟨λy=>by rw[y]at z;simp at z,λj hj=>?_⟩;obtain⟨hj1,o,ho,F⟩:=ufq.1 hj;have hjlt:=(uaf.1 ho).1;have G:=(hl j hjlt).1 hj1;have s:∀ b,c.getD b Y=Z->b<ops.size/\b ∉ i::r:=λb A=>by
   have hbs:b<c.size:=by
    rcases ueq b c.size with h|h
    exact h;simp[ua1 h]at A
   refine⟨by omega,λd=>?_⟩;have:=(hl b (by omega)).2 d;simp only[uac,uam hbs,udd]at A this;rw[A]at this;cases this
  obtain⟨m,M,hm2⟩:=(NO ops.toList []).2 j o (by simpa using ho);simp at M;have N:∀ b,((iK [] ops.toList).getD j 0).testBit b=Z->b ∉ i::r:=λb A=>by
   rw[uah,M]at A;obtain⟨e,he,hb',hor⟩:=hm2 b A;obtain⟨W,h2⟩:=s e.on (F e he hb');rcases hor with rfl|h
   exact h2;exact H e.on W h2 b h
  have hnd:=Cl hp;refine zkk hC hi G hp (λk K l e f he hf=>?_) (λo' j' want ho' hg d=>?_) O B (λf p hf hne k e q K=>?_) hn0 _ Q (λa' w' h'=>?_) hQp;have he':(es.map (·.1))[k]?= U e.1:=by rw[uco,he];rfl
  have hf':(es.map (·.1))[j]?= U f.1:=by rw[uco,hf];rfl
  exact(YP S he' hf' l).resolve_left λh=>N k h K;obtain⟨_,e,he,heq,A⟩:=O.guard j o' j' want ho' hg;rw[ho]at ho';cases ho';have:=(s e.on (F e he A)).2;rw[heq]at this;exact this d;rcases hne with hne|⟨t,hdt,htD⟩
  exact N k (zr3 T hf hne K);refine N k ?_;rw[uah,M];exact qrm hf hdt (hD ▸ htD) M K;refine ZI hC hD O S T B hn0 Q hQ hQp g _ (c.setIfInBounds j Z) a' w' ?_ (Zo hp j) (by simpa using hsz) (λk K=>?_) (λk K=>L k (ua8 K)) (λk K hkr b A=>?_) h';rw[List.length_erase_of_mem G];omega;rw[hnd.mem_erase_iff];by_cases l:j=k;subst l;simp[hsz];simp only[uac,uaa l];rw[<- uac,hl k K];constructor;exact λh=>⟨Ne.symm l,h⟩;exact λh=>h.2;rw[hnd.mem_erase_iff]at hkr |-;rintro⟨W,h2⟩;by_cases l:k=j;subst l;exact N b A h2;exact H k K (λhh=>hkr ⟨l,hh⟩) b A h2
def qc8{d:St}{all:List (Ef×Option Pan)}{a:Tr}{Q:XE->St->Prop}:{ps:List Pan}->(PN d all a ps).sat Q->(∃ p∈ps,p.bad=Z/\az (all.flatMap (MX p.pv))/\Q (.panic p.pv) d)\/((∀ p∈ps,p.bad=Y)/\a.sat Q)
 |[],h=>.inr ⟨λp g=>by simp at g,h⟩
 |p::r,h=>by
  cases e:p.bad with
  |true=>obtain⟨b,c⟩:=lz _ (h.1 e);exact .inl ⟨p,by simp,e,b,c⟩
  |false=>
   rcases qc8 (h.2 e)with ⟨q,b,c⟩|⟨b,c⟩
   exact .inl ⟨q,ubj _ b,c⟩;refine .inr ⟨λq f=>?_,c⟩;rcases uej.1 f with rfl|f
   exact e;exact b q f
def Tv{A:Type}{f:A->List Prop}:{l:List A}->az (l.flatMap f)->∀ x∈l,az (f x)
 |[],_,x,a=>by simp at a
 |y::r,h,x,a=>by
  obtain⟨b,c⟩:=lj.1 h;rcases uej.1 a with rfl|a
  exact b;exact Tv c x a
def zkl(hC:CxOK P C){id:Nat}:nI P E (.region id ops Z) (OG P C b ops.toList):=by
 intro s t h Q hq a w r;unfold OG at h;split at h<;>try trivial
 rename_i M;split at h<;>try trivial
 rename_i f s' m;split at h<;>try trivial
 rename_i B;cases h;have hn:=qau _ _ _ _ m;have hst:StatOK s'.n ops:=by rw[hn];exact HM M
 have L:w9 P C b ops f s' (List.range' 0 ops.size) s:=by have:=qay ops.toList 0 s f m (λi o r=>by simpa using r) (λi e r=>by simpa using r);simpa using this
 have hlen:f.length=ops.size:=by have:=qat _ _ _ _ m;simpa using this
 obtain⟨F,γ,r⟩:=r;have u:∀ d,InvG P E s a d [] F γ->w8 P E C b ops f (xo ops.toList f) s s' (List.range' 0 ops.size) a d:=λd l=>by refine⟨s,[],F,γ,l,λt=>?_,L,hn.symm,rfl,λk e p A c=>?_,λ_=>⟨rfl,λ_ _=>rfl⟩⟩;constructor;intro hh;simp at hh;rintro⟨k,o,A,c,_⟩;exfalso;apply c;rw[ucw];have:=(uaf.1 A).1;omega;exfalso;apply c;rw[ucw];have:=(uak.1 A).1;omega
 have key:∀ pv:PV,(∀ (i:Nat) x,f[i]?= U x->DS pv x)->(∀ y d,w8 P E C b ops f (xo ops.toList f) s s' [] y d->fR P E Q .normal y d) ->
   ((∃ k:Nat,∃ e p,f[k]?= U (e,U p)/\p.bad=Z)->∀ y d,I P E ⟨s.n,Cb (xo ops.toList f) s.sl,s.mem,s.gs⟩ y d->fR P E Q (.panic [{ v:=pv.val,recovered:=Y }]) y d)->(Code.region id ops Z).wp P (fR P E Q) a w:=by
  intro pv hg R T;refine wp_region_any hC.mo ?_;refine ZI hC rfl hst B.1 B.2 hg hn.symm _ R T ops.size (List.range' 0 ops.size) _ a _ (by simp) uaw (by simp) (λi l=>?_) (λi l=>?_) (λk A c=>?_) (u _ (WX r));simp only[ucw,uac,uas,l,if_true,udd,true_iff];omega;rw[ucw]at l;omega;exfalso;apply c;rw[ucw];omega
 rcases qc8 hq with ⟨p,hp,D,O,hQ⟩|⟨hno,H⟩
 refine key p.pv (λi x N=>qyx (Tv O x (ubg N))) ?_ (λ_ y d hiw=>⟨.panic p.pv,_,rfl,hiw,hQ⟩);rintro y d ⟨st,W,F',γ',z,_,_,_,_,G,_⟩;obtain⟨x,N,hxp⟩:=ub9.1 hp;obtain⟨i,r⟩:=ubs N;obtain⟨e,q⟩:=x;subst hxp;have:=G i e p r (by simp);rw[D]at this;cases this;obtain⟨K,hq'⟩:=NY _ H;have g:∀ (k:Nat) e p,f[k]?= U (e,U p)->p.bad=false:=λk e p A=>hno p (ub9.2 ⟨(e,U p),ubg A,rfl⟩);refine key ⟨0,.i64,0⟩ (λi x N=>?_) ?_ ?_;obtain⟨e,p⟩:=x;have S:=K e (ue8.2 ⟨(e,p),ubg N,rfl⟩);cases p with
 |none=>exact S
 |some q=>exact⟨λ_=>S,λD=>by rw[g i e q N]at D;cases D⟩
 rintro y d ⟨st,W,F',γ',z,_,hr,_⟩;have hr':=hr;subst hr';exact⟨.normal,_,rfl,⟨F',γ',rE z⟩,hq'⟩;rintro⟨k,e,p,A,D⟩;rw[g k e p A]at D;cases D
end
def TO:List Oper->Option (FuncId×Tmp)
 |[⟨V,.defer ⟨.value (.func f),a,_⟩,_,_,_,V⟩]=>match a.toList with
  |[.tmp b]=>U (f,b)
  |_=>V
 |_=>V
def Pd(P:Program)(C:Cx)(run:St->Option Tr)(T:TypeId)(k:IntKind)(a:Func)(A:Code)(f:Tmp)(d:List PT)(e:List Ty)(g:ap d):Option (Fr (aa e)):=
 if (a.name == "runtime.NumGoroutine")=Y/\d.length<=a.ntmps then match cQ P C 0 bK A 0 (vL a.ntmps (gk d g))with
  |some (.leaf .normal b)=>match b.sl f with
   |.c (.ptr id 0)=>match run ⟨b.n,b.sl,b.mem,λt=>if t=0 then .c (.ptr id 0)else .dead⟩with
    |some t=>jQ P T k a.results.toList e t
    |none=>V
   |_=>V
  |_=>V
 else V
section
variable {P:Program} {w w':World} {E:Env} {F F':Nat->Prop} {γ γ':Nat->Value}
def qrk{C:Cx}(hC:CxOK P C){run:St->Option Tr}{g:FuncId}{T:TypeId}{fn:Func}{A c:Code}{rid:Nat}{ops:Array Oper}{tp:Tmp}{ps:List PT}{rs:List Ty}{fr:ap ps->Fr (aa rs)}(x0:ap ps)(hf:P.funcs[f]?= some fn)(hb:fn.body=some (.seq A (.seq (.region rid ops false) c)))(hd:TO ops.toList=some (g,tp))(hT:TolOK P g T k)(hR:∀ E,nI P E c run)(hrun:∀ xs,Pd P C run T k fn A tp ps rs xs=some (fr xs)):ag P f ⟨ps,rs,λxs=>(fr xs).get,λxs=>[(fr xs).ok]⟩:=by
 have h0:=hrun x0
 unfold Pd at h0
 split at h0<;>try (cases h0;done)
 rename_i hc
 refine⟨enters hf hb hc.1,λw F xs vs hbd hr hok=>uce hf hb ?_⟩
 have hr':=hrun xs
 unfold Pd at hr'
 simp only[hc,ufs,if_true]at hr'
 split at hr'<;>try (cases hr';done)
 rename_i s1 ht1
 split at hr'<;>try (cases hr';done)
 rename_i id hsl
 split at hr'<;>try (cases hr';done)
 rename_i t ht2
 have hlen:vs.length=ps.length:=v9 hr
 have hstart:=z9 (D:=[]) (n:=fn.ntmps) hbd (λR=>pK hr) (by have:=hc.2;omega)
 have hsz:(vs.toArray).size=vs.length:=by simp
 refine wp_seq (wp_mono (iG hC A 0 (bm A 0) ht1 (Q:=λe s=>e=.normal/\s=s1) ⟨rfl,rfl⟩ hstart) ?_)
 rintro e a1 w1 ⟨xe,s,rfl,⟨F1,γ1,hi⟩,rfl,rfl⟩
 have hv0:=ux hi tp
 rw[hsl]at hv0
 obtain⟨_,b0,hR0,hv0⟩:=hv0
 refine wp_seq (wp_region ?_)
 unfold TO at hd
 split at hd<;>try (cases hd;done)
 rename_i f0 args ats ty pos aft hops
 split at hd<;>try (cases hd;done)
 rename_i tp0 hargs
 simp at hd
 obtain⟨rfl,rfl⟩:=hd
 obtain⟨ol⟩:=ops
 subst hops
 have hargs':args = #[.tmp tp0]:=by
  obtain⟨l⟩:=args
  simp only at hargs
  rw[hargs]
 subst hargs'
 have hev:a1.eval (.tmp tp0)=.pointer (some ⟨b0,0,none⟩):=hv0
 have hexec:(execOp a1.eval ⟨none,.defer ⟨.value (.func f0),#[.tmp tp0],ats⟩,ty,pos,aft,none⟩).run P w1=.ok (.defer { target:=.fn (.func f0) #[],args:=#[.pointer (some ⟨b0,0,none⟩)] }) w1:=by
  have hef:a1.eval (.func f0)=.func (.func f0) #[] #[]:=rfl
  simp[execOp,resolve,hev,hef,Deferred.ofValue]
 have hrange:List.range (#[(⟨none,.defer ⟨.value (.func f0),#[.tmp tp0],ats⟩,ty,pos,aft,none⟩:Oper)]:Array Oper).size=[0]:=rfl
 unfold wpOps
 simp
 have hw:Region.wanted (⟨none,.defer ⟨.value (.func f0),#[.tmp tp0],ats⟩,ty,pos,aft,none⟩:Oper) (yielded #[(⟨none,.defer ⟨.value (.func f0),#[.tmp tp0],ats⟩,ty,pos,aft,none⟩:Oper)] a1.tmps)=true:=rfl
 refine .inl ?_
 unfold Oper.wp
 rw[hexec]
 have hi':InvG P ⟨w,F,λ_=>.pointer (some ⟨b0,0,none⟩),[{ target:=.fn (.func f0) #[],args:=#[.pointer (some ⟨b0,0,none⟩)] }],w.heap.size,ufb _⟩ ⟨s.n,s.sl,s.mem,λt=>if t=0 then .c (.ptr id 0)else .dead⟩ { a1 with defers:={ target:=.fn (.func f0) #[],args:=#[.pointer (some ⟨b0,0,none⟩)] }::a1.defers } w1 [] F1 γ1:=by
  refine⟨hi.n,?_,hi.step,hi.mem,hi.sl,hi.hg,λt=>?_⟩
  ·show _::a1.defers=[_]
   rw[hi.df]
  ·show aK P w1 F1 _ (if t=0 then .c (.ptr id 0)else .dead) _
   split
   ·exact⟨rfl,b0,hR0,rfl⟩
   ·trivial
 have hwp:=hR ⟨w,F,λ_=>.pointer (some ⟨b0,0,none⟩),[{ target:=.fn (.func f0) #[],args:=#[.pointer (some ⟨b0,0,none⟩)] }],w.heap.size,ufb _⟩ _ _ ht2 _ (uc hr' hok) _ _ ⟨F1,γ1,hi'⟩
 refine wp_mono hwp ?_
 rintro e a2 w2 ⟨xe,s2,rfl,⟨F2,γ2,hi2⟩,hx⟩
 have hinv:∀ W,(invoke (.fn (.func f0) #[]) #[.pointer (some ⟨b0,0,none⟩)]).run P W=.ok (.enter f0 #[.pointer (some ⟨b0,0,none⟩)]) W:=λW=>by
  have:=hT.enter #[.pointer (some ⟨b0,0,none⟩)] W
  simp[invoke,this]
 have hfin:(∃ n,eh P fn.results.toList rs s2=some (Fr.needL n (.val (fr xs).get))/\az n)->Leaves P fn a2.tmps (iB w F rs (fr xs).get) a2.defers .returning w2:=by
  rintro⟨n,hend,hn⟩
  rw[hi2.df]
  refine ufg (by simp) (hinv w2) ((hT.idle _ w2).mono ?_)
  rintro e u' w' ⟨⟨v,rfl⟩,rfl,rfl⟩
  exact xu hi2 rfl hend hn
 cases xe with
 |normal=>exact hfin hx
 |ret=>exact hfin hx
 |exit _=>exact hx.elim
 |val _=>exact hx.elim
 |jump _=>exact hx.elim
 |panic p=>
  obtain⟨s',n,hs',hin,hend,hn⟩:=hx
  obtain⟨hty,hk,hlow,b,tyb,old,hG,hheap,hi3⟩:=qc1 hi2 hs' hin
  have hG':=hG
  simp at hG'
  subst hG'
  show Leaves P fn a2.tmps _ a2.defers (.panicking [{ v:=p.val,recovered:=false }]) w2
  rw[qd9 (by rw[hty];exact hlow),hi2.df,hty,hk]
  refine ufg (by simp) (hinv w2) ((hT.told b0 tyb old p.n w2 hheap).mono ?_)
  rintro e u' w' ⟨⟨v,rfl⟩,rfl,rfl⟩
  exact xu hi3 rfl hend hn
end
section
variable {P:Program} {E:Env}
def zr8 {c rest:Code} {t L N h R:LS} {id l:Nat} {A:t.X->Fr (Rd L.X h.X R.X)} {f:L.X->Fr (Rd L.X h.X R.X)} (D:findLabel c l=U rest) (B:iU P l c t ⟨n,id,L,h,R⟩ A) (C:iU P l rest L ⟨n,id,L,h,R⟩ f)
  {u:t.X->Fr (Rd N.X h.X R.X)} {F:L.X->Fr (Rd N.X h.X R.X)} {inv:L.X->Prop} {μ:L.X->Nat}
  (k:∀ x,∀ Q:Rd N.X h.X R.X->Prop,(u x).s7 Q->(A x).s7 λ
   |.next g=>inv g/\(F g).s7 Q
   |.out y=>Q (.out y)
   |.back z=>Q (.back z)
   |.pan p=>Q (.pan p))
  (s:∀ x,inv x->∀ Q:Rd N.X h.X R.X->Prop,(F x).s7 Q->(f x).s7 λ
   |.next g=>inv g/\μ g<μ x/\(F g).s7 Q
   |.out y=>Q (.out y)
   |.back z=>Q (.back z)
   |.pan p=>Q (.pan p)):af P (.scope c) t ⟨n,id,N,h,R⟩ u:=by
 intro E a w x Q G H;refine wp_scope_jumps l (λa w=>∃ m,∃ x,inv x/\μ x=m/\I P E (L.tpl n x) a w/\(F x).s7 Q) (λa w=>yd λm=>∃ x,inv x/\μ x=m/\I P E (L.tpl n x) a w/\(F x).s7 Q) D ?_ ?_
 ·refine wp_mono (B E a w x _ G (k x Q H)) ?_;rintro e T w' ⟨r,d,o⟩;cases r with
  |next g=>obtain⟨rfl,b⟩:=o;exact⟨rfl,⟨μ g,g,d.1,rfl,b,d.2⟩⟩
  |out y=>obtain⟨rfl,b⟩:=o;exact⟨.out y,d,rfl,b⟩
  |back z=>obtain⟨rfl,b⟩:=o;exact⟨.back z,d,rfl,b⟩
  |pan v=>obtain⟨rfl,b⟩:=o;exact⟨.pan v,d,rfl,b⟩
 ·rintro a w ⟨m,o⟩;obtain⟨⟨g,K,M,O,S⟩,_⟩:=ye (p:=λm=>∃ x,inv x/\μ x=m/\I P E (L.tpl n x) a w/\(F x).s7 Q) ⟨m,o⟩;refine wp_mono (C E a w g _ O (s g K Q S)) ?_;rintro e W w1 ⟨r,d,i⟩;cases r with
  |next y=>obtain⟨rfl,b⟩:=i;refine⟨rfl,⟨μ y,y,d.1,rfl,b,d.2.2⟩,?_⟩;rw[<- M];exact ucd ((ye ⟨μ y,y,d.1,rfl,b,d.2.2⟩).2 (μ y) ⟨y,d.1,rfl,b,d.2.2⟩) d.2.1
  |out y=>obtain⟨rfl,b⟩:=i;exact⟨.out y,d,rfl,b⟩
  |back z=>obtain⟨rfl,b⟩:=i;exact⟨.back z,d,rfl,b⟩
  |pan v=>obtain⟨rfl,b⟩:=i;exact⟨.pan v,d,rfl,b⟩
end
structure GrowOK (P:Program) (f:FuncId) (e:TypeId) (T:Ty) (bytes:Nat):Prop where
 enters:∀ args w,(callFunc f args).run P w=.ok (.enter f args) w
 calls:∀ (w:World) (n:Nat),n<=maxLen->n*bytes<=140737488355328->Calls P f #[.slice none 0 0,.int .i64 n] w λen w'=>
  ∃ v,en=.returned v/\w.grownBy w' none/\w'.ownsRow w.heap.size e T.size v 0 []
def Nc(f:FuncId)(e:TypeId)(T:Ty)(bytes:Nat)(d:Nat)(g:FuncId)(a:List AV)(s:St):Option Tr:=
 if g=f/\e<cJ then match a,s.mem d with
  |[.c .nil,.c (.int .i64 n)],V=>U (needL [0<=n/\n<=maxLen/\n*bytes<=140737488355328] (.leaf (.val (.c (.own d))) ⟨s.n,s.sl,upd s.mem d (.arr e T []),s.gs⟩))
  |_,_=>V
 else V
def qM(w:World)(o:Obj)(i:Nat)(h:i<w.heap.size):(w.alloc o).heap[i]?= w.heap[i]? := by
 first
  |exact heap_alloc_old w o h
  |exact heap_alloc_old w o i h
def zi0{a:Nat}{size:Nat}(h:w.ownsRow B e size v n xs)(b:a<=B):w.ownsRow a e size v n xs:=
 uR h λg c=>uep b (h.lt g c).1
def qy4{T:Ty}{bytes:Nat}(h:GrowOK P f e T bytes):jC P (Nc f e T bytes):=by
 intro d g L s t y;unfold Nc at y;split at y<;>try trivial
 rename_i z;obtain⟨rfl,B⟩:=z;split at y<;>try trivial
 rename_i n C;cases y;refine⟨h.enters,λE a w F γ vs Q k hr W=>?_⟩;obtain⟨⟨M,h1,h2⟩,D⟩:=W
 match vs,hr with
 |[v1,v2],⟨⟨_,G⟩,⟨_,H,_⟩,_⟩=>
  have N:=G;have O:=H;subst N;subst O;obtain⟨m,rfl⟩:∃ m:Nat,n=m:=⟨n.toNat,by omega⟩;have R:m*bytes<=140737488355328:=by omega
  refine(h.calls w m (by omega) R).mono λen w2 S=>?_;obtain⟨v,rfl,A,b⟩:=S;have o:=qA k;have r:=zi0 b o;obtain⟨u,m1⟩:=yv (l:=([]:List T.q)) k.mem (eE k) o C A r (λg z=>(b.lt g z).1) (λi x hx=>by simp at hx) B;have p:InvG P E ⟨s.n,s.sl,upd s.mem d (.arr e T []),s.gs⟩ a w2 [] F (dG γ d v):=by refine⟨k.n,k.df,?_,m1,λt=>(k.sl t).mono u.hF u.hw u.hR,k.hg,λt=>u.repA (k.gh t)⟩;obtain⟨K,M⟩:=k.step;exact⟨K,M.trans u⟩
  exact⟨.val (.c (.own d)),_,F,_,D,p,v,rfl,o7 (nj b)⟩
section
variable {F:Fence} {n:Nat} {P:Program} {w:World}
def DZ(F:Fence)(n:Nat)(P:Program)(k:Nat)(m:Array Value)(b:α->Array Value)(E:α->World->World->Prop)(i:World->World->Prop)(S:List α->Prop)(N:Nat)(g:World):Prop:=
 ∀ (l:Nat) (o:List α->World->Prop) (W:World),Below g.heap.size g W->AbidesFrom W.heap.size o ->
  (∀ a x d f,o a d->Below d.heap.size d f->E x d f->a.length<N->YieldAt F (n-1) P l (b x) f λe c=>e=.returned (.bool Z)/\o (a++[x]) c/\i f c) ->
  o [] W->CallsIn F n P k (#[.func (.yield l) #[] #[]]++m) W λe c=>(∃ v,e=.returned v)/\∃ h,S h/\o h c
def zlt(b:Nat)(c:World->World->Prop)(I:List α->World->Prop)(d:List α)(W:World)(e:Exit)(_:Act)(a:World):Prop:=
 e=.normal/\KeepsFrom b W a/\c W a/\I d a
def zr1 {g:Operand} {ps:Array Tmp} {assign body:Code} {Q:Exit->Act->World->Prop} {a:Act}
  (hro:F.round=none) (h1:1<=n) {gf:Nat} {lb:Array Value} (hg:a.eval g=.func (.func gf) #[] lb) (hFg:F.fn gf) (eg:∀ args w,(callFunc gf args).run P w=.ok (.enter gf args) w)
  {encs:α->Array Value} {E:α->World->World->Prop} {Kp:World->World->Prop} {S:List α->Prop} {N:Nat} (hseq:DZ F (n-1) P gf lb encs E Kp S N w)
  (hKt:∀ {A B C:World},Kp A B->Kp B C->Kp A C) (hKb:∀ (W:World) (l:Nat) (o o':Obj),w.heap.size<=l->W.heap[l]?= some o->o.isCells=false->Kp W (W.putObj l o')) (hps:∀ x,(encs x).size=ps.size)
  (I:List α->World->Prop) (hI:OwnFrom w.heap.size I) (h0:I [] w) (A:List α->α->Act->World->Prop) (hA:∀ pre x a',OwnFrom w.heap.size (λ(_:Unit) W=>A pre x a' W))
  (hassign:∀ (l:Nat) (pre:List α) (x:α) (W0 W:World) (K:Act->World->Prop),I pre W0->Below W0.heap.size W0 W->E x W0 W->(∀ a' W',KeepsFrom w.heap.size W W'->Kp W W'->A pre x a' W'->K a' W') ->
   assign.wpIn (F.inRound l) (n-1-1) P (Exit.then K (λ_ _ _=>False)) { tmps:=(ps.zip (encs x)).foldl (λt (p,v)=>t.setIfInBounds p v) a.tmps,defers:=[] } W)
  (hbody:∀ (l:Nat) (pre:List α) (x:α) (a':Act) (W:World),A pre x a' W->pre.length<N->body.wpIn (F.inRound l) (n-1-1) P (zlt w.heap.size Kp I (pre++[x]) W) a' W)
  (hdone:∀ (D:Nat) (xs:List α) (W:World),w.heap.size<=D->S xs->I xs W->W.heap[D]?= some (.deferred (some []))->Q .normal { a with defers:={ target:=.collected D,args:=#[] }::a.defers } W) :
  (Code.rangeFunc g ps assign body).wpIn F n P Q a w:=by
 refine wpIn_rangeFunc λfn hfn=>?_;rw[hro]
 let mk:LoopState->Option Code->Loop:=λst pe=>{ state:=st,pending:=pe,fn,tmps:=a.tmps,params:=ps,assign,body,defers:=w.heap.size }
 let d0:Obj:=.deferred (some [])
 have hsz:(w.alloc d0).heap.size=w.heap.size+1:=by simp
 have hL:((w.alloc d0).alloc (.loop (mk .ready none))).heap[w.heap.size+1]?= some (.loop (mk .ready none)):=by
  have:=World.alloc_heap_new (w.alloc d0) (.loop (mk .ready none))
  rwa [hsz]at this
 have hD:((w.alloc d0).alloc (.loop (mk .ready none))).heap[w.heap.size]?= some d0:=
  (udb _ _ _ (by rw[hsz];omega)).trans (World.alloc_heap_new w _)
 have hbel:Below w.heap.size w ((w.alloc d0).alloc (.loop (mk .ready none))):=((ufk _ w).alloc (ufb _) _).alloc (by rw[hsz];omega) _;generalize hW1:(w.alloc d0).alloc (.loop (mk .ready none))=W1 at hL hD hbel;have hI1:I [] W1:=by rw[<- hW1];exact hI.alloc _ (hI.alloc _ h0)
 have hs1:W1.heap.size=w.heap.size+2:=by rw[<- hW1];simp
 refine⟨w.heap.size+1,[{ target:=.collected w.heap.size,args:=#[] }],W1,{ target:=.fn (.func gf) lb,args:=#[.func (.yield (w.heap.size+1)) #[] #[]] },W1,gf,
  #[.func (.yield (w.heap.size+1)) #[] #[]]++lb,W1,?_,?_,?_,?_,λ_=>h1,?_⟩
 ·rw[<- hW1];exact run_enterLoop_outer _ _ _ _ _
 ·simp only[resolve,hg];simp[go_sem]
 ·intro f' hf';simp[Target.leads]at hf';subst hf';exact hFg
 ·simp[invoke,eg]
 have hwalk:∀ {A:World} {row:Option Nat},(∀ r,row=some r->W1.heap.size<=r/\∃ o:Obj,A.heap[r]?= some o/\o.isWalk=true)->∀ r,row=some r->w.heap.size<=r/\∃ o:Obj,A.heap[r]?= some o/\o.isCells=false:=λhr r e=>by
  obtain⟨hb,o,ho,hw⟩:=hr r e;exact⟨by omega,o,ho,Obj.not_cells_of_walk hw⟩
 refine(hseq (w.heap.size+1) (λpre W=>I pre W/\W.heap[w.heap.size+1]?= some (.loop (mk .ready none))/\W.heap[w.heap.size]?= some d0) W1 hbel ?_ ?_ ⟨hI1,hL,hD⟩).mono ?_
 ·rintro s X Y row ⟨q1,q2,q3⟩ hgr hr;exact⟨hI s X Y row q1 hgr (hwalk hr),(grownBy_keeps hgr (λr e=>(hr r e).2) q2 rfl).trans q2,(grownBy_keeps hgr (λr e=>(hr r e).2) q3 rfl).trans q3⟩
 ·rintro pre x W0 W ⟨hi0,hl0,hd0⟩ hb0 hE hlen;have hl:=(hb0.block _ (uaf.1 hl0).1).trans hl0;have hd:=(hb0.block _ (uaf.1 hd0).1).trans hd0;refine⟨fn,_,assign,body,run_yield hl (hps x),roundIn_of_wpIn hfn (hassign _ pre x W0 W _ hi0 hb0 hE ?_)⟩;intro a' Wa hka hkpa hax;have hla:=hka.same _ _ (by omega) hl rfl;have hda:=hka.same _ _ (ufb _) hd rfl;have hlt:=(uaf.1 hla).1;refine⟨_,run_beginRound hla rfl,?_⟩;have hl2:(Wa.putObj (w.heap.size+1) (.loop { mk .ready none with state:=.busy })).heap[w.heap.size+1]?= some (.loop { mk .ready none with state:=.busy }):=World.putObj_heap_same hlt;have hd2:(Wa.putObj (w.heap.size+1) (.loop { mk .ready none with state:=.busy })).heap[w.heap.size]?= some d0:=(World.putObj_heap_other (by omega)).trans hda;have hk2:Kp Wa (Wa.putObj (w.heap.size+1) (.loop { mk .ready none with state:=.busy })):=hKb _ _ _ _ (by omega) hla rfl;refine wpIn_mono (hbody _ pre x a' _ ((hA pre x a').putObj (s:=()) _ hax (by omega) hla rfl) hlen) ?_;rintro e a3 W3 ⟨rfl,hk3,hkp3,hi3⟩;have hl3:=hk3.same _ _ (by omega) hl2 rfl;have hd3:=hk3.same _ _ (ufb _) hd2 rfl;have hend:=run_endRound (P:=P) none hl3;refine⟨_,_,hend,rfl,⟨hI.putObj _ hi3 (by omega) hl3 rfl,World.putObj_heap_same (uaf.1 hl3).1,(World.putObj_heap_other (by omega)).trans hd3⟩,hKt hkpa (hKt (hKt hk2 hkp3) (hKb _ _ _ _ (by omega) hl3 rfl))⟩
 ·rintro e W2 ⟨⟨v,rfl⟩,xs,hS,hi,hl,hd⟩;exact⟨none,_,run_endLoop hl (by simp),hdone _ xs _ (ufb _) hS (hI.putObj _ hi (by omega) hl rfl) ((World.putObj_heap_other (by omega)).trans hd)⟩
end
def DY(a w:World):Prop:=a.heap=w.heap/\a.os=w.os/\a.tape=w.tape/\a.output=w.output
structure ToldTwo (P:Program) (g:FuncId) (T:TypeId) (k:IntKind) (m:Nat):Prop where
 enter:∀ args w,(callFunc g args).run P w=.ok (.enter g args) w
 idle:∀ (p q:Addr) (w:World),CallsD P g #[.pointer (some p),.pointer (some q)] .returning w λe u' w'=>(∃ v,e=.returned v)/\u'=.returning/\w'=w
 told:∀ (b1 b2:Nat) (t1 t2:TypeId) (o1 o2:Array Value) (n:Int) (w:World),b1≠b2->w.heap[b1]?= some (.cells o1 t1 (0,0))->o1.size=m->w.heap[b2]?= some (.cells o2 t2 (0,0))->o2.size=1 ->
  CallsD P g #[.pointer (some ⟨b1,0,none⟩),.pointer (some ⟨b2,0,none⟩)] (.panicking [{ v:=.iface T (.agg #[.int k n]),recovered:=false }]) w λe u' w'=>
   (∃ v,e=.returned v)/\u'=.panicking [{ v:=.iface T (.agg #[.int k n]),recovered:=true }]/\DY w' ((w.setRow b1 (Array.replicate m (.int .i64 0))).setRow b2 #[.int k n])
def DF(m:Nat):List AC:=Lrp m (.int .i64 0)
def sy(T:TypeId)(k:IntKind)(m:Nat)(p:PV)(s:St):Option St:=
 match s.gs 0,s.gs 1 with
 |.c (.ptr i 0),.c (.ptr j 0)=>match s.mem i,s.mem j with
  |some (.box e a),U (.box b [_])=>if p.ty=T+1000000/\p.k=k/\i≠j/\a.length=m then U ⟨s.n,s.sl,upd (upd s.mem i (.box e (DF m))) j (.box b [.int k p.n]),s.gs⟩else V
  |_,_=>V
 |_,_=>V
def kJ(P:Program)(T:TypeId)(k:IntKind)(m:Nat)(c:List ResultVar)(a:List Ty):Tr->Option (Fr (aa a))
 |.leaf .ret s=>eh P c a s
 |.leaf .normal s=>eh P c a s
 |.leaf (.panic p) s=>match sy T k m p s with
  |some g=>match eh P c a g with
   |some f=>U (.need (inR k p.n) f)
   |none=>V
  |none=>V
 |.leaf _ _=>V
 |.br b x y=>match kJ P T k m c a x,kJ P T k m c a y with
  |some d,U e=>U (.br b d e)
  |_,_=>V
 |.need p x=>match kJ P T k m c a x with
  |some d=>U (.need p d)
  |none=>V
 |.two p x y=>match kJ P T k m c a x,kJ P T k m c a y with
  |some d,U e=>U (.need (p->d.ok/\d.get=e.get) e)
  |_,_=>V
def TP:List Oper->Option (FuncId×Tmp×Tmp×Tmp)
 |[⟨U d,.makeFunc (.func f) first b,_,_,_,V⟩,⟨V,.defer ⟨.value (.tmp c),a,_⟩,_,_,_,V⟩]=>match first.toList,b.toList,a.toList with
  |[],[.tmp e,.tmp g],[]=>if c=d then U (f,d,e,g)else V
  |_,_,_=>V
 |_=>V
def Pb(P:Program)(C:Cx)(run:St->Option Tr)(T:TypeId)(k:IntKind)(m:Nat)(a:Func)(A:Code)(f g h:Tmp)(d:List PT)(e:List Ty)(l:ap d):Option (Fr (aa e)):=
 if (a.name == "runtime.NumGoroutine")=Y/\d.length<=a.ntmps/\f<a.ntmps then match cQ P C 0 bK A 0 (vL a.ntmps (gk d l))with
  |some (.leaf .normal b)=>match b.sl g,b.sl h with
   |.c (.ptr i 0),.c (.ptr j 0)=>if b.n=a.ntmps then match run (gS ⟨b.n,fX b.sl (U f) .dead,b.mem,λt=>if t=0 then .c (.ptr i 0)else if t=1 then .c (.ptr j 0)else .dead⟩)with
    |some t=>kJ P T k m a.results.toList e t
    |none=>V
    else V
   |_,_=>V
  |_=>V
 else V
section
variable {P:Program} {w w':World} {E:Env} {F F':Nat->Prop} {γ γ':Nat->Value}
def xK{T:TypeId}{l:List ResultVar}{g:List Ty}:{t:Tr} -> {f:Fr (aa g)}->kJ P T k m l g t=U f->f.ok->t.sat λe s=>match e with
  |.ret=>∃ n,eh P l g s=U (Fr.needL n (.val f.get))/\az n
  |.normal=>∃ n,eh P l g s=U (Fr.needL n (.val f.get))/\az n
  |.panic p=>∃ o n,sy T k m p s=U o/\inR k p.n/\eh P l g o=U (Fr.needL n (.val f.get))/\az n
  |_=>False
 |.leaf e s,f,h,a=>by
  cases e with
  |exit i=>simp[kJ]at h
  |val i=>simp[kJ]at h
  |jump i=>simp[kJ]at h
  |normal=>exact xr h a
  |ret=>exact xr h a
  |panic p=>
   simp only[kJ]at h;split at h<;>try trivial
   rename_i o v;split at h<;>try trivial
   rename_i D u;cases h;obtain⟨n,B,r⟩:=xr u a.2;exact⟨o,n,v,a.1,B,r⟩
 |.br b x y,f,h,a=>by
  simp only[kJ]at h;split at h<;>try trivial
  rename_i A C d w;cases h;refine⟨λc=>?_,λc=>?_⟩;have:=xK d (a.1 c);simpa only[Fr.get,c,if_true]using this;have:=xK w (a.2 c);simpa only[Fr.get,c,ub3,uft]using this
 |.need p x,f,h,a=>by
  simp only[kJ]at h;split at h<;>try trivial
  rename_i A d;cases h;have:=xK d a.2;exact⟨a.1,this⟩
 |.two p x y,f,h,a=>by
  simp only[kJ]at h;split at h<;>try trivial
  rename_i A C d w;cases h;have r:=xK w a.2;refine⟨λz=>?_,r⟩;have:=xK d (a.1 z).1
  rwa [(a.1 z).2]at this
def zan{s:St}{a:Act}(c:InvG P E s a w [] F γ)(h:DY w' w):InvG P E s a w' [] F γ:=by
 obtain⟨f,k,l,m⟩:=h;have e:∀ b:Nat,w'.heap[b]?= w.heap[b]? := λb=>by rw[f]
 have d:Step E.B w F γ s.mem w' F γ s.mem:=⟨λ_ h=>h,λb _=>e b,λ_ _ h=>h,λb _=>e b,k,l,m,by rw[f];exact ufb _,λb p=>by rw[f];exact eE c b p,λ_ h=>.inl h⟩;refine⟨c.n,c.df,?_,c.mem.keep (λ_ h=>h) (λb _=>e b) (λid o b u r=>⟨e b,(jN (c.mem.ob id o u) r).2.1⟩),λt=>(c.sl t).mono d.hF d.hw d.hR,c.hg,λt=>d.repA (c.gh t)⟩;obtain⟨g,i⟩:=c.step;exact⟨g,i.trans d⟩
def qec:(m:Nat) -> {g:Nat->Value->Prop}->(∀ j,j<m->g j (.int .i64 0))->aS P w F R (DF m) g
 |0,_,_=>trivial
 |m+1,_,h=>⟨⟨.int .i64 0,h 0 (by omega),rfl,rfl,by decide,by decide⟩,qec m λj a=>h (j+1) (by omega)⟩
def ziu{a new:Array Value}(h:a.size=new.size):dg a 0 new.toList=new:=by apply ufp;rw[Cs (by simp;omega)];exact h;intro i c b;simp only[dg,List.take_zero,List.getElem_toArray];rw[List.getElem_append_left (by simpa using b)];simp
def zqg{T:TypeId}{p:PV}{s s':St}{a:Act}(c:InvG P E s a w [] F γ)(h:sy T k m p s=U s')(hr:inR k p.n):
  p.ty=T+1000000/\p.k=k/\∃ f g t1 t2 o1 o2,E.G 0=.pointer (U ⟨f,0,V⟩)/\E.G 1=.pointer (U ⟨g,0,V⟩)/\f≠g/\w.heap[f]?= U (.cells o1 t1 (0,0))/\o1.size=m/\w.heap[g]?= U (.cells o2 t2 (0,0))/\o2.size=1 /\
   InvG P E s' a ((w.setRow f (Array.replicate m (.int .i64 0))).setRow g #[.int k p.n]) [] F γ:=by
 unfold sy at h;split at h<;>try trivial
 rename_i i j hg0 hg1;split at h<;>try trivial
 rename_i e cs N c0 o r;split at h<;>try trivial
 rename_i hp;cases h;obtain⟨hp1,hp2,B,b⟩:=hp;have H:=c.gh 0;rw[hg0]at H;have h1:=c.gh 1;rw[hg1]at h1;obtain⟨f,o1,v,K,x,L,M,l,e17⟩:=nM c.mem o H.2;obtain⟨g,o2,y,O,z,Q,R,S,e27⟩:=nM c.mem r h1.2;have C:f≠g:=by rintro rfl;exact c.mem.apart i j _ _ f B o r ⟨_,v,rfl⟩ ⟨_,y,rfl⟩
 have D:dg o1 0 (Array.replicate m (.int .i64 0):Array Value).toList=Array.replicate m (.int .i64 0):=ziu (by simp[l,b]);obtain⟨s1,s2⟩:=so (off:=0) (cs':=DF m) (vs:=(Array.replicate m (.int .i64 0):Array Value).toList) c.mem (eE c) o v x L M (by simp[l,b]) (by simp[DF,l,b]) (by rw[D];exact qec m λj hj=>by simp[hj])
 rw[D]at s1 s2;have A:upd s.mem i (.box e (DF m)) j=U (.box N [c0]):=(gL _ _ (Ne.symm B)).trans r;obtain⟨u,rfl⟩:=Ok (by simpa using S);have hov:dg #[u] 0 [.int k p.n] = #[.int k p.n]:=by simp[dg]
 have W:(w.setRow f (Array.replicate m (.int .i64 0))).heap[g]?= U (.cells #[u] N (0,0)):=(ue0 w f g _ (Ne.symm C)).trans z;obtain⟨s3,s4⟩:=so (off:=0) (cs':=[.int k p.n]) (vs:=[.int k p.n]) s2 s1.bd A y W Q R (by simp) rfl ⟨⟨.int k p.n,by rw[hov];rfl,rfl,rfl,hr⟩,uT⟩;have d:=s1.trans s3;refine⟨hp1,hp2,f,g,e,N,o1,#[u],K,O,C,x,l.trans b,z,rfl,⟨c.n,c.df,?_,s4,λt=>(c.sl t).mono d.hF d.hw d.hR,c.hg,λt=>d.repA (c.gh t)⟩⟩;obtain⟨γ0,H⟩:=c.step;exact⟨γ0,H.trans d⟩
def qrg{C:Cx}(hC:CxOK P C){run:St->Option Tr}{g:FuncId}{T:TypeId}{fn:Func}{A c:Code}{rid:Nat}{ops:Array Oper}{td ta tb:Tmp}{ps:List PT}{rs:List Ty}{fr:ap ps->Fr (aa rs)}(x0:ap ps)(hf:P.funcs[f]?= some fn)(hb:fn.body=some (.seq A (.seq (.region rid ops false) c)))(hd:TP ops.toList=some (g,td,ta,tb))(hT:ToldTwo P g T k m)(hR:∀ E,nI P E c run)(hrun:∀ xs,Pb P C run T k m fn A td ta tb ps rs xs=some (fr xs)):ag P f ⟨ps,rs,λxs=>(fr xs).get,λxs=>[(fr xs).ok]⟩:=by
 have h0:=hrun x0
 unfold Pb at h0
 split at h0<;>try (cases h0;done)
 rename_i hc
 refine⟨enters hf hb hc.1,λw F xs vs hbd hr hok=>uce hf hb ?_⟩
 have hr':=hrun xs
 unfold Pb at hr'
 simp only[hc,ufs,if_true]at hr'
 split at hr'<;>try (cases hr';done)
 rename_i s1 ht1
 split at hr'<;>try (cases hr';done)
 rename_i i j hsl1 hsl2
 split at hr'<;>try (cases hr';done)
 rename_i hsn
 split at hr'<;>try (cases hr';done)
 rename_i t ht2
 have hlen:vs.length=ps.length:=v9 hr
 have hstart:=z9 (D:=[]) (n:=fn.ntmps) hbd (λR=>pK hr) (by have:=hc.2.1;omega)
 have hsz:(vs.toArray).size=vs.length:=by simp
 refine wp_seq (wp_mono (iG hC A 0 (bm A 0) ht1 (Q:=λe s=>e=.normal/\s=s1) ⟨rfl,rfl⟩ hstart) ?_)
 rintro e a1 w1 ⟨xe,s,rfl,⟨F1,γ1,hi⟩,rfl,rfl⟩
 have hva:=ux hi ta
 rw[hsl1]at hva
 obtain⟨_,b1,hR1,hva⟩:=hva
 have hvb:=ux hi tb
 rw[hsl2]at hvb
 obtain⟨_,b2,hR2,hvb⟩:=hvb
 refine wp_seq (wp_region ?_)
 obtain⟨ol⟩:=ops
 simp only at hd
 unfold TP at hd
 split at hd<;>try (cases hd;done)
 rename_i td0 f0 first caps ty pos aft td1 args ats ty' pos' aft'
 split at hd<;>try (cases hd;done)
 rename_i ta0 tb0 hfirst hcaps hargs
 split at hd<;>try (cases hd;done)
 rename_i htd
 subst htd
 simp at hd
 obtain⟨rfl,rfl,rfl,rfl⟩:=hd
 have h1':first = #[]:=by
  obtain⟨l⟩:=first
  simp only at hfirst
  rw[hfirst]
 have h2':caps = #[.tmp ta0,.tmp tb0]:=by
  obtain⟨l⟩:=caps
  simp only at hcaps
  rw[hcaps]
 have h3':args = #[]:=by
  obtain⟨l⟩:=args
  simp only at hargs
  rw[hargs]
 subst h1'
 subst h2'
 subst h3'
 have hev1:a1.eval (.tmp ta0)=.pointer (some ⟨b1,0,none⟩):=hva
 have hev2:a1.eval (.tmp tb0)=.pointer (some ⟨b2,0,none⟩):=hvb
 let cl:Value:=.func (.func f0) #[] #[.pointer (some ⟨b1,0,none⟩),.pointer (some ⟨b2,0,none⟩)]
 let o0:Oper:=⟨some td1,.makeFunc (.func f0) #[] #[.tmp ta0,.tmp tb0],ty,pos,aft,none⟩
 let o1:Oper:=⟨none,.defer ⟨.value (.tmp td1),#[],ats⟩,ty',pos',aft',none⟩
 have hx0:(execOp a1.eval o0).run P w1=.ok (.value cl) w1:=by
  have hmf:∀ (fn:Fn) (first cap:Array Value) (w:World),(Instr.makeFunc fn first cap).run P w=.ok (.func fn first cap) w:=λ_ _ _ _=>rfl
  simp[execOp,o0,hev1,hev2,hmf,cl]
 have hput:(a1.put (some td1) cl).eval (.tmp td1)=cl:=by
  show(a1.put (some td1) cl).tmps.getD td1 undef=cl
  rw[Hw _ _ _ _ (λx hx=>by cases hx;rw[hi.n,hsn];exact hc.2.2),ufw rfl]
 have hx1:(execOp (a1.put (some td1) cl).eval o1).run P w1=.ok (.defer { target:=.fn (.func f0) #[.pointer (some ⟨b1,0,none⟩),.pointer (some ⟨b2,0,none⟩)],args:=#[] }) w1:=by
  simp[execOp,resolve,o1,hput,cl,Deferred.ofValue]
 have hrange:List.range ((#[o0,o1]:Array Oper)).size=[0,1]:=rfl
 show wpOps P #[o0,o1] _ (List.range ((#[o0,o1]:Array Oper)).size) a1 w1
 rw[hrange]
 unfold wpOps
 simp
 refine .inl ?_
 unfold Oper.wp
 rw[hx0,Oper.upon_value]
 unfold wpOps
 simp
 refine .inl ?_
 unfold Oper.wp
 rw[show o0.dst=some td1 from rfl,hx1,Oper.upon_defer]
 have hip:=rE (ot (d:=some td1) (v:=.dead) (u:=cl) (wr:=[]) hi (λx hx=>by cases hx;exact⟨by rw[hsn];exact hc.2.2,by simp⟩) (Step.refl (eE hi)) hi.mem trivial (λ_ _ _ h=>by cases h))
 let D:List Deferred:=[{ target:=.fn (.func f0) #[.pointer (some ⟨b1,0,none⟩),.pointer (some ⟨b2,0,none⟩)],args:=#[] }]
 let E2:Env:=⟨w,F,λt=>if t=0 then .pointer (some ⟨b1,0,none⟩)else .pointer (some ⟨b2,0,none⟩),D,w.heap.size,ufb _⟩
 have hi':InvG P E2 (gS ⟨s.n,fX s.sl (some td1) .dead,s.mem,λt=>if t=0 then .c (.ptr i 0)else if t=1 then .c (.ptr j 0)else .dead⟩) { (a1.put (some td1) cl)with defers:={ target:=.fn (.func f0) #[.pointer (some ⟨b1,0,none⟩),.pointer (some ⟨b2,0,none⟩)],args:=#[] }::(a1.put (some td1) cl).defers } w1 [] F1 γ1:=by
  refine⟨hip.n,?_,hip.step,hip.mem,hip.sl,hip.hg,λt=>?_⟩
  ·show _::(a1.put (some td1) cl).defers=D
   rw[show(a1.put (some td1) cl).defers=a1.defers from rfl,hi.df]
  ·show aK P w1 F1 (av s.mem γ1) (if t=0 then .c (.ptr i 0)else if t=1 then .c (.ptr j 0)else .dead) (if t=0 then .pointer (some ⟨b1,0,none⟩)else .pointer (some ⟨b2,0,none⟩))
   by_cases ht0:t=0
   ·rw[ufw ht0,ufw ht0]
    exact⟨rfl,b1,hR1,rfl⟩
   ·rw[ufx ht0,ufx ht0]
    by_cases ht1':t=1
    ·rw[ufw ht1']
     exact⟨rfl,b2,hR2,rfl⟩
    ·rw[ufx ht1']
     trivial
 have hwp:=hR E2 _ _ ht2 _ (xK hr' hok) _ _ ⟨F1,γ1,hi'⟩
 refine wp_mono hwp ?_
 rintro e a2 w2 ⟨xe,s2,rfl,⟨F2,γ2,hi2⟩,hx⟩
 have hinv:∀ W,(invoke (.fn (.func f0) #[.pointer (some ⟨b1,0,none⟩),.pointer (some ⟨b2,0,none⟩)]) #[]).run P W=.ok (.enter f0 #[.pointer (some ⟨b1,0,none⟩),.pointer (some ⟨b2,0,none⟩)]) W:=λW=>by
  have:=hT.enter #[.pointer (some ⟨b1,0,none⟩),.pointer (some ⟨b2,0,none⟩)] W
  simp[invoke,this]
 have hdf:a2.defers=[{ target:=.fn (.func f0) #[.pointer (some ⟨b1,0,none⟩),.pointer (some ⟨b2,0,none⟩)],args:=#[] }]:=hi2.df
 have hfin:(∃ n,eh P fn.results.toList rs s2=some (Fr.needL n (.val (fr xs).get))/\az n)->Leaves P fn a2.tmps (iB w F rs (fr xs).get) a2.defers .returning w2:=by
  rintro⟨n,hend,hn⟩
  rw[hdf]
  refine ufg (by simp) (hinv w2) ((hT.idle _ _ w2).mono ?_)
  rintro e u' w' ⟨⟨v,rfl⟩,rfl,rfl⟩
  exact xu hi2 rfl hend hn
 cases xe with
 |normal=>exact hfin hx
 |ret=>exact hfin hx
 |exit _=>exact hx.elim
 |val _=>exact hx.elim
 |jump _=>exact hx.elim
 |panic p=>
  obtain⟨s',n,hs',hin,hend,hn⟩:=hx
  obtain⟨hty,hk,c1,c2,t1,t2,o1,o2,hG1,hG2,hne,hh1,hs1,hh2,hs2,hi3⟩:=zqg hi2 hs' hin
  have hG1':(Value.pointer (some ⟨b1,0,none⟩))=.pointer (some ⟨c1,0,none⟩):=hG1
  have hG2':(Value.pointer (some ⟨b2,0,none⟩))=.pointer (some ⟨c2,0,none⟩):=hG2
  simp at hG1' hG2'
  subst hG1'
  subst hG2'
  show Leaves P fn a2.tmps _ a2.defers (.panicking [{ v:=p.val,recovered:=false }]) w2
  rw[qd8 hty,hdf,hk]
  refine ufg (by simp) (hinv w2) ((hT.told b1 b2 t1 t2 o1 o2 p.n w2 hne hh1 hs1 hh2 hs2).mono ?_)
  rintro e u' w' ⟨⟨v,rfl⟩,rfl,hsw⟩
  exact xu (zan hi3 hsw) rfl hend hn
end
section
variable {P:Program} {w w':World} {F:Nat->Prop}
def H9(w:World)(s D E d:TypeId)(k g o c h:Nat)(a:Addr)(e n:Nat)(f:List Value)(b:Array Value)(t:TypeId)(C:P.underlying s=U (.slice d))(u:(P.info? d).map (·.size)=U k)(B:f.length=Nat.min e c*k)(m:∀ j v,f[j]?= U v->w.cell? (a.add j)=U v)(y:w.heap[g]?= U (.cells b t (0,0)))(l:o+f.length<=b.size)(x:∀ v∈f,v.oneCell'=Z):
  (Builtin.copy_ #[s,D] E #[.slice (U ⟨g,o,V⟩) c h,.slice (U a) e n]).run P w=.ok (goInt (Nat.min e c)) (w.setRow g (b.toList.take o++f++b.toList.drop (o+f.length)).toArray):=by
 have A:=run_loadCells_list (P:=P) w a f m;have r:=run_storeCells_at P g o t f 0 b w y (by simpa using l) x;cases p:P.info? d with
 |none=>simp[p]at u
 |some i=>
  have z:i.size=k:=by simpa[p]using u
  simp[Builtin.copy_,ud6 C,Builtin.lenOf,Builtin.firstCells,sizeOf,typeInfo,p,z,<- B,A,r]
def zmf(l m:List α)(p q:Nat)(h:p<=q)(a:q<=l.length):(l.take q++m).take p=l.take p:=by rw[List.take_append_of_le_length (by simp;omega),ud9,udq h]
def zah(a c b:List α)(q p k:Nat)(g:a.take q=c)(o:q+k<=a.length)(m:p<=q)(l:b.length=k)(C1 C2:List α)(d:C1=a.take (p+k)++c.drop p++a.drop (p+k+(c.drop p).length))(e:C2=C1.take p++b++C1.drop (p+b.length)):
  C1.length=a.length/\C2.length=a.length/\C2.take (q+k)=c.take p++b++c.drop p:=by
 have n:c.length=q:=by rw[<- g,uc5];omega
 have f:C1.length=a.length:=by rw[d];simp;omega
 have h:C1.take p=c.take p:=by rw[d,ucr,zmf a _ p (p+k) (by omega) (by omega),<- g,ud9,udq m]
 have i:C1.drop (p+k)=c.drop p++a.drop (p+k+(c.drop p).length):=by rw[d,ucr];exact ud1 (by rw[uc5];omega)
 rw[l,h,i]at e;refine⟨f,?_,?_⟩;rw[e];simp;omega;rw[e,<- ucr];exact ud0 (by simp;omega)
def zag(b c a:List α)(q p k:Nat)(l:c.length=q)(o:p<=q)(i:b.take p=c.take p)(m:q+k<=b.length)(n:a.length=k)(C1 C2:List α)(f:C1=b.take p++a++b.drop (p+a.length))(g:C2=C1.take (p+k)++c.drop p++C1.drop (p+k+(c.drop p).length)):
  C1.length=b.length/\C2.length=b.length/\C2.take (q+k)=c.take p++a++c.drop p:=by
 have d:C1.length=b.length:=by rw[f];simp;omega
 have h:C1.take (p+k)=c.take p++a:=by rw[f,i];exact ud0 (by simp;omega)
 have e:C2.length=b.length:=by rw[g];simp;omega
 refine⟨d,e,?_⟩;rw[g,h];exact ud0 (by simp;omega)
end
def qd1(w:World){a:Act}{K:Act->World->Prop}{Q:Exit->Act->World->Prop}(d s:Operand)(t b:TypeId)(g:o.op=.call { callee:=.builtin .copy,args:=#[d,s],argTypes:=#[t,b] })(v u:Value)(f:a.eval d=v)(k:a.eval s=u){c:Value}{e:World}(i:(Builtin.copy_ #[t,b] o.type #[v,u]).run P w=.ok c e)(h:K (a.put o.dst c) e):o.wp P a w K Q:=by unfold Oper.wp execOp;simp only[g,resolve,invoke,builtin,uet,uev,ucm,List.map_toArray,uel,List.map_nil,f,k,i];exact h
def qy(w:World){c:Array Oper}{b:List Oper}{a:Act}{Q:Exit->Act->World->Prop}(e:o.guard=V)(d s:Operand)(t f:TypeId)(m:o.op=.call { callee:=.builtin .copy,args:=#[d,s],argTypes:=#[t,f] })(v u:Value)(l:a.eval d=v)(p:a.eval s=u){g:Value}{i:World}(n:(Builtin.copy_ #[t,f] o.type #[v,u]).run P w=.ok g i)(h:wpList P c Q b (a.put o.dst g) i):wpList P c Q (o::b) a w:=
 wpList_plain e λ_ k=>qd1 w d s t f m v u l p n (k _ _ h)
def zB{b:Array Oper}{a:Act}{K:Act->World->Prop}{Q:Exit->Act->World->Prop}{E:Prop}(l:o.guard=V)(d x:Operand)(c f:TypeId)(e:o.op=Op.call { callee:=Callee.builtin Builtin.copy,args:=#[d,x],argTypes:=#[c,f] })(v u:Value)(k:a.eval d=v)(p:a.eval x=u){g:Value}{h:World}(m:(Builtin.copy_ #[c,f] o.type #[v,u]).run P w=.ok g h)(i:K (a.put o.dst g) h):
  if Region.wanted o (yielded b a.tmps)=Z then Oper.wp P o a w K Q else E:=by
 have n:Region.wanted o (yielded b a.tmps)=true:=by simp[Region.wanted,l]
 rw[ufw n];exact qd1 w d x c f e v u k p m i
def AR{g q:Nat}(b:w.heap[g]?= U (.cells cur t (0,0)))(c:cur.toList.take q=xs){j:Nat}(a:xs[j]?= U v):w.cell? ⟨g,j,V⟩=U v:=by rw[cell_of_row w g j cur t (0,0) b];rw[<- c,ub2]at a;split at a;simpa using a;cases a
section
open Go.Lib
section
variable {P:Program} {ts te tn:TypeId} {i0:TypeInfo} {z:Value} {q by_:Nat} {f:FuncId}
structure InsTy (P:Program) (ts te tn:TypeId) (i0:TypeInfo) (z:Value) (q by_:Nat):Prop where
 us:P.underlying ts=some (.slice te)
 un:P.underlying tn=some (.int .i64)
 hi:P.info? te=some i0
 hz:i0.zero=some z
 hq:i0.size=q
 hb:i0.bytes=by_
 hc:z.cells.size=q
 h0:0<q
def InsTy.sz(T:InsTy P ts te tn i0 z q by_):(P.info? te).map (·.size)=U q:=by rw[T.hi];simp[T.hq]
def DT(P:Program)(f:FuncId)(d:TypeId)(q c:Nat):Prop:=
 ∀ (w:World) (B n:Nat) (s v:Value) (g a:List Value),B<=w.heap.size->w.ownsRow B d q s n g->w.ownsRow B d q v 1 a->(∀ u∈a,u.oneCell'=Z)->n+1<=maxLen->(n+1)*c<=140737488355328 ->
  Calls P f #[s,.int .i64 n,v] w λh e=>∃ b,h=.returned b/\w.grownBy e s.ownBlock/\e.ownsRow B d q b (n+1) (g++a)/\(b.ownBlock=s.ownBlock\/b.ownBlock=U w.heap.size)
def DV(P:Program)(f:FuncId)(m:TypeId)(q:Nat):Prop:=
 ∀ (w:World) (n i g b k l:Nat) (e:Array Value) (h a:List Value),i<n->w.heap[g]?= U (.cells e m (0,0))->e.size=b*q->n+1<=b->b<=maxLen->e.toList.take (n*q)=h ->
  ∀ (d:Array Value),w.heap[k]?= U (.cells d m (0,0))->k≠g->a.length=q->d.toList.take q=a->1<=l->d.size=l*q->(∀ u∈h,u.oneCell'=Z)->(∀ u∈a,u.oneCell'=Z) ->
  Calls P f #[.slice (U ⟨g,0,V⟩) n b,.int .i64 i,.slice (U ⟨k,0,V⟩) 1 l] w λo p=>∃ c,o=.returned (.slice (U ⟨g,0,V⟩) (n+1) b)/\p=w.drew.setRow g c/\c.size=e.size/\c.toList.take ((n+1)*q)=h.take (i*q)++a++h.drop (i*q)
def DU(P:Program)(f:FuncId)(k:TypeId)(q h:Nat):Prop:=
 ∀ (w:World) (n i g b l p:Nat) (d:Array Value) (e a:List Value),i<n->w.heap[g]?= U (.cells d k (0,0))->d.size=b*q->n<=b->b<n+1->d.toList.take (n*q)=e ->
  ∀ (c:Array Value),w.heap[l]?= U (.cells c k (0,0))->a.length=q->c.toList.take q=a->(∀ u∈e,u.oneCell'=Z)->(∀ u∈a,u.oneCell'=Z)->n+1<=maxLen->(n+1)*h<=140737488355328 ->
  Calls P f #[.slice (U ⟨g,0,V⟩) n b,.int .i64 i,.slice (U ⟨l,0,V⟩) 1 p] w λo m=>∃ G C,o=.returned (.slice (U ⟨w.heap.size,0,V⟩) (n+1) G)/\w.grownBy m V/\m.heap[w.heap.size]?= U (.cells C k (0,0))/\n+1<=G/\G<=maxLen/\C.size=G*q /\
   C.toList.take ((n+1)*q)=e.take (i*q)++a++e.drop (i*q)
def Zc{q:Nat}(d:w.ownsRow B te q v 1 news):∃ g a cur,v=.slice (U ⟨g,0,V⟩) 1 a/\B<=g/\w.heap[g]?= U (.cells cur te (0,0))/\1<=a/\a<=maxLen/\cur.size=a*q/\cur.toList.take (1*q)=news:=by
 rcases d.2 with ⟨_,c⟩|b
 exact absurd c (by omega);exact b
def Nv{T:Ty}(W:∀ h w,(callFunc f h).run P w=.ok (.enter f h) w)(he:DT P f te T.size by_)(hg:DU P f te T.size by_)(hs':DV P f te T.size):InsOK P f te T by_:=by
 refine⟨W,λw B n i s v xs a hB hs hv hne hi z R A D=>?_⟩;rcases ueq i n with t|t
 obtain⟨O,vc,m,rfl,hvb,M,hv1,hv2,hv3,u⟩:=Zc hv;have H:a.length=T.size:=by have:=hv.1;omega
 rw[Nat.one_mul]at u;rcases hs.2 with ⟨rfl,h0⟩|⟨g,d,o,rfl,S,r,hnc,E,p,c⟩
 omega;have F:O≠g:=λe=>hne O rfl (by rw[e];rfl);rcases ueq d (n+1)with L|L
 refine(hg w n i g d O vc o xs a t r p hnc L c m M H u z R A D).mono λen w' K=>?_;obtain⟨G,C,rfl,b,hh,N,Q,x,y⟩:=K;refine⟨_,rfl,⟨b.os,b.tape,b.output,b.size,λk hk _=>b.block k hk (by simp)⟩,⟨?_,.inr ⟨_,_,_,rfl,hB,hh,N,Q,x,y⟩⟩,.inr rfl⟩;rw[<- y,uc5,ubu,x];exact udq (ube _ N);refine(hs' w n i g d O vc o xs a t r p L E c m M F H u hv1 hv3 z R).mono λen w' K=>?_;obtain⟨l,rfl,rfl,x,y⟩:=K;have a5:=x.trans p;refine⟨_,rfl,⟨rfl,rfl,rfl,by simp,λk _ hk=>ue0 w.drew g k _ (λe=>hk (by simp[Value.ownBlock,e]))⟩,⟨?_,.inr ⟨g,d,l,rfl,S,ufe w.drew g o l _ _ r,L,E,a5,y⟩⟩,.inl rfl⟩;rw[<- y,uc5,ubu,a5];exact udq (ube _ L);have e:i=n:=by omega
 subst e;refine(he w B i s v xs a hB hs hv R A D).mono λen w' K=>?_;obtain⟨v',rfl,N,Q,x⟩:=K;refine⟨v',rfl,N,?_,x⟩;have hx:=hs.1;rw[ua3 (by omega),ua2 (by omega),uds];exact Q
def WU{b q:Nat}(c:cur.size=b*q)(d:n<=b)(a:cur.toList.take (n*q)=xs):xs.length=n*q:=by rw[<- a,uc5,ubu,c];exact udq (ube _ d)
def InsTy.shift(T:InsTy P ts te tn i0 z q by_){g c o vc:Nat}(G:i<n)(s:w.heap[g]?= U (.cells cur te (0,0)))(r:cur.size=c*q)(f:n+1<=c)(a:cur.toList.take (n*q)=xs){b:Array Value}(y:w.heap[o]?= U (.cells b te (0,0)))(x:o≠g)(e:news.length=q)(A:b.toList.take q=news)(p:∀ u∈xs,u.oneCell'=Z)(F:∀ u∈news,u.oneCell'=Z):
  ∃ C1 C2:Array Value,(∀ ty d C,(Builtin.copy_ #[ts,ts] ty #[.slice (U ⟨g,(i+1)*q,V⟩) (n-i) d,.slice (U ⟨g,i*q,V⟩) (n+1-i) C]).run P w.drew=.ok (goInt (Nat.min (n+1-i) (n-i))) (w.drew.setRow g C1)) /\
   (∀ ty d,(Builtin.copy_ #[ts,ts] ty #[.slice (U ⟨g,i*q,V⟩) (n+1-i) d,.slice (U ⟨o,0,V⟩) 1 vc]).run P (w.drew.setRow g C1)=.ok (goInt (Nat.min 1 (n+1-i))) (w.drew.setRow g C2)) /\
   C2.size=cur.size/\C2.toList.take ((n+1)*q)=xs.take (i*q)++news++xs.drop (i*q):=by
 have D:(i+1)*q=i*q+q:=uex _ _;have E:(n+1)*q=n*q+q:=uex _ _;have N:(n-i)*q=n*q-i*q:=Nat.sub_mul _ _ _;have O:(i+1)*q<=n*q:=ube _ G;have Q:(n+1)*q<=c*q:=ube _ f;have B:=WU r (by omega) a;have m:(xs.drop (i*q)).length=(n-i)*q:=by rw[uc6,B];omega
 obtain⟨C1,k⟩:∃ C1:Array Value,C1=(cur.toList.take ((i+1)*q)++xs.drop (i*q)++cur.toList.drop ((i+1)*q+(xs.drop (i*q)).length)).toArray:=⟨_,rfl⟩;obtain⟨C2,l⟩:∃ C2:Array Value,C2=(C1.toList.take (i*q)++news++C1.toList.drop (i*q+news.length)).toArray:=⟨_,rfl⟩;obtain⟨K,L,M⟩:=zah cur.toList xs news (n*q) (i*q) q a (by simp;omega) (by omega) e C1.toList C2.toList (by rw[k];simp only[D]) (by rw[l]);refine⟨C1,C2,λty d C=>?_,λty d=>?_,by rw[<- ubu,L,ubu],by rw[E];exact M⟩;rw[k];exact H9 w.drew _ _ ty te q g ((i+1)*q) (n-i) d ⟨g,i*q,V⟩ (n+1-i) C (xs.drop (i*q)) cur te T.us T.sz (by rw[m,show Nat.min (n+1-i) (n-i)=n-i from Nat.min_eq_right (by omega)])
  (λj v t=>by rw[ue9];exact AR s a (by rwa [ub1]at t)) s (by rw[m];omega) (λv H=>p v (ubr H))
 rw[l];have h:=H9 (w.drew.setRow g C1) ts ts ty te q g (i*q) (n+1-i) d ⟨o,0,V⟩ 1 vc news C1 te T.us T.sz (by rw[e,show Nat.min 1 (n+1-i)=1 from udq (by omega),Nat.one_mul])
  (λj v t=>by rw[ue9,uey];exact AR ((ue0 w.drew g o C1 x).trans y) A t) (ufe w.drew g cur C1 _ _ s) (by rw[e,<- ubu,K,ubu];omega) F
 rw[setRow_setRow]at h;exact h
def InsTy.grow(T:InsTy P ts te tn i0 z q by_){g cap vb vc:Nat}(hi:i<n)(hg:w.heap[g]?= some (.cells cur te (0,0)))(hcs:cur.size=cap*q)(hnc:n<=cap)(hroom:cap<n+1)(htake:cur.toList.take (n*q)=xs){vcur:Array Value}(hvg:w.heap[vb]?= some (.cells vcur te (0,0)))(hnl:news.length=q)(hvt:vcur.toList.take q=news)(h1x:∀ u∈xs,u.oneCell'=true)(h1:∀ u∈news,u.oneCell'=true)(h63:n+1<=maxLen)(hby:(n+1)*by_<=140737488355328):
  ∃ (G:Nat) (ROW C1 C2:Array Value),(∀ ty,(Builtin.append_ #[ts,tn] ty #[.slice (some ⟨g,0,none⟩) i cap,.int .i64 ((n:Int)+1-(i:Int))]).run P w=.ok (.slice (some ⟨w.heap.size,0,none⟩) (n+1) G) (w.drew.alloc (.cells ROW te))) /\
   (∀ ty dc,(Builtin.copy_ #[ts,ts] ty #[.slice (some ⟨w.heap.size,i*q,none⟩) (n+1-i) dc,.slice (some ⟨vb,0,none⟩) 1 vc]).run P (w.alloc (.cells ROW te)).drew=.ok (goInt (Nat.min 1 (n+1-i))) ((w.alloc (.cells ROW te)).drew.setRow w.heap.size C1)) /\
   (∀ ty dc sc,(Builtin.copy_ #[ts,ts] ty #[.slice (some ⟨w.heap.size,(i+1)*q,none⟩) (n-i) dc,.slice (some ⟨g,i*q,none⟩) (n-i) sc]).run P ((w.alloc (.cells ROW te)).drew.setRow w.heap.size C1).drew=.ok (goInt (Nat.min (n-i) (n-i))) (((w.alloc (.cells ROW te)).drew.setRow w.heap.size C1).drew.setRow w.heap.size C2)) /\
   n+1<=G/\G<=maxLen/\w.grownBy (((w.alloc (.cells ROW te)).drew.setRow w.heap.size C1).drew.setRow w.heap.size C2) none/\(((w.alloc (.cells ROW te)).drew.setRow w.heap.size C1).drew.setRow w.heap.size C2).heap[w.heap.size]?= some (.cells C2 te (0,0)) /\
   C2.size=G*q/\C2.toList.take ((n+1)*q)=xs.take (i*q)++news++xs.drop (i*q):=by
 have h63':n+1<=9223372036854775807:=by unfold maxLen at h63;omega
 have e1:(i+1)*q=i*q+q:=uex _ _;have e2:(n+1)*q=n*q+q:=uex _ _;have e3:(n-i)*q=n*q-i*q:=Nat.sub_mul _ _ _;have m1:(i+1)*q<=n*q:=ube _ hi;have hxl:=WU hcs hnc htake;have hdl:(xs.drop (i*q)).length=(n-i)*q:=by rw[uc6,hxl];omega
 have hgw:=(uaf.1 hg).1;have hvw:=(uaf.1 hvg).1;have hkk:(n:Int)+1-(i:Int)=((n+1-i:Nat):Int):=by omega
 have hik:i+(n+1-i)=n+1:=by omega
 have hold:(Builtin.firstCells i0.size i (.slice (some ⟨g,0,none⟩) i cap)).run P w.drew=.ok (xs.take (i*q)).toArray w.drew:=by
  rw[T.hq];exact run_firstCells_some w.drew q i ⟨g,0,none⟩ i cap (xs.take (i*q)) (by rw[uc5];omega) (λj v hj=>by
   rw[ue9,uey];rw[ub2]at hj;split at hj
   ·exact AR hg htake hj
   ·cases hj)
 obtain⟨G,hG⟩:∃ G,G=grownCap w (n+1) cap te:=⟨_,rfl⟩;have hGn:n+1<=G:=by rw[hG];exact grownCap_ge w _ _ _
 have hGm:G<=maxLen:=by rw[hG];exact ub7 w _ _ _ h63
 have m3:(n+1)*q<=G*q:=ube _ hGn;obtain⟨ROW,hROW⟩:∃ ROW:Array Value,ROW=(xs.take (i*q)).toArray++Builtin.zeroCells z.cells (n+1-i)++Builtin.zeroCells z.cells (G-(n+1)):=⟨_,rfl⟩;have hrz:∀ ty,(Builtin.append_ #[ts,tn] ty #[.slice (some ⟨g,0,none⟩) i cap,.int .i64 ((n:Int)+1-(i:Int))]).run P w =
   .ok (.slice (some ⟨w.heap.size,0,none⟩) (n+1) G) (w.drew.alloc (.cells ROW te)):=λty=>by
  have h:=Lib.run_append_grow_zeros w ts tn ty te i0 _ .i64 .i64 T.us T.un T.hi T.hz (some ⟨g,0,none⟩) i cap (xs.take (i*q)) hold (n+1-i) (by omega) (by have:=T.h0;have:=T.hq;omega) (by omega) (by omega) (by
   rw[T.hb];have:(n+1-i)*by_<=(n+1)*by_:=ube _ (by omega);omega) (by rw[T.hb,hik];exact growslice_fits hroom hby)
  rw[hik,<- hG,<- hROW]at h;rw[hkk];exact h
 have e4:(n+1-i)*q=(n+1)*q-i*q:=Nat.sub_mul _ _ _;have e5:(G-(n+1))*q=G*q-(n+1)*q:=Nat.sub_mul _ _ _;have hRs:ROW.size=G*q:=by
  rw[hROW];simp only[ucp,ucq,size_zeroCells,T.hc,uc5];omega
 have hRt:ROW.toList.take (i*q)=xs.take (i*q):=by
  rw[hROW,Array.toList_append,Array.toList_append,ucr];exact ud0 (by rw[uc5];omega)
 obtain⟨C1,hC1⟩:∃ C1:Array Value,C1=(ROW.toList.take (i*q)++news++ROW.toList.drop (i*q+news.length)).toArray:=⟨_,rfl⟩;obtain⟨C2,hC2⟩:∃ C2:Array Value,C2=(C1.toList.take ((i+1)*q)++xs.drop (i*q)++C1.toList.drop ((i+1)*q+(xs.drop (i*q)).length)).toArray:=⟨_,rfl⟩;obtain⟨k1,k2,k3⟩:=zag ROW.toList xs news (n*q) (i*q) q hxl (by omega) hRt (by rw[ubu];omega) hnl C1.toList C2.toList (by rw[hC1]) (by rw[hC2];simp only[e1]);have hnew:(w.drew.alloc (.cells ROW te)).heap[w.heap.size]?= some (.cells ROW te (0,0)):=ud8 w.drew _;refine⟨G,ROW,C1,C2,hrz,λty dc=>?_,λty dc sc=>?_,hGn,hGm,⟨rfl,rfl,rfl,?_,λk hk _=>?_⟩,?_,by rw[<- ubu,k2,ubu,hRs],by rw[e2];exact k3⟩
 ·rw[hC1];exact H9 _ _ _ ty te q w.heap.size (i*q) (n+1-i) dc ⟨vb,0,none⟩ 1 vc news ROW te T.us T.sz (by rw[hnl,show Nat.min 1 (n+1-i)=1 from udq (by omega),Nat.one_mul])
   (λj v hj=>by
    rw[ue9,uey];exact AR ((qM w.drew _ vb hvw).trans hvg) hvt hj) hnew (by omega) h1
 ·rw[hC2];exact H9 _ _ _ ty te q w.heap.size ((i+1)*q) (n-i) dc ⟨g,i*q,none⟩ (n-i) sc (xs.drop (i*q)) C1 te T.us T.sz (by rw[hdl,show Nat.min (n-i) (n-i)=n-i from Nat.min_self _])
   (λj v hj=>by
    rw[ue9];exact AR (((ue0 (w.alloc (.cells ROW te)).drew w.heap.size g C1 (by omega)).trans (qM w.drew _ g hgw)).trans hg) htake (by rwa [ub1]at hj))
   (ufe (w.alloc (.cells ROW te)).drew w.heap.size ROW C1 _ _ hnew) (by rw[hdl,<- ubu,k1,ubu];omega) (λv hv=>h1x v (ubr hv))
 ·simp
 ·exact(ue0 ((w.alloc (.cells ROW te)).drew.setRow w.heap.size C1).drew w.heap.size k C2 (by omega)).trans ((ue0 (w.alloc (.cells ROW te)).drew w.heap.size k C1 (by omega)).trans (qM w _ k hk))
 ·exact ufe ((w.alloc (.cells ROW te)).drew.setRow w.heap.size C1).drew w.heap.size C1 C2 _ _ (ufe (w.alloc (.cells ROW te)).drew w.heap.size ROW C1 _ _ hnew)
def InsTy.fin(T:InsTy P ts te tn i0 z q by_){s:Value}(p:B<=w.heap.size)(t:w.ownsRow B te q s n xs)(g:w.ownsRow B te q v 1 news)(o:∀ u∈news,u.oneCell'=Z)(d:n+1<=maxLen)(f:(n+1)*by_<=140737488355328):
  ∃ b c a w',v=.slice (U ⟨b,0,V⟩) 1 c/\(∀ ty,(Builtin.append_ #[ts,ts] ty #[s,.slice (U ⟨b,0,V⟩) 1 c]).run P w=.ok a w')/\w.grownBy w' s.ownBlock/\w'.ownsRow B te q a (n+1) (xs++news)/\(a.ownBlock=s.ownBlock\/a.ownBlock=U w.heap.size):=by
 obtain⟨b,c,i,rfl,D,E,x,y,A,C⟩:=Zc g;obtain⟨a,w',r,k,l,m⟩:=tk ts ts te i0 _ q T.us T.hi T.hz T.hq T.hc T.h0 s n xs t (U ⟨b,0,V⟩) 1 c news (λh=>by cases h) g.1 (λF e=>by cases e;exact g.cells rfl) o d (by rw[T.hb];exact f) p;exact⟨b,c,a,w',rfl,λty=>r,l,k,m⟩
def InsTy.nil(T:InsTy P ts te tn i0 z q by_)(w:World)(A:Option Addr)(n c:Nat):(binOp .eql ts (.slice A n c) (.slice V 0 0)).run P w=.ok (.bool A.isNone) w:=by have a:binOp .eql ts (.slice A n c) (.slice V 0 0)=(do pure (.bool (<- Op.equal ts (.slice A n c) (.slice V 0 0)))):=rfl;have b:Op.equal ts (.slice A n c) (.slice V 0 0)=Op.equalIn (9999+1) ts (.slice A n c) (.slice V 0 0):=rfl;rw[a,b];simp[NZ T.us]
def InsTy.clone(T:InsTy P ts te tn i0 z q by_)(l:xs.length=n*q)(i:∀ (j:Nat) u,xs[j]?= U u->w.cell? (ad.add j)=U u)(p:∀ u∈xs,u.oneCell'=Z)(f:n<=maxLen)(g:n*by_<=140737488355328):
  ∃ d w',(∀ ty,(Builtin.append_ #[ts,ts] ty #[.slice (U ⟨w.heap.size,0,V⟩) 0 0,.slice (U ad) n c]).run P (w.alloc (.cells #[] te))=.ok d w')/\w.grownBy w' V/\w'.ownsRow w.heap.size te q d n xs:=by
 have r:(w.alloc (.cells #[] te)).ownsRow w.heap.size te q (.slice (U ⟨w.heap.size,0,V⟩) 0 0) 0 []:=World.ownsRow_lit w #[] 0 (ufb _) (by unfold maxLen;omega) (by simp);have a:∀ (j:Nat) u,xs[j]?= U u->(w.alloc (.cells #[] te)).cell? (ad.add j)=U u:=λj u t=>by have h:=i j u t;have s:=block_lt_of_cell h;rw[ubd (qM w _ _ s)];exact h
 obtain⟨d,w',x,m,b,y⟩:=tk ts ts te i0 _ q T.us T.hi T.hz T.hq T.hc T.h0 _ 0 [] r (U ad) n c xs (λh=>by cases h) l (λo e=>by cases e;exact a) p (by rw[uey];exact f) (by rw[T.hb,uey];exact g) (by simp);rw[uey,udn]at m;refine⟨d,w',λty=>x,⟨b.os,b.tape,b.output,uep (by simp) b.size,λk v _=>(b.block k (by simp;omega) (λe=>?_)).trans (qM w _ k v)⟩,m⟩;have:k=w.heap.size:=by simpa[Value.ownBlock]using e
 omega
def xS(a:i<n)(b:n<=9223372036854775806):¬ ((i:Int)=(n:Int))/\I6.wrap ((i:Int)+(1:Int))=(i:Int)+(1:Int)/\(0:Int)<=(i:Int)+(1:Int)/\((i:Int)+(1:Int)).toNat=i+1/\i<=n/\(i:Int)<=(n:Int)/\(i:Int)<=(n:Int)+(1:Int):=
 ⟨by omega,by rw[udf];omega,by omega,by omega,by omega,by omega,by omega⟩
end
end
def bC(step:Int->T->σ->Fr (σ ⊕ ρ)):Int->List T->σ->σ ⊕ ρ
 |_,[],s=>.inl s
 |i,x::r,s=>match (step i x s).get with
  |.inl a=>bC step (i+1) r a
  |.inr y=>.inr y
def eI(step:Int->T->σ->Fr (σ ⊕ ρ)):Int->List T->σ->Prop
 |_,[],_=>True
 |i,x::r,s=>(step i x s).ok/\match (step i x s).get with
  |.inl a=>eI step (i+1) r a
  |.inr _=>True
def bw(step:Int->T->σ->Fr σ):Int->List T->σ->σ
 |_,[],s=>s
 |i,x::r,s=>bw step (i+1) r (step i x s).get
def bY(step:Int->T->σ->Fr σ):Int->List T->σ->Prop
 |_,[],_=>True
 |i,x::r,s=>(step i x s).ok/\bY step (i+1) r (step i x s).get
section
variable {P:Program} {c:Code} {L Eo R:LS} {n id:Nat} {κ T σ ρ:Type}
structure InK (n i:Int) (l:Nat):Prop where
 n:n=(l:Int)
 lo:0<=i
 hi:0<=(l:Int)
 big:(l:Int)<=9223372036854775807
def FK(a:L.X->Int×κ×σ)(e:κ->Int)(b:κ->List T)(step:κ->Prop->Int->T->σ->Fr (σ ⊕ ρ))(cC:κ->σ->Eo.X)(outR:κ->ρ->Rd Empty Eo.X R.X)(d:σ)(c:ρ)(x:L.X):Fr (Rd L.X Eo.X R.X):=
 Fr.need (InK (e (a x).2.1) (a x).1 (b (a x).2.1).length) (Fr.need (eI (step (a x).2.1 True) (a x).1 ((b (a x).2.1).drop (a x).1.toNat) (a x).2.2)
  (Fr.br (dV (bC (step (a x).2.1 True) (a x).1 ((b (a x).2.1).drop (a x).1.toNat) (a x).2.2)) (Fr.val (Rd.out (cC (a x).2.1 (fq d (bC (step (a x).2.1 True) (a x).1 ((b (a x).2.1).drop (a x).1.toNat) (a x).2.2)))))
   (Fr.val (Rd.up (outR (a x).2.1 (e9 c (bC (step (a x).2.1 True) (a x).1 ((b (a x).2.1).drop (a x).1.toNat) (a x).2.2)))))))
def Co(mk:Int->κ->σ->L.X)(outR:κ->ρ->Rd Empty Eo.X R.X)(i:Int)(k:κ):σ ⊕ ρ->Rd L.X Eo.X R.X
 |.inl s=>.next (mk (I6.wrap (i+1)) k s)
 |.inr y=>Rd.up (outR k y)
def lG {C:Cx} (hC:CxOK P C) {Λ:Nat->St->Option Tr} (mk:Int->κ->σ->L.X) {a:L.X->Int×κ×σ} {r:κ->Int} {b:κ->List T} (B:T) {step:κ->Prop->Int->T->σ->Fr (σ ⊕ ρ)} {cC:κ->σ->Eo.X} {outR:κ->ρ->Rd Empty Eo.X R.X} {d:σ} {O:ρ}
  (hΛ:∀ E,co P E Λ c 0:=by exact λ_=>bm _ 0)
  (hr:∀ i k s,qr P C 0 Λ c L ⟨n,id,L,Eo,R⟩ (mk i k s)=U (Fr.br (J (i<r k)) ((step k (0<=i/\i<((b k).length:Int)) i ((b k).getD i.toNat B) s).mapR (Co mk outR i k)) (Fr.val (Rd.out (cC k s)))):=by intro i k s;kernel_rfl)
  (N:∀ x,mk (a x).1 (a x).2.1 (a x).2.2=x:=by intro _;rfl) (G:∀ i k s,a (mk i k s)=(i,k,s):=by intro _ _ _;rfl)
  (hM:L.low=true:=by rfl) (hE:Eo.low=true:=by rfl) (hR:R.low=true:=by rfl) :
  af P (.loop c) L ⟨n,id,L,Eo,R⟩ (FK a r b step cC outR d O):=by
 have hs:af P c L ⟨n,id,L,Eo,R⟩ (λx=>Fr.br (J ((a x).1<r (a x).2.1)) ((step (a x).2.1 (0<=(a x).1/\(a x).1<((b (a x).2.1).length:Int)) (a x).1 ((b (a x).2.1).getD (a x).1.toNat B) (a x).2.2).mapR (Co mk outR (a x).1 (a x).2.1)) (Fr.val (Rd.out (cC (a x).2.1 (a x).2.2)))):=
  af.of_run hC (bs:=0) (Λ:=Λ) hM hE hR hΛ λx=>by
   have h:=hr (a x).1 (a x).2.1 (a x).2.2
   rwa [N]at h
 refine af.loop (n:=n) (id:=id) hs (inv:=λx=>InK (r (a x).2.1) (a x).1 (b (a x).2.1).length) (μ:=λx=>(((b (a x).2.1).length:Int)-(a x).1).toNat) ?_ (λx Q M=>M.1);intro x A Q M;obtain⟨_,l,f,g⟩:=M;generalize hu:a x=u at *;obtain⟨i,k,s⟩:=u;dsimp only at A l f g |-;have H:=A.n;have F:=A.lo;have t:=A.big;refine⟨λD=>?_,λD=>?_⟩
 ·have W:i<((b k).length:Int):=by rw[<- H];exact ucx D
  have w:i.toNat<(b k).length:=by omega
  have hb:(0<=i/\i<((b k).length:Int))=True:=eq_true ⟨F,W⟩;have e1:(b k).drop i.toNat=(b k)[i.toNat]::(b k).drop (i.toNat+1):=ual w;have hd:(b k).getD i.toNat B=(b k)[i.toNat]:=by rw[uah,uaq w];rfl
  have hw:I6.wrap (i+1)=i+1:=IntWalk.i64_in _ (by omega);rw[e1]at l f g;rw[hb,hd];generalize (b k)[i.toNat]=e at l f g |-;refine vU (q9 l.1 ?_);have m:=l.2;simp only[bC]at f g;cases S:(step k True i e s).get with
  |inl s'=>
   simp only[S]at m f g;show InK _ _ _/\_<_/\(FK a r b step cC outR d O (mk (I6.wrap (i+1)) k s')).s7 Q;rw[hw];unfold FK;rw[G];have v:InK (r k) (i+1) (b k).length:=⟨H,by omega,by omega,t⟩;have K:(i+1).toNat=i.toNat+1:=by omega
   refine⟨v,by dsimp only;omega,v,?_⟩;dsimp only;rw[K];exact⟨m,f,g⟩
  |inr y=>
   simp only[S]at f g;have:=g rfl;simp only[e9]at this;cases o:outR k y with
   |next x=>exact nomatch x
   |out y2=>rw[o]at this;simp only[Co,o,Rd.up];exact this
   |back z=>rw[o]at this;simp only[Co,o,Rd.up];exact this
   |pan p=>rw[o]at this;simp only[Co,o,Rd.up];exact this
 have W:¬ i<((b k).length:Int):=by rw[<- H];exact uch D
 have w:(b k).drop i.toNat=[]:=ua2 (by omega);rw[w]at f;exact f rfl
def FG(a:L.X->Int×κ×σ)(c:κ->Int)(b:κ->List T)(step:κ->Prop->Int->T->σ->Fr σ)(cC:κ->σ->Eo.X)(x:L.X):Fr (Rd L.X Eo.X R.X):=
 Fr.need (InK (c (a x).2.1) (a x).1 (b (a x).2.1).length) (Fr.need (bY (step (a x).2.1 True) (a x).1 ((b (a x).2.1).drop (a x).1.toNat) (a x).2.2)
  (Fr.val (Rd.out (cC (a x).2.1 (bw (step (a x).2.1 True) (a x).1 ((b (a x).2.1).drop (a x).1.toNat) (a x).2.2)))))
def cX {C:Cx} (G:CxOK P C) {Λ:Nat->St->Option Tr} (mk:Int->κ->σ->L.X) {a:L.X->Int×κ×σ} {g:κ->Int} {b:κ->List T} (r:T) {step:κ->Prop->Int->T->σ->Fr σ} {cC:κ->σ->Eo.X}
  (hΛ:∀ E,co P E Λ c 0:=by exact λ_=>bm _ 0)
  (S:∀ i k s,qr P C 0 Λ c L ⟨n,id,L,Eo,R⟩ (mk i k s)=U (Fr.br (J (i<g k)) ((step k (0<=i/\i<((b k).length:Int)) i ((b k).getD i.toNat r) s).mapR (λs=>Rd.next (mk (I6.wrap (i+1)) k s))) (Fr.val (Rd.out (cC k s)))):=by intro i k s;kernel_rfl)
  (B:∀ x,mk (a x).1 (a x).2.1 (a x).2.2=x:=by intro _;rfl) (w:∀ i k s,a (mk i k s)=(i,k,s):=by intro _ _ _;rfl)
  (K:L.low=true:=by rfl) (H:Eo.low=true:=by rfl) (M:R.low=true:=by rfl) :
  af P (.loop c) L ⟨n,id,L,Eo,R⟩ (FG a g b step cC):=by
 have W:af P c L ⟨n,id,L,Eo,R⟩ (λx=>Fr.br (J ((a x).1<g (a x).2.1)) ((step (a x).2.1 (0<=(a x).1/\(a x).1<((b (a x).2.1).length:Int)) (a x).1 ((b (a x).2.1).getD (a x).1.toNat r) (a x).2.2).mapR (λs=>Rd.next (mk (I6.wrap ((a x).1+1)) (a x).2.1 s))) (Fr.val (Rd.out (cC (a x).2.1 (a x).2.2)))):=
  af.of_run G (bs:=0) (Λ:=Λ) K H M hΛ λx=>by
   have h:=S (a x).1 (a x).2.1 (a x).2.2
   rwa [B]at h
 refine af.loop (n:=n) (id:=id) W (inv:=λx=>InK (g (a x).2.1) (a x).1 (b (a x).2.1).length) (μ:=λx=>(((b (a x).2.1).length:Int)-(a x).1).toNat) ?_ (λx Q A=>A.1);intro x p Q A;obtain⟨_,f,d⟩:=A;generalize hu:a x=u at *;obtain⟨i,k,s⟩:=u;dsimp only at p f d |-;have y:=p.n;have v:=p.lo;have l:=p.big;refine⟨λt=>?_,λt=>?_⟩;have D:i<((b k).length:Int):=by rw[<- y];exact ucx t
 have o:i.toNat<(b k).length:=by omega
 have N:(0<=i/\i<((b k).length:Int))=True:=eq_true ⟨v,D⟩;have F:(b k).drop i.toNat=(b k)[i.toNat]::(b k).drop (i.toNat+1):=ual o;have O:(b k).getD i.toNat r=(b k)[i.toNat]:=by rw[uah,uaq o];rfl
 have hw:I6.wrap (i+1)=i+1:=IntWalk.i64_in _ (by omega);rw[F]at f d;rw[N,O];generalize (b k)[i.toNat]=e at f d |-;refine vU (q9 f.1 ?_);show InK _ _ _/\_<_/\(FG a g b step cC (mk (I6.wrap (i+1)) k (step k True i e s).get)).s7 Q;rw[hw];unfold FG;rw[w];have m:InK (g k) (i+1) (b k).length:=⟨y,by omega,by omega,l⟩;have z:(i+1).toNat=i.toNat+1:=by omega
 refine⟨m,by dsimp only;omega,m,?_⟩;dsimp only;rw[z];exact⟨f.2,d⟩;have D:¬ i<((b k).length:Int):=by rw[<- y];exact uch t
 have o:(b k).drop i.toNat=[]:=ua2 (by omega);rw[o]at d;exact d
end
structure Ht where
 pt:TypeId
 bt:TypeId
 e:TypeId
 T:Ty
 ps:List PT
 rs:List Ty
 f:List T.q->ap ps->List T.q×aa rs
 ok:List T.q->ap ps->List Prop
section
variable {P:Program} {w w':World} {E:Env} {F F':Nat->Prop} {γ γ':Nat->Value}
def RF(w:World)(d:Ht)(b:Nat)(s:Value)(y:List d.T.q×aa d.rs)(e:Ending)(c:World):Prop:=
 ∃ u f a,e=.returned u/\c.os=w.os/\c.tape=w.tape/\c.output=w.output/\w.heap.size<=c.heap.size/\(∀ k,k<w.heap.size->k≠b->s.ownBlock≠U k->c.heap[k]?= w.heap[k]?) /\
  c.heap[b]?= U (.cells #[f] d.bt (0,0))/\c.ownsRow 0 d.e d.T.size f y.1.length a/\(∀ g,f.ownBlock=U g->(s.ownBlock=U g\/w.heap.size<=g)/\g≠b) /\
  cy c (λ_=>False) d.T y.1 a/\(∀ u∈a,u.oneCell'=Z)/\f.oneCell'=Z/\jF c (λ_=>False) d.rs y.2 u
structure SoundHt (P:Program) (f:FuncId) (ht:Ht):Prop where
 lt:ht.e<cJ
 flat:ht.T.flat=true
 flats:ht.rs.all Ty.flat=true
 enters:∀ args w,(callFunc f args).run P w=.ok (.enter f args) w
 calls:∀ (w:World) (F:Nat->Prop) (l:List ht.T.q) (xs:ap ht.ps) (b:Nat) (s:Value) (vs rows:List Value),(∀ b,F b->b<w.heap.size)->w.heap[b]?= some (.cells #[s] ht.bt (0,0))->¬ F b ->
  w.ownsRow 0 ht.e ht.T.size s l.length rows->(∀ g,s.ownBlock=some g->¬ F g/\g≠b)->cy w F ht.T l rows->(∀ u∈rows,u.oneCell'=true)->dm P w F ht.ps xs vs->az (ht.ok l xs) ->
  Calls P f (.iface ht.pt (.pointer (some ⟨b,0,none⟩))::vs).toArray w (RF w ht b s (ht.f l xs))
def xO(p:Gm)(f:FuncId)(a:Ht)(d:Nat)(g:FuncId)(b:List AV)(s:St):Option Tr:=
 if g=f then match b with
  |.c (.ifp m id)::i=>match fe s.mem i with
   |some (o,u)=>match aB s.mem u id with
    |some (.box k [.own r])=>match aB s.mem u r,aB s.mem u d with
     |some (.arr e t l),V=>if h:t=a.T then if e=a.e/\m=a.pt/\k=a.bt then match lm p a.ps o with
       |some (x,n)=>U (needL (n++a.ok (cY h l) x) (.leaf (.val (lq a.rs (a.f (cY h l) x).2)) ⟨s.n,s.sl,aB (aB s.mem u) [(r,.gone),(d,.arr a.e a.T (a.f (cY h l) x).1),(id,.box a.bt [.own d])],s.gs⟩))
       |none=>V
      else V else V
     |_,_=>V
    |_=>V
   |none=>V
  |_=>V
 else V
def Gk{Γ:Gm}(hΓ:io P Γ){c:Ht}(h:SoundHt P f c):jC P (xO Γ f c):=by
 intro d g args s t m;unfold xO at m;split at m<;>try trivial
 rename_i L;subst L;split at m<;>try trivial
 rename_i pt id rest;split at m<;>try trivial
 rename_i xs u hrs;split at m<;>try trivial
 rename_i bt r p;split at m<;>try trivial
 rename_i e ty l hr hd;split at m<;>try trivial
 rename_i hty;split at m<;>try trivial
 rename_i hc;obtain⟨rfl,rfl,rfl⟩:=hc;split at m<;>try trivial
 rename_i x n hdec;cases m;subst hty;refine⟨h.enters,λE a w F C vs Q z D hq=>?_⟩;obtain⟨hn,hqv⟩:=lz _ hq;obtain⟨hn1,hn2⟩:=lj.1 hn;cases vs with
 |nil=>exact D.elim
 |cons v vs=>
  obtain⟨⟨_,b0,hv1,rfl⟩,D⟩:=D;obtain⟨F1,s1,m1,_,r1⟩:=ke z.mem (eE z) (dM.of λ_ _ h=>h) hrs D;have hps:=pI hΓ hdec hn1 r1;generalize hM:aB s.mem u=M at *;obtain⟨b,arr,k1,k2,k3,k4,k5,k6⟩:=m1.ob id _ p;have hb0:b0=b:=by have K:av M C id (.pointer (U ⟨b0,0,V⟩)):=s1.hR id _ hv1;unfold av at K;rw[p]at K;have h3:Value.pointer (U ⟨b0,0,V⟩)=C id:=K;rw[k1]at h3;cases h3;rfl
  subst hb0;obtain⟨⟨sv,z1,z2,z3⟩,_⟩:=k6;have hsv:sv=C r:=fV hr (by simp) z3;subst hsv;have fU:arr = #[C r]:=by
   refine uci λj=>?_;cases j with
   |zero=>simpa using z1
   |succ j=>have:arr.size=1:=k5;rw[ua1 (by omega),ua1 (by simp)]
  subst fU;obtain⟨rows,o1,o2,o3,o4⟩:=iT.of (m1.ob r _ hr) h.lt;have hrid:r≠id:=by rintro rfl;rw[hr]at p;cases p
  have y:d≠id:=by rintro rfl;rw[hd]at p;cases p
  have hdr:d≠r:=by rintro rfl;rw[hd]at hr;cases hr
  have hgb:∀ g,(C r).ownBlock=U g->g≠b0:=λg L he=>m1.apart r id _ _ g hrid hr p (.inl L) ⟨_,k1,he.symm⟩;have hblk:∀ g,(C r).ownBlock=U g->E.B<=g/\g<w.heap.size:=λg L=>o1.lt g L;have hc:=h.calls w F1 l x b0 (C r) vs rows s1.bd k2 k3 (uR o1 (λ_ _=>ufh _)) (λg L=>⟨o2 g L,hgb g L⟩) o3 o4 hps hn2;refine hc.mono λen w2 hp=>?_;obtain⟨u2,W,rows2,rfl,p1,p2,p3,p4,p5,p6,p7,p8,p9,p10,p11,p12⟩:=hp;have hBs:=qA z;have S:∀ j,aB M [(r,Ob.gone),(d,.arr c.e c.T (c.f l x).1),(id,.box c.bt [.own d])] j=if j=id then U (.box c.bt [.own d])else if j=d then U (.arr c.e c.T (c.f l x).1)else if j=r then U .gone else M j:=λj=>by simp only[aB,upd]
  have A:∀ k,k<w.heap.size->k≠b0->(C r).ownBlock≠U k->w2.heap[k]?= w.heap[k]? := p5;have hFk:∀ k,F1 k->w2.heap[k]?= w.heap[k]? := λk m=>A k (s1.bd k m) (λe=>k3 (e ▸ m)) (λe=>o2 k e m);have hR:∀ i v',av M C i v'->av (aB M [(r,Ob.gone),(d,.arr c.e c.T (c.f l x).1),(id,.box c.bt [.own d])]) (dG C d W) i v':=λi v' H=>by unfold av at H |-;rw[S];by_cases h1:i=id;subst h1;rw[p]at H;rw[ufw rfl,ga _ _ y.symm];exact H;rw[ufx h1];by_cases K:i=d;subst K;rw[hd]at H;exact H.elim;rw[ufx K];by_cases h3:i=r;rw[ufw h3];trivial;rw[ufx h3,ga _ _ K];exact H
  have O:∀ i o,(i=id\/i=d\/i=r)->aB M [(r,Ob.gone),(d,.arr c.e c.T (c.f l x).1),(id,.box c.bt [.own d])] i=U o->(i=id/\o=.box c.bt [.own d])\/(i=d/\o=.arr c.e c.T (c.f l x).1)\/o=.gone:=λi o hs N=>by rw[S]at N;by_cases h1:i=id;rw[ufw h1]at N;exact .inl ⟨h1,(ud4 N).symm⟩;rw[ufx h1]at N;by_cases K:i=d;rw[ufw K]at N;exact .inr (.inl ⟨K,(ud4 N).symm⟩);rw[ufx K,ufw ((hs.resolve_left h1).resolve_left K)]at N;exact .inr (.inr (ud4 N).symm)
  have hnm:=qg p7;have hB2:∀ g,W.ownBlock=U g->E.B<=g:=λg L=>(p8 g L).1.elim (λh=>(hblk g h).1) (λh=>by omega);have hF2:∀ g,W.ownBlock=U g->¬ F1 g:=λg L hF=>(p8 g L).1.elim (λh=>o2 g h hF) (λh=>by have:=s1.bd g hF;omega);have s2:Step E.B w F1 C M w2 F1 (dG C d W) (aB M [(r,Ob.gone),(d,.arr c.e c.T (c.f l x).1),(id,.box c.bt [.own d])]):=
   ⟨λ_ h=>h,hFk,hR,λk m=>A k (by omega) (λe=>by omega) (λe=>by have:=(hblk k e).1;omega),p1,p2,p3,p4,λk m=>ucb (s1.bd k m) p4,λ_ h=>.inl h⟩
  have m2:MemOK P E.B w2 F1 (dG C d W) (aB M [(r,Ob.gone),(d,.arr c.e c.T (c.f l x).1),(id,.box c.bt [.own d])]):=by
   refine m1.re (λi=>i=id\/i=d\/i=r) (λi z=>?_) (λi z=>ga _ _ (λe=>z (.inr (.inl e)))) hFk hR (λk m hno=>A k m (λe=>hno id _ (.inl rfl) p ⟨_,k1,e.symm⟩) (λe=>hno r _ (.inr (.inr rfl)) hr (.inl e))) ?_ ?_ ?_;rw[S,ufx (λe=>z (.inl e)),ufx (λe=>z (.inr (.inl e))),ufx (λe=>z (.inr (.inr e)))];intro i o hs N;rcases O i o hs N with ⟨rfl,rfl⟩|⟨rfl,rfl⟩|rfl
   rw[ga _ _ y.symm];refine⟨b0,#[W],k1,p6,k3,k4,rfl,⟨W,rfl,p11,?_⟩,uT⟩;simp only[bx];unfold av;rw[S,ufx y,ufw rfl,ig];rw[ig];exact .inl ⟨h.lt,rows2,uR p7 hB2,hF2,p9.flat h.flat,p10⟩;trivial;intro i o k hs N m;rcases O i o hs N with ⟨rfl,rfl⟩|⟨rfl,rfl⟩|rfl
   rw[ga _ _ y.symm]at m;exact .inl ⟨i,_,.inl rfl,p,m⟩;rw[ig]at m;exact(p8 k ((oa h.lt hnm).1 m)).1.imp (λh=>⟨r,_,.inr (.inr rfl),hr,.inl h⟩) (λh=>h);exact m.elim;have key:∀ k,cg w2 (.arr c.e c.T (c.f l x).1) W k->¬ cg w2 (.box c.bt [.own d]) (C id) k:=λk m ⟨ad,q1,q2⟩=>by rw[k1]at q1;cases q1;exact(p8 k ((oa h.lt hnm).1 m)).2 q2.symm
   intro i j oi oj k hs hs' hij hoi hoj R G;rcases O i oi hs hoi with ⟨rfl,rfl⟩|⟨rfl,rfl⟩|rfl
   rw[ga _ _ y.symm]at R;rcases O j oj hs' hoj with ⟨rfl,rfl⟩|⟨rfl,rfl⟩|rfl
   exact hij rfl;rw[ig]at G;exact key k G R;exact G;rw[ig]at R;rcases O j oj hs' hoj with ⟨rfl,rfl⟩|⟨rfl,rfl⟩|rfl
   rw[ga _ _ y.symm]at G;exact key k R G;exact hij rfl;exact G;exact R
  have s3:=s1.trans s2;have hinv:InvG P E ⟨s.n,s.sl,aB M [(r,Ob.gone),(d,.arr c.e c.T (c.f l x).1),(id,.box c.bt [.own d])],s.gs⟩ a w2 [] F1 (dG C d W):=by refine⟨z.n,z.df,?_,m2,λt=>(z.sl t).mono s3.hF s3.hw s3.hR,z.hg,λt=>s3.repA (z.gh t)⟩;obtain⟨γ0,h0⟩:=z.step;exact⟨γ0,h0.trans s3⟩
  exact⟨.val (lq c.rs (c.f l x).2),_,F1,_,hqv,hinv,u2,rfl,xq (p12.flat h.flats)⟩
def vM(n:Nat)(d b e:TypeId)(T:Ty)(l:List T.q)(a:List AV):St:=
 ⟨n,λi=>(AV.c (.ifp d (9999))::a).getD i .dead,λi=>if i=9999 then U (.box b [.own (bu 0)])else if i=bu 0 then U (.arr e T l)else V,λi=>if i=0 then .c (.ptr (9999) 0)else .dead⟩
def tS(P:Program)(g:List ResultVar)(d e:TypeId)(T:Ty)(b:List Ty)(s:St):Option (Fr (List T.q×aa b)):=
 match s.gs 0 with
 |.c (.ptr i 0)=>match s.mem i with
  |some (.box a [.own k])=>match s.mem k with
   |some (.arr f t l)=>if h:t=T then if f=e/\a=d then match ji P s g with
     |some (m,n)=>match jp b m with
      |some y=>U (Fr.needL n (.val (cY h l,y)))
      |none=>V
     |none=>V
    else V else V
   |_=>V
  |_=>V
 |_=>V
def kG(P:Program)(d:List ResultVar)(c e:TypeId)(T:Ty)(a:List Ty):Tr->Option (Fr (List T.q×aa a))
 |.leaf .ret s=>tS P d c e T a s
 |.leaf .normal s=>tS P d c e T a s
 |.leaf _ _=>V
 |.br b x y=>match kG P d c e T a x,kG P d c e T a y with
  |some f,U g=>U (.br b f g)
  |_,_=>V
 |.need p x=>match kG P d c e T a x with
  |some f=>U (.need p f)
  |none=>V
 |.two p x y=>match kG P d c e T a x,kG P d c e T a y with
  |some f,U g=>U (.need (p->f.ok/\f.get=g.get) g)
  |_,_=>V
def xH{l:List ResultVar}{k:TypeId}{T:Ty}{g:List Ty}:{t:Tr} -> {f:Fr (List T.q×aa g)}->kG P l k e T g t=U f->f.ok->t.sat λx s=>(x=.ret\/x=.normal)/\∃ n,tS P l k e T g s=U (Fr.needL n (.val f.get))/\az n
 |.leaf x s,f,h,a=>by
  have key:tS P l k e T g s=U f->∃ n,tS P l k e T g s=U (Fr.needL n (.val f.get))/\az n:=λh=>by
   have u:=h;unfold tS at h;split at h<;>try trivial
   split at h<;>try trivial
   split at h<;>try trivial
   split at h<;>try trivial
   split at h<;>try trivial
   split at h<;>try trivial
   split at h<;>try trivial
   cases h;refine⟨_,?_,(yu _ a).1⟩;rw[yq];exact u
  cases x with
  |exit i=>simp[kG]at h
  |panic i=>simp[kG]at h
  |val i=>simp[kG]at h
  |jump i=>simp[kG]at h
  |normal=>exact⟨.inr rfl,key h⟩
  |ret=>exact⟨.inl rfl,key h⟩
 |.br b x y,f,h,a=>by
  simp only[kG]at h;split at h<;>try trivial
  rename_i r w d m;cases h;refine⟨λc=>?_,λc=>?_⟩;have:=xH d (a.1 c);simpa only[Fr.get,c,if_true]using this;have:=xH m (a.2 c);simpa only[Fr.get,c,ub3,uft]using this
 |.need p x,f,h,a=>by
  simp only[kG]at h;split at h<;>try trivial
  rename_i r d;cases h;have:=xH d a.2;exact⟨a.1,this⟩
 |.two p x y,f,h,a=>by
  simp only[kG]at h;split at h<;>try trivial
  rename_i r w d m;cases h;have v:=xH m a.2;refine⟨λo=>?_,v⟩;have:=xH d (a.1 o).1
  rwa [(a.1 o).2]at this
def Ph(P:Program)(C:Cx)(i:Nat->St->Option Tr)(a:Func)(g d e:TypeId)(T:Ty)(b:List PT)(f:List Ty)(l:List T.q)(h:ap b):Option (Fr (List T.q×aa f)):=
 match a.body with
 |some c=>if (a.name == "runtime.NumGoroutine")=Y/\b.length+1<=a.ntmps then match cQ P C 0 i c 0 (vM a.ntmps g d e T l (gk b h))with
   |some t=>kG P a.results.toList d e T f t
   |none=>V
  else V
 |none=>V
def Gl{C:Cx}(hC:CxOK P C){Λ:Nat->St->Option Tr}{fn:Func}{pt bt:TypeId}{T:Ty}{ps:List PT}{rs:List Ty}{fr:List T.q->ap ps->Fr (List T.q×aa rs)}(x0:ap ps)(hf:P.funcs[f]?= U fn)(hΛ:∀ c E,fn.body=U c->co P E Λ c 0)(hrun:∀ l xs,Ph P C Λ fn pt bt e T ps rs l xs=U (fr l xs))(hT:T.flat=true:=by rfl)(hTs:rs.all Ty.flat=true:=by rfl)(m:e<cJ:=by decide):
  SoundHt P f ⟨pt,bt,e,T,ps,rs,λl xs=>(fr l xs).get,λl xs=>[(fr l xs).ok]⟩:=by
 have h0:=hrun [] x0;unfold Ph at h0;split at h0<;>try trivial
 rename_i c hb;split at h0<;>try trivial
 rename_i hc;refine⟨m,hT,hTs,enters hf hb hc.1,λw F l xs b s r rows hbd S hbF K hnF hrows hcell hr hok=>uff hf hb ?_⟩;have N:=hrun l xs;unfold Ph at N;simp only[hb,hc,ufs,if_true]at N;split at N<;>try trivial
 rename_i t ht;have hlen:r.length=ps.length:=v9 hr;have hone:=nj K;have hblt:b<w.heap.size:=(uaf.1 S).1;have hFb:∀ k,F k->(k<w.heap.size/\k≠b/\s.ownBlock≠U k):=λk B=>⟨hbd k B,λh=>hbF (h ▸ B),λh=>(hnF k h).1 B⟩;have hps:dm P w (λk=>k<w.heap.size/\k≠b/\s.ownBlock≠U k) ps xs r:=dm.mono hFb (λ_ _=>rfl) hr;have z:∀ R:Nat->Value->Prop,R (9999) (.pointer (U ⟨b,0,V⟩))->bI P w (λk=>k<w.heap.size/\k≠b/\s.ownBlock≠U k) R (AV.c (.ifp pt (9999))::gk ps xs) (.iface pt (.pointer (U ⟨b,0,V⟩))::r):=λR hR=>⟨⟨rfl,b,hR,rfl⟩,pK hps⟩;have A:9999≠bu 0:=by unfold bu;omega
 have O:I P ⟨w,λk=>k<w.heap.size/\k≠b/\s.ownBlock≠U k,λ_=>.pointer (U ⟨b,0,V⟩),[],0,ufh _⟩ (vM fn.ntmps pt bt e T l (gk ps xs)) { tmps:=(Value.iface pt (.pointer (U ⟨b,0,V⟩))::r).toArray++Array.replicate (fn.ntmps-(Value.iface pt (.pointer (U ⟨b,0,V⟩))::r).length) undef,defers:=[] } w:=by
  have hm1:(vM fn.ntmps pt bt e T l (gk ps xs)).mem (9999)=U (.box bt [.own (bu 0)]):=by simp only[vM,if_true]
  have hm0:(vM fn.ntmps pt bt e T l (gk ps xs)).mem (bu 0)=U (.arr e T l):=by simp only[vM,if_true,ufx A.symm]
  have M:∀ i o,(vM fn.ntmps pt bt e T l (gk ps xs)).mem i=U o->(i=9999/\o=.box bt [.own (bu 0)])\/(i=bu 0/\o=.arr e T l):=λi o ho=>by have H:(if i=9999 then U (Ob.box bt [.own (bu 0)])else if i=bu 0 then U (.arr e T l)else V)=U o:=ho;split at H;rename_i x;cases H;exact .inl ⟨x,rfl⟩;split at H;rename_i x;cases H;exact .inr ⟨x,rfl⟩;cases H
  have hnm:=qg K;refine⟨_,λi=>if i=9999 then .pointer (U ⟨b,0,V⟩)else s,?_,rfl,⟨λ_=>undef,⟨λ_ h=>h,λ_ _=>rfl,λ_ _ h=>h.elim,λk B=>absurd B (Nat.not_lt_zero k),rfl,rfl,rfl,ufb _,λk B=>B.1,λk B=>.inl B⟩⟩,⟨λid o ho=>?_,λi j oi oj k hij L hj D hkj=>?_⟩,λt=>?_,λt g want v ht=>?_,λt=>?_⟩;show _=fn.ntmps;simp only[ucp,ucq,Array.size_replicate,uc9];omega;rcases M id o ho with ⟨rfl,rfl⟩|⟨rfl,rfl⟩
  refine⟨b,#[s],ufw rfl,S,λh=>h.2.1 rfl,ufh _,rfl,⟨s,rfl,hone,?_⟩,uT⟩;simp only[bx];unfold av;rw[hm0];exact(ufx A.symm).symm;refine .inl ⟨m,rows,?_,λg hg h=>?_,hrows.flat hT,hcell⟩;show w.ownsRow 0 e T.size (if bu 0=9999 then _ else s) _ _;rw[ufx A.symm];exact K;have hg':(if bu 0=9999 then Value.pointer (U ⟨b,0,V⟩)else s).ownBlock=U g:=hg;rw[ufx A.symm]at hg';exact h.2.2 hg';have key:cg w (.box bt [.own (bu 0)]) (if 9999=9999 then .pointer (U ⟨b,0,V⟩)else s) k->¬ cg w (.arr e T l) (if bu 0=9999 then .pointer (U ⟨b,0,V⟩)else s) k:=by rw[ufw rfl,ufx A.symm];rintro⟨a,x,h2⟩ h3;cases x;exact(hnF k ((oa m hnm).1 h3)).2 h2.symm
  rcases M i oi L with ⟨rfl,rfl⟩|⟨rfl,rfl⟩
  rcases M j oj hj with ⟨rfl,rfl⟩|⟨rfl,rfl⟩
  exact hij rfl;exact key D hkj;rcases M j oj hj with ⟨rfl,rfl⟩|⟨rfl,rfl⟩
  exact key hkj D;exact hij rfl;have hg:((Value.iface pt (.pointer (U ⟨b,0,V⟩))::r).toArray++Array.replicate (fn.ntmps-(Value.iface pt (.pointer (U ⟨b,0,V⟩))::r).length) undef).getD t undef=(Value.iface pt (.pointer (U ⟨b,0,V⟩))::r).getD t undef:=by
   simp only[uac,uah];rcases ueq t (Value.iface pt (.pointer (U ⟨b,0,V⟩))::r).length with m|hge
   rw[uai (by simpa using m)];simp;rw[uad (by simpa using hge),ua4 hge];simp only[uas];split<;>rfl
  show fw P w _ _ _ ((AV.c (.ifp pt (9999))::gk ps xs).getD t .dead) (((Value.iface pt (.pointer (U ⟨b,0,V⟩))::r).toArray++Array.replicate (fn.ntmps-(Value.iface pt (.pointer (U ⟨b,0,V⟩))::r).length) undef).getD t undef);rw[hg];refine zj (qn (z _ ?_) t);unfold av;rw[hm1];exact(ufw rfl).symm;exfalso;have:=qn (z (λ_ _=>True) trivial) t;have ht':(AV.c (.ifp pt (9999))::gk ps xs).getD t .dead=.maybe g want v:=ht;rw[ht']at this;exact this;show aK P w _ _ (if t=0 then .c (.ptr (9999) 0)else .dead) _;split;refine⟨rfl,b,?_,rfl⟩;unfold av;rw[hm1];exact(ufw rfl).symm;trivial
 have hwp:=iG hC c 0 (hΛ c _ hb) ht (xH N hok) O;have hsz:((Value.iface pt (.pointer (U ⟨b,0,V⟩))::r).toArray).size=(Value.iface pt (.pointer (U ⟨b,0,V⟩))::r).length:=by simp
 rw[hsz];refine wp_mono hwp ?_;rintro ex a' w' ⟨xe,st,rfl,⟨F',Q,L⟩,hxe,n,d,hnn⟩;have W:a'.defers=[]/\∃ u,(results fn a'.tmps).run P w'=.ok u w'/\RF w ⟨pt,bt,e,T,ps,rs,λl xs=>(fr l xs).get,λl xs=>[(fr l xs).ok]⟩ b s (fr l xs).get (.returned u) w':=by
  unfold tS at d;split at d<;>try trivial
  rename_i i hgs;split at d<;>try trivial
  rename_i bt' k p;split at d<;>try trivial
  rename_i e' t' l' G;split at d<;>try trivial
  rename_i hty;split at d<;>try trivial
  rename_i hee;split at d<;>try trivial
  rename_i vs' n' hres;split at d<;>try trivial
  rename_i y hdec;injection d with d
  obtain⟨hn',hy⟩:=yr d hnn;subst hty;obtain⟨rfl,rfl⟩:=hee;obtain⟨us,hran,hreps⟩:=qo L hres hn';obtain⟨γ0,x⟩:=L.step;obtain⟨b2,arr,g1,g2,g3,g4,g5,g6⟩:=L.mem.ob i _ p;have hb2:b2=b:=by
   have h2:=L.gh 0;rw[hgs]at h2;obtain⟨_,b3,h3,h4⟩:=h2;have h5:Value.pointer (U ⟨b3,0,V⟩)=Q i:=by simpa[av,p]using h3
   have h4':Value.pointer (U ⟨b,0,V⟩)=.pointer (U ⟨b3,0,V⟩):=h4;cases h4';rw[g1]at h5;cases h5;rfl
  subst hb2;obtain⟨⟨sv,z1,z2,z3⟩,_⟩:=g6;have hsv:sv=Q k:=fV G (by simp) z3;subst hsv;have fU:arr = #[Q k]:=by
   refine uci λj=>?_;cases j with
   |zero=>simpa using z1
   |succ j=>have:arr.size=1:=g5;rw[ua1 (by omega),ua1 (by simp)]
  subst fU;obtain⟨rows2,q1,q2,q3,q4⟩:=iT.of (L.mem.ob k _ G) m;have D:k≠i:=by rintro rfl;rw[G]at p;cases p
  refine⟨L.df,_,sf hran,_,Q k,rows2,rfl,x.os,x.tape,x.output,x.size,λk B hne hno=>x.hw k ⟨B,hne,hno⟩,g2,?_,λg hg=>⟨?_,λhe=>L.mem.apart k i _ _ g D G p (.inl hg) ⟨_,g1,he.symm⟩⟩,?_,q4,z2,?_⟩;rw[<- hy];exact uR q1 (λ_ _=>ufh _);rcases ueq g w.heap.size with hgl|hgl
  by_cases hso:s.ownBlock=U g;exact .inl hso;exfalso;by_cases hgb:g=b2;exact L.mem.apart k i _ _ g D G p (.inl hg) ⟨_,g1,hgb.symm⟩;exact q2 g hg (x.hF g ⟨hgl,hgb,hso⟩);exact .inr hgl;rw[<- hy];exact q3.flat hT;rw[<- hy];exact(zk (nY hdec hreps)).flat hTs
 rcases hxe with rfl|rfl
 exact W;exact W
def Ff{a:Ht}(h:SoundHt P f a)(g:List a.T.q->ap a.ps->List a.T.q×aa a.rs)(ok:List a.T.q->ap a.ps->List Prop)(t:∀ w F l xs vs,dm P w F a.ps xs vs->l.length<=maxLen->(∀ x∈l,Wf a.T x)->az (ok l xs)->az (a.ok l xs)/\a.f l xs=g l xs):SoundHt P f ⟨a.pt,a.bt,a.e,a.T,a.ps,a.rs,g,ok⟩:=by refine⟨h.lt,h.flat,h.flats,h.enters,λw F l xs b s vs d p v u m r k y c i=>?_⟩;obtain⟨n,o⟩:=t w F l xs vs c (Zh m) (qak k) i;have:=h.calls w F l xs b s vs d p v u m r k y c n;rw[o]at this;exact this
end
def SI(P:Program)(C:Cx)(a:Nat)(Λ:Nat->St->Option Tr)(c:Code):Nat->St->Option Tr
 |0,s=>U (.need False (.leaf .ret s))
 |n+1,s=>match cQ P C (a+(n+1)*100000000) Λ c 0 s with
  |some t=>t.bind (SI P C a Λ c n)
  |none=>V
def zwh{C:Cx}(o:CxOK P C){E:Env}{y:Nat}{r:Nat->St->Option Tr}{c:Code}(f:co P E r c 0):
  (n:Nat)->∀ s t,SI P C y r c n s=U t->∀ Q,t.sat Q->∀ a w,I P E s a w->Code.rounds P c (fR P E Q) n a w
 |0,s,t,h,Q,k,_,_,_=>by cases h;exact k.1.elim
 |n+1,s,t,h,Q,k,a,w,A=>by
  simp only[SI]at h;split at h<;>try trivial
  rename_i F z;refine wp_mono (iG o c 0 f z (vX h k) A) ?_;rintro e x w' ⟨D,g,rfl,b,d⟩;cases D with
  |normal=>obtain⟨u,B,m⟩:=d;exact zwh o f n _ _ B Q m x w' b
  |exit i=>exact⟨.exit i,g,rfl,b,d⟩
  |ret=>exact⟨.ret,g,rfl,b,d⟩
  |panic p=>exact⟨.panic p,g,rfl,b,d⟩
  |val v=>exact⟨.val v,g,rfl,b,d⟩
  |jump l=>exact⟨.jump l,g,rfl,b,d⟩
def zti{C:Cx}(e:CxOK P C){E:Env}{d:Nat}{Λ:Nat->St->Option Tr}{c:Code}(b:co P E Λ c 0):km P E c (SI P C d Λ c n):=
 λs t h Q g a w f=>wp_loop_rounds n (zwh e b n s t h Q g a w f)
section
variable {P:Program} {n l:Nat} {ops:Array Oper} {Q:Exit->Act->World->Prop} {E:Env} {bs:Nat}
end
end Go.Ab
namespace Go.Proofs.YtdadnmgajcfkfaaGreat
open Go Go.Ab Go.RowKit Go.Proofs Tryz
open Go.Ab.Fr renaming val->Jv,need->Jd,br->Jb
abbrev i64:Ty:=.int .i64
abbrev u64:Ty:=.int .u64
abbrev aP:Ty:=.sl i64
abbrev cK:Ty:=.pair i64 (.pair i64 .unit)
abbrev bG:Ty:=.pair aP (.pair aP .unit)
abbrev eV:Ty:=.pair i64 (.pair i64 (.pair i64 (.pair i64 .unit)))
abbrev ar:Ty:=.pair i64 (.pair i64 (.pair i64 (.pair i64 (.pair i64 .unit))))
abbrev aF:Ty:=.pair cK (.pair .bool (.pair eV (.pair (.sl ar) (.pair i64 .unit))))
def Cn:Nat->St->Option Tr:=λ_ _=>V
def C0:Cx:=⟨⟨λ_=>V,λ_=>V⟩,λ_=>V,λ_ _ _ _=>V⟩
def aH:prog.follows .mixedOrders=true:=by kernel_rfl
def vZ:CxOK prog C0:=⟨aH,⟨λ_ _ h=>(nomatch h),λ_ _ h=>(nomatch h)⟩,λ_ _ h=>(nomatch h),λ_ _ _ _ _ h=>(nomatch h)⟩
def oz{E:Env}:(c:Code)->(k:Nat)->co prog E Cn c k
 |.seq a b,k=>⟨oz a k,oz b _⟩
 |.cond _ a b,k=>⟨oz a k,oz b _⟩
 |.block _ c,k=>oz c k
 |.loop _,_=>λ_ _ h=>nomatch h
 |.skip,_=>trivial
 |.ret,_=>trivial
 |.exit _,_=>trivial
 |.region _ _ _,_=>trivial
 |.label _,_=>trivial
 |.goto _,_=>trivial
 |.scope c,k=>oz c k
 |.rangeFunc _ _ _ _,_=>trivial
 |.refuse _,_=>trivial
def plain{C:Cx}(b:CxOK prog C){fn:Func}{ps:List PT}{rs:List Ty}{fr:ap ps->Fr (aa rs)}(h:ap ps)(d:prog.funcs[f]?= U fn)(a:∀ xs,oP prog C Cn fn ps rs xs=U (fr xs))(g:ap ps->aa rs)(ok:ap ps->List Prop)(e:∀ w F xs vs,dm prog w F ps xs vs->az (ok xs)->(fr xs).ok/\(fr xs).get=g xs):ag prog f ⟨ps,rs,g,ok⟩:=
 conv (cF b h d (λc E _=>oz c 0) a) g ok e
def kO(v:Int):Bool:=J (v >= -4000000000000000000)&&J (v<=4000000000000000000)
def Kk:Ct:=⟨[.d i64],[.bool],λx=>(kO x.1,()),λ_=>[]⟩
def zgk:ag prog 235 Kk:=
 plain (ps:=[.d i64]) (rs:=[.bool]) vZ (fn:=f235) (fr:=λx=>Jv (bif J (x.1 >= -4000000000000000000)then J (x.1<=4000000000000000000)else Y,())) (0,()) (by kernel_rfl) (λx=>by kernel_rfl) _ _
  (λ_ _ x _ _ _=>⟨uT,by simp only[Fr.get,kO];cases J (x.1 >= -4000000000000000000)<;>rfl⟩)
def fp(s:cK.q):Bool:=J (s.1>=1)&&(J (s.1<s.2.1)&&J (s.2.1<=292195))
def mw(s:cK.q):Bool:=J (s.1>=1)&&(J (s.1<=s.2.1)&&J (s.2.1<=292195))
def qme:Ct:=⟨[.d cK],[.bool],λx=>(fp x.1,()),λ_=>[]⟩
def lg:Ct:=⟨[.d cK],[.bool],λx=>(mw x.1,()),λ_=>[]⟩
def PK(a b c:Bool):(bif bif a then b else Y then c else Y)=(a&&(b&&c)):=by cases a<;>cases b<;>rfl
def qx7:ag prog 207 qme:=
 plain (ps:=[.d cK]) (rs:=[.bool]) vZ (fn:=f207) (fr:=λx=>Jv (bif bif J (x.1.1>=1)then J (x.1.1<x.1.2.1)else Y then J (x.1.2.1<=292195)else Y,())) ((0,0,()),()) (by kernel_rfl) (λx=>by kernel_rfl) _ _
  (λ_ _ x _ _ _=>⟨uT,by simp only[Fr.get,fp,PK]⟩)
def OQ:ag prog 187 lg:=
 plain (ps:=[.d cK]) (rs:=[.bool]) vZ (fn:=f187) (fr:=λx=>Jv (bif bif J (x.1.1>=1)then J (x.1.1<=x.1.2.1)else Y then J (x.1.2.1<=292195)else Y,())) ((0,0,()),()) (by kernel_rfl) (λx=>by kernel_rfl) _ _
  (λ_ _ x _ _ _=>⟨uT,by simp only[Fr.get,mw,PK]⟩)
def pT(s:aF.q)(e:Int):Bool:=J (s.1.1>=e)&&(J (s.1.1<s.1.2.1)&&(J (s.1.2.1<=292195)&&(J (s.2.2.2.2.1>=0)&&J (s.2.2.2.2.1<=4000000000000000000))))
def t3:Ct:=⟨[.d aF,.d i64],[.bool],λx=>(pT x.1 x.2.1,()),λ_=>[]⟩
def Mn(a b c d e:Bool):(bif bif bif bif a then b else Y then c else Y then d else Y then e else Y)=(a&&(b&&(c&&(d&&e)))):=by cases a<;>cases b<;>cases c<;>cases d<;>rfl
def qx8:ag prog 144 t3:=
 plain (ps:=[.d aF,.d i64]) (rs:=[.bool]) vZ (fn:=f144) (fr:=λx=>Jv (bif bif bif bif J (x.1.1.1>=x.2.1)then J (x.1.1.1<x.1.1.2.1)else Y then J (x.1.1.2.1<=292195)else Y then J (x.1.2.2.2.2.1>=0)else Y then J (x.1.2.2.2.2.1<=4000000000000000000)else Y,()))
  (aF.j,0,()) (by kernel_rfl) (λx=>by kernel_rfl) _ _ (λ_ _ x _ _ _=>⟨uT,by simp only[Fr.get,pT,Mn]⟩)
def la:Ct:=⟨[.d i64],[.bool],λ_=>(Y,()),λ_=>[]⟩
def Yk:ag prog 259 la:=
 plain (ps:=[.d i64]) (rs:=[.bool]) vZ (fn:=f259) (fr:=λx=>Jv (x.1 != x.1,())) (0,()) (by kernel_rfl) (λx=>by kernel_rfl) _ _ (λ_ _ x _ _ _=>⟨uT,by simp[Fr.get]⟩)
def NW:ag prog 224 la:=
 plain (ps:=[.d i64]) (rs:=[.bool]) vZ (fn:=f224) (fr:=λx=>Jv (x.1 != x.1,())) (0,()) (by kernel_rfl) (λx=>by kernel_rfl) _ _ (λ_ _ x _ _ _=>⟨uT,by simp[Fr.get]⟩)
def Γ1:FuncId->Option Ct:=λf=>if f=259 then U la else if f=224 then U la else V
def C1:Cx:=⟨Γ1,λ_=>V,λ_ _ _ _=>V⟩
def Ol{b:FuncId->Option Ct}(h:∀ f a,b f=U a->ag prog f a):CxOK prog ⟨b,λ_=>V,λ_ _ _ _=>V⟩:=
 ⟨aH,⟨h,λ_ _ h=>(nomatch h)⟩,λ_ _ h=>(nomatch h),λ_ _ _ _ _ h=>(nomatch h)⟩
def qem:CxOK prog C1:=Ol λf b h=>by simp only[Γ1]at h;split at h;rename_i a;subst a;cases h;exact Yk;split at h;rename_i a;subst a;cases h;exact NW;cases h
def A6:Ct:=⟨[.d i64,.d i64],[.bool],λx=>(J (x.1<x.2.1),()),λ_=>[]⟩
def X8:ag prog 225 A6:=
 plain (ps:=[.d i64,.d i64]) (rs:=[.bool]) qem (fn:=f225) (fr:=λx=>Jv (bif bif (la.f (x.1,())).1 then !(la.f (x.2.1,())).1 else Y then Z else J (x.1<x.2.1),())) (0,0,()) (by kernel_rfl) (λx=>by kernel_rfl) _ _
  (λ_ _ x _ _ _=>⟨uT,rfl⟩)
abbrev eK:Ty:=.sl aF
def qO(a b:Bool):(bif a then b else Y)=(a&&b):=by cases a<;>rfl
def cV{n:Int}(h : -9223372036854775808<=n/\n<=9223372036854775807):I6.wrap n=n:=IntWalk.i64_in _ h
def gg:Pc:=⟨[.d i64],[],λ_=>(),λx=>!(x.1==0),λx=>⟨38,.i64,x.1⟩,λ_=>[]⟩
def NU:lM prog 141 gg:=by
 refine⟨enters (fn:=f141) (by kernel_rfl) rfl rfl,λw F o p g k _=>?_⟩;obtain⟨v,m,rfl,l,i⟩:=k;cases i;obtain⟨n,_⟩:=o;have e:v=.int .i64 n:=by have h:aK prog w F (λ_ _=>True) (eR i64 n) v:=iH l;exact h.2.1
 subst e;by_cases c:n=0
 ·subst c
  go_enter func141,ntmps141
  go_wp2
  go_end0
  refine .inl ⟨rfl,.tuple #[],F,rfl,ufk _ _,λ_ h=>h,λb h=>⟨.inl h,g b h⟩,#[],rfl,rfl⟩
 ·have d:(n==0)=false:=by simpa using c
  have f:(n != 0)=true:=by simpa using c
  have a:gg.bad (n,())=true:=by show(!(n==0))=Z;rw[d];rfl
  go_enter func141,ntmps141
  go_wp2
  exact⟨rfl,.inr ⟨a,rfl,ufk _ _⟩⟩
def hN(a:Int):Int:=U6.wrap ((Bvo U6.bits a &&& Bvo U6.bits 4294967295).toNat:Int)
def bS(a:Int):Int:=a.fdiv (2 ^ min (Int.toNat 32) U6.bits)
def eF{n:Int}(h:0<=n/\n<=18446744073709551615):U6.wrap n=n:=IntWalk.u64_in _ h
def GG(h:0<=a/\a<=18446744073709551615):hN a=a%4294967296:=by
 obtain⟨n,rfl⟩:∃ n:Nat,a=n:=⟨a.toNat,by omega⟩;unfold hN;have b:(Bvo U6.bits (n:Int) &&& Bvo U6.bits 4294967295).toNat=n%4294967296:=by
  have c:(Bvo U6.bits (n:Int)).toNat=n:=by rw[BitVec.toNat_ofInt];show((n:Int)%((2 ^ 64:Nat):Int)).toNat=n;omega
  have d:(Bvo U6.bits (4294967295:Int)).toNat=2 ^ 32-1:=by decide
  rw[BitVec.toNat_and,c,d,Nat.and_two_pow_sub_one_eq_mod]
 rw[b,eF (by omega)];omega
def Nf:bS a=a/4294967296:=by
 unfold bS;have:(2:Int) ^ min (Int.toNat 32) U6.bits=4294967296:=by decide
 rw[this,uag _ (by decide)]
def yl(x y:Int):Int:=U6.wrap (U6.wrap (bS x*hN y)+bS (U6.wrap (hN x*hN y)))
def qw8(x:ap [.d u64,.d u64]):Fr (aa [u64,u64]):=
 let b:=yl x.1 x.2.1;let a:=¬ (32:Int)<0;Jd a (Jd a (Jd a (Jd a (Jd a
  (Jv (U6.wrap (U6.wrap (U6.wrap (bS x.1*bS x.2.1)+bS b)+bS (U6.wrap (hN b+U6.wrap (hN x.1*bS x.2.1)))),
   U6.wrap (x.1*x.2.1),()))))))
def pu:Ct:=⟨[.d u64,.d u64],[u64,u64],λx=>(x.1*x.2.1/18446744073709551616,x.1*x.2.1%18446744073709551616,()),λ_=>[]⟩
def GY{b n:Int}(d:0<=a/\a<=n)(c:0<=b/\b<=n):0<=a*b/\a*b<=n*n:=
 ⟨uec d.1 c.1,Int.mul_le_mul d.2 c.2 c.1 (by omega)⟩
def zgp(b a d c:Int):(b*4294967296+a)*(d*4294967296+c)=b*d*18446744073709551616+(b*c+a*d)*4294967296+a*c:=by grind
def zgo(m:0<=x/\x<=18446744073709551615)(o:0<=y/\y<=18446744073709551615):
  U6.wrap (U6.wrap (U6.wrap (bS x*bS y)+bS (yl x y))+bS (U6.wrap (hN (yl x y)+U6.wrap (hN x*bS y))))=x*y/18446744073709551616:=by
 have ex:x=x/4294967296*4294967296+x%4294967296:=by omega
 have l:y=y/4294967296*4294967296+y%4294967296:=by omega
 have k:=zgp (x/4294967296) (x%4294967296) (y/4294967296) (y%4294967296);rw[<- ex,<- l]at k;rw[k];unfold yl;rw[GG m,GG o];simp only[Nf];have f:0<=x/4294967296/\x/4294967296<=4294967295:=by omega
 have g:0<=x%4294967296/\x%4294967296<=4294967295:=by omega
 have h:0<=y/4294967296/\y/4294967296<=4294967295:=by omega
 have i:0<=y%4294967296/\y%4294967296<=4294967295:=by omega
 have t:=GY f h;have s:=GY f i;have r:=GY g h;have p:=GY g i;clear k ex l f g h i;generalize x/4294967296*(y/4294967296)=e at *;generalize x/4294967296*(y%4294967296)=c at *;generalize x%4294967296*(y/4294967296)=d at *;generalize x%4294967296*(y%4294967296)=b at *;rw[eF (n:=e) (by omega),eF (n:=c) (by omega),eF (n:=d) (by omega),eF (n:=b) (by omega),eF (n:=c+b/4294967296) (by omega),GG (a:=c+b/4294967296) (by omega),
  eF (n:=(c+b/4294967296)%4294967296+d) (by omega)]
 rw[eF (n:=e+(c+b/4294967296)/4294967296) (by omega),eF (by omega)];omega
def s6{n:Int}(h:bJ w F u64 n v):0<=n/\n<=18446744073709551615:=h.2.2.2
def xP{n:Int}(h:bJ w F i64 n v): -9223372036854775808<=n/\n<=9223372036854775807:=h.2.2.2
def NT:ag prog 239 pu:=
 flat (ps:=[.d u64,.d u64]) (rs:=[u64,u64]) (aQ (cs:=[]) (ps:=[]) aH trivial trivial) (fn:=f239) (fr:=qw8) (0,0,()) (by kernel_rfl) (λx=>by kernel_rfl) _ _
  (λw F x o h _=>by
   obtain⟨a,b,u⟩:=x;obtain⟨m,k,rfl,f,n,l,rfl,g,_⟩:=h;have c:=s6 f;have e:=s6 g;refine⟨⟨by decide,by decide,by decide,by decide,by decide,uT⟩,?_⟩;show(U6.wrap (U6.wrap (U6.wrap (bS a*bS b)+bS (yl a b))+bS (U6.wrap (hN (yl a b)+U6.wrap (hN a*bS b)))),U6.wrap (a*b),())=(a*b/18446744073709551616,a*b%18446744073709551616,());have i:U6.wrap (a*b)=a*b%18446744073709551616:=by rw[IntKind.wrap_u64]
   rw[zgo c e,i])
def My(x:ap [.d u64,.d u64,.d u64]):Fr (aa [u64,u64]):=
 let a:=x.2.2.1;Jb (a==0) (Jd False (Jv (0,0,())))
  (Jb (J (a<=x.1)) (Jd False (Jv (0,0,())))
   (Jb (x.1==0) (Jd (a≠0) (Jd (a≠0) (Jv (U6.wrap (x.2.1.tdiv a),x.2.1.tmod a,()))))
    (Jd False (Jv (0,0,())))))
def Ez:Ct:=⟨[.d u64,.d u64,.d u64],[u64,u64],λx=>(x.2.1/x.2.2.1,x.2.1%x.2.2.1,()),λx=>[x.1=0,0<x.2.2.1]⟩
def qqq{a:Int}(d:0<=a/\a<=18446744073709551615)(h:0<y):(My (0,a,y,())).ok/\(My (0,a,y,())).get=(a/y,a%y,()):=by
 have e:(y==0)=false:=by simp;omega
 have f:J (y<=(0:Int))=false:=by simp;omega
 have g:y≠0:=by omega
 refine⟨⟨λc=>?_,λ_=>⟨λc=>?_,λ_=>⟨λ_=>⟨g,g,uT⟩,λc=>by cases c⟩⟩⟩,?_⟩;have b:(y==0)=true:=c;rw[e]at b;cases b;have b:J (y<=(0:Int))=true:=c;rw[f]at b;cases b;show(if (y==0)=Z then ((0:Int),(0:Int),())else if J (y<=(0:Int))=Z then ((0:Int),(0:Int),())else (U6.wrap (a.tdiv y),a.tmod y,()))=(a/y,a%y,());rw[e,f];simp only[ub3,uft];rw[IntWalk.u64_quo a y ⟨d.1,d.2,by omega⟩,IntWalk.rem_in a y d.1]
def qqp:ag prog 240 Ez:=
 flat (ps:=[.d u64,.d u64,.d u64]) (rs:=[u64,u64]) (aQ (cs:=[]) (ps:=[]) aH trivial trivial) (fn:=f240) (fr:=My) (0,0,0,()) (by kernel_rfl) (λx=>by kernel_rfl) _ _
  (λw F x t g b=>by obtain⟨f,o,y,u⟩:=x;obtain⟨p,i,rfl,m,r,k,rfl,c,s,l,rfl,n,_⟩:=g;obtain⟨e,h⟩:=b;have a:f=0:=e;subst a;exact qqq (s6 c) h)
def Ec:FuncId->Option (Func×(Nat->St->Option Tr)):=cR [(238,(f238,bK))]
def Ed:FuncId->Option (Func×(Nat->St->Option Tr)):=cR [(210,(f210,bK)),(209,(f209,bK))]
abbrev Ej:List (FuncId×Ct):=[(239,pu),(240,Ez)]
def J7:kj prog Ej:=⟨NT,qqp,uT⟩
def Q0:Cx:=cx Ej []
def Q1:Cx:=dI Ej [] (iJ prog Q0 Ec)
def CN3:Cx:=dI Ej [] (iJ prog Q1 Ed)
def qfq:CxOK prog Q0:=aQ aH J7 trivial
def RQ:∀ f fn Λ,Ec f=some (fn,Λ)->prog.funcs[f]?= some fn/\∀ c E',fn.body=some c->co prog E' Λ c 0:=λf fn Λ h=>by
 simp only[Ec,cR]at h;split at h;rename_i hf;subst hf;cases h;exact⟨by kernel_rfl,λc E' _=>bm c 0⟩;cases h
def qfr:CxOK prog Q1:=dP aH J7 trivial (jt qfq RQ)
def RR:∀ f fn d,Ed f=U (fn,d)->prog.funcs[f]?= U fn/\∀ c a,fn.body=U c->co prog a d c 0:=λf fn d h=>by simp only[Ed,cR]at h;split at h;rename_i b;subst b;cases h;exact⟨by kernel_rfl,λc a _=>bm c 0⟩;split at h;rename_i b;subst b;cases h;exact⟨by kernel_rfl,λc a _=>bm c 0⟩;cases h
def qft:CxOK prog CN3:=dP aH J7 trivial (jt qfr RR)
def pM(q:Int):Fr (aa [i64,i64]):=Jb (J (q>4000000000000000000)) (Jv (0,5,())) (Jv (I6.wrap q,0,()))
def rq(q r c:Int):Fr (aa [i64,i64]):=
 Jb (J (q>4000000000000000000)) (Jv (0,5,()))
  (Jd ((r==U6.wrap (c-r))=Z->J (r>U6.wrap (c-r))=Y->(2:Int)≠0)
   (Jb (bif J (r>U6.wrap (c-r))then Z else bif r==U6.wrap (c-r)then q.tmod 2==1 else Y) (pM (U6.wrap (q+1))) (pM q)))
def Ux(h l c:Int):Fr (aa [i64,i64]):=
 Jb (decide (h>=c)) (Jv (0,5,())) (Jd (h=0) (Jd (0<c) (rq (Ez.f (h,l,c,())).1 (Ez.f (h,l,c,())).2.1 c)))
def FP(x:ap [.d i64,.d i64,.d i64]):Fr (aa [i64,i64]):=
 let a:=pu.f (U6.wrap x.1,U6.wrap x.2.1,());Jb (bif bif J (x.1<0)then Z else J (x.2.1<0)then Z else J (x.2.2.1<0)) (Jv (0,1,()))
  (Jb (x.2.2.1==0) (Jv (0,6,()))
   (Ux a.1 a.2.1 (U6.wrap x.2.2.1)))
def lY(p c:Int):Int:=if p%c>c-p%c\/(p%c=c-p%c/\p/c%2=1)then p/c+1 else p/c
def du(a b c:Int):Int×Int:=if a<0\/b<0\/c<0 then (0,1)else if c=0 then (0,6)else if lY (a*b) c>4000000000000000000 then (0,5)else (lY (a*b) c,0)
def Sr(a b c:Bool):(bif bif a then Z else b then Z else c)=(a || (b || c)):=by cases a<;>cases b<;>rfl
def Uy{q:Int}(h:0<=q):(pM q).ok/\(pM q).get=if q>4000000000000000000 then (0,5,())else (q,0,()):=by refine⟨⟨λ_=>uT,λ_=>uT⟩,?_⟩;show(if J (q>4000000000000000000)=Z then ((0:Int),(5:Int),())else (I6.wrap q,(0:Int),()))=_;by_cases a:q>4000000000000000000;rw[ufw (by simpa using a),ufw a];have b:I6.wrap q=q:=cV (by omega);rw[ufx (by simpa using a),ufx a,b]
def U0{q r c:Int}(o:0<=r/\r<c)(n:c<=9223372036854775807)(k:0<=q):
  (rq q r c).ok/\(rq q r c).get=if (if r>c-r\/(r=c-r/\q%2=1)then q+1 else q)>4000000000000000000 then (0,5,())else ((if r>c-r\/(r=c-r/\q%2=1)then q+1 else q),0,()):=by
 have m:U6.wrap (c-r)=c-r:=eF (by omega);have l:q.tmod 2=q%2:=Int.tmod_eq_emod_of_nonneg k;unfold rq;rw[m,l];by_cases g:q>4000000000000000000;have b:J (q>4000000000000000000)=true:=by simpa using g
 refine⟨⟨λ_=>uT,λi=>by rw[b]at i;cases i⟩,?_⟩;show(if J (q>4000000000000000000)=Z then ((0:Int),(5:Int),())else _)=_;rw[b,ufw rfl,ufw];split<;>omega
 have b:J (q>4000000000000000000)=false:=by simpa using g
 have a:(bif J (r>c-r)then Z else bif r==c-r then q%2==1 else Y)=J (r>c-r\/(r=c-r/\q%2=1)):=by rw[udy];simp
 rw[a];have d:U6.wrap (q+1)=q+1:=eF (by omega);rw[d];have e:=Uy (q:=q+1) (by omega);have f:=Uy k;refine⟨⟨λ_=>uT,λ_=>⟨λ_ _=>by decide,λ_=>e.1,λ_=>f.1⟩⟩,?_⟩;show(if J (q>4000000000000000000)=Z then ((0:Int),(5:Int),())else if J (r>c-r\/(r=c-r/\q%2=1))=Z then (pM (q+1)).get else (pM q).get)=_;rw[b,ufx (by decide),e.2,f.2];by_cases h:r>c-r\/(r=c-r/\q%2=1);simp only[h,decide_true,if_true];simp only[h,decide_false,uft,ub3]
def qse{b c:Int}(w : -9223372036854775808<=a/\a<=9223372036854775807)(x : -9223372036854775808<=b/\b<=9223372036854775807)(v : -9223372036854775808<=c/\c<=9223372036854775807)(y:0<=a->0<=b->a*b<18446744073709551616):(FP (a,b,c,())).ok/\(FP (a,b,c,())).get=((du a b c).1,(du a b c).2,()):=by
 unfold FP;simp only[Sr];by_cases i:a<0\/b<0\/c<0;have n:(J (a<0) || (J (b<0) || J (c<0)))=true:=by simpa using i
 rw[n];refine⟨⟨λ_=>uT,λd=>by cases d⟩,?_⟩;unfold du;rw[ufw i];rfl;have n:(J (a<0) || (J (b<0) || J (c<0)))=false:=by simpa using i
 rw[n];have k:0<=a:=by omega
 have l:0<=b:=by omega
 have m:0<=c:=by omega
 have g:=uec k l;rw[show U6.wrap a=a from eF (by omega),show U6.wrap b=b from eF (by omega),show U6.wrap c=c from eF (by omega)];have t:(pu.f (a,b,())).1=0:=by show a*b/18446744073709551616=0;omega
 have u:(pu.f (a,b,())).2.1=a*b:=by show a*b%18446744073709551616=a*b;omega
 rw[t,u];unfold du;rw[ufx i];by_cases p:c=0;subst p;refine⟨⟨λd=>(by cases d),λ_=>⟨λ_=>uT,λd=>by cases d⟩⟩,rfl⟩;have s:(c==0)=false:=by simpa using p
 rw[ufx p,s];have e:0<c:=by omega
 have o:J ((0:Int)>=c)=false:=by simpa using e
 have h:=U0 (r:=a*b%c) ⟨Int.emod_nonneg _ (by omega),Int.emod_lt_of_pos _ e⟩ v.2 (udl g m);unfold Ux;rw[o];refine⟨⟨λd=>(by cases d),λ_=>⟨λd=>(by cases d),λ_=>⟨λd=>(by cases d),λ_=>⟨rfl,e,h.1⟩⟩⟩⟩,?_⟩;show(rq (a*b/c) (a*b%c) c).get=_;rw[h.2];unfold lY;generalize (if a*b%c>c-a*b%c\/a*b%c=c-a*b%c/\a*b/c%2=1 then a*b/c+1 else a*b/c)=z;split<;>rfl
def tz:Ct:=⟨[.d i64,.d i64,.d i64],[i64,i64],λx=>((du x.1 x.2.1 x.2.2.1).1,(du x.1 x.2.1 x.2.2.1).2,()),λx=>[0<=x.1->0<=x.2.1->x.1*x.2.1<18446744073709551616]⟩
def qsd:ag prog 142 tz:=
 flat (ps:=[.d i64,.d i64,.d i64]) (rs:=[i64,i64]) qft (fn:=f142) (fr:=FP) (0,0,0,()) (by kernel_rfl) (λx=>by kernel_rfl) _ _
  (λw F x r i e=>by obtain⟨a,b,c,u⟩:=x;obtain⟨n,k,rfl,f,o,l,rfl,g,p,m,rfl,h,_⟩:=i;exact qse (xP f) (xP g) (xP h) e)
def vV:Fr α->Fr α
 |.br Z x _=>vV x
 |.br Y _ y=>vV y
 |.need p x=>.need p (vV x)
 |.val v=>.val v
def IA:{f:Fr α}->(vV f).ok->f.ok/\f.get=(vV f).get
 |.br Z x _,h=>by have:=IA (f:=x) h;exact⟨⟨λ_=>this.1,λa=>(by cases a)⟩,this.2⟩
 |.br Y _ y,h=>by have:=IA (f:=y) h;exact⟨⟨λa=>(by cases a),λ_=>this.1⟩,this.2⟩
 |.need _ x,h=>by have:=IA h.2;exact⟨⟨h.1,this.1⟩,this.2⟩
 |.val _,_=>⟨uT,rfl⟩
def zsc{f g:Fr α}(h:vV f=g)(a:g.ok):f.ok/\f.get=g.get:=by subst h;exact IA a
def dz{ps:List PT}{rs:List Ty}{fr:ap ps->Fr (aa rs)}(h:ag P f (bg ps rs fr))(g:ap ps->aa rs)(ok:ap ps->List Prop)(a:∀ w F xs vs,dm P w F ps xs vs->az (ok xs)->(fr xs).ok/\(fr xs).get=g xs):ag P f ⟨ps,rs,g,ok⟩:=
 conv h g ok a
def qw6(x:ap [.d u64]):Fr (aa [i64]):=(oP prog (cx [] []) bK f260 [.d u64] [i64] x).getD (Jd False (Jv (0,())))
def qw7:vV (qw6 (10000,()))=Jd (¬ (8:Int)<0) (Jd (0<=(39:Int)/\(39:Int)<((256:Nat):Int)) (Jv (14,()))):=by kernel_rfl
def Kg:Ct:=⟨[.d u64],[i64],λ_=>(14,()),λx=>[x.1=10000]⟩
def zcr:ag prog 260 Kg:=
 dz (aT (aQ (cs:=[]) (ps:=[]) aH trivial trivial) f260) _ _
  (λw F x c _ a=>by obtain⟨n,_⟩:=x;have b:=a;subst b;exact zsc qw7 ⟨by decide,⟨by decide,by decide⟩,uT⟩)
def SJ:Ct:=⟨[.d u64],[i64],λ_=>(50,()),λx=>[x.1=10000]⟩
def zf5:ag prog 253 SJ:=
 conv (aT (aQ (cs:=[(260,Kg)]) (ps:=[]) aH ⟨zcr,uT⟩ trivial) f253 (fr:=λx=>Jd (x.1=10000) (Jv (I6.wrap (64-(Kg.f (x.1,())).1),()))) (ps:=[.d u64])) _ _
  (λw F x b _ a=>⟨⟨a,uT⟩,rfl⟩)
abbrev dU:PT:=.d u64
def qF:LS:=⟨[(2,dU),(8,dU),(9,dU),(10,dU),(11,dU),(13,dU),(14,dU),(15,dU),(16,dU)],[]⟩
def qH:LS:=⟨[(2,dU),(8,dU),(9,dU),(10,dU),(13,dU),(14,dU),(15,dU),(16,dU),(17,dU),(18,dU)],[]⟩
def yD:Pt:=⟨135,0,qF,qF,⟨[],[]⟩⟩
def yE:Pt:=⟨135,2,qH,qH,⟨[],[]⟩⟩
def kP(q a r u:Int):Bool:=bif J (q>=4294967296)then Z else J (U6.wrap (q*a)>U6.wrap (U6.wrap (4294967296*r)+u))
def U4(x:qF.X):Fr yD.Out:=
 match x with
 |((y,s,a,b,c,d,e,q,r,_),_)=>Jb (kP q b r d)
  (Jb (J (U6.wrap (r+a)>=4294967296))
   (Jv (Rd.out ((y,s,a,b,c,d,e,U6.wrap (q-1),U6.wrap (r+a),()),())))
   (Jv (Rd.next ((y,s,a,b,c,d,e,U6.wrap (q-1),U6.wrap (r+a),()),()))))
  (Jv (Rd.out ((y,s,a,b,c,d,e,q,r,()),())))
def U5(x:qH.X):Fr yE.Out:=
 match x with
 |((y,s,a,b,d,e,q,r,u,v,_),_)=>Jb (kP v b r e)
  (Jb (J (U6.wrap (r+a)>=4294967296))
   (Jv (Rd.out ((y,s,a,b,d,e,q,U6.wrap (r+a),u,U6.wrap (v-1),()),())))
   (Jv (Rd.next ((y,s,a,b,d,e,q,U6.wrap (r+a),u,U6.wrap (v-1),()),()))))
  (Jv (Rd.out ((y,s,a,b,d,e,q,r,u,v,()),())))
def FD0(x:qF.X):Fr yD.Out:=Jd (kP x.1.2.2.2.2.2.2.2.1 x.1.2.2.2.1 x.1.2.2.2.2.2.2.2.2.1 x.1.2.2.2.2.2.1=Y) (Jv (.out x))
def FD2(x:qH.X):Fr yE.Out:=Jd (kP x.1.2.2.2.2.2.2.2.2.2.1 x.1.2.2.2.1 x.1.2.2.2.2.2.2.2.1 x.1.2.2.2.2.2.1=Y) (Jv (.out x))
def CD:Cx:=cx [(253,SJ)] []
def IH:CxOK prog CD:=aQ aH ⟨zf5,uT⟩ trivial
def zmo:af prog (au f240 0) qF yD U4:=af.of_run IH (bs:=0) rfl rfl rfl (λ_=>bm _ 0) (λx=>by kernel_rfl)
def zmp:af prog (au f240 1) qH yE U5:=af.of_run IH (bs:=0) rfl rfl rfl (λ_=>bm _ 0) (λx=>by kernel_rfl)
def qq8:af prog (.loop (au f240 0)) qF yD FD0:=
 af.loop zmo (μ:=λ_=>0)
  (by rintro⟨⟨y,s,a,b,c,d,e,q,r,_⟩,_⟩ f Q g;exact⟨λh=>(by rw[show kP q b r d=Y from f]at h;cases h),λ_=>g.2⟩)
  (λx Q h=>h.1)
def qq9:af prog (.loop (au f240 1)) qH yE FD2:=
 af.loop zmp (μ:=λ_=>0)
  (by rintro⟨⟨y,s,a,b,d,e,q,r,u,v,_⟩,_⟩ c Q f;exact⟨λh=>(by rw[show kP v b r e=Y from c]at h;cases h),λ_=>f.2⟩)
  (λx Q h=>h.1)
abbrev wU(n:Int):Int:=U6.wrap n
def fM(a:Int):Int:=wU (a*2 ^ min (wU 50).toNat U6.bits)
def nW(a b:Int):Int:=wU ((Bvo U6.bits (fM a) ||| Bvo U6.bits (b.fdiv (2 ^ min (wU (64-wU 50)).toNat U6.bits))).toNat:Int)
def dQ(u y:Int):Int:=wU (u.tdiv (bS (fM y)))
def dR(u y:Int):Int:=wU (u-wU (dQ u y*bS (fM y)))
def pF(b a y:Int):Int:=wU (wU (wU (nW b a*4294967296)+bS (fM a))-wU (dQ (nW b a) y*fM y))
def qw2(f e y:Int):Fr (aa [u64,u64]):=
 let k:=¬ (32:Int)<0;let h:=hN (fM y);let g:=bS (fM y)≠0;let d:=fM e;let c:=nW f e;let b:=¬ wU 50<0;let a:=pF f e y;Jd (y=10000) (Jd b (Jd k (Jd b (Jd (¬ wU (64-wU 50)<0) (Jd b (Jd k
  (Jd g
   (Jd (kP (dQ c y) h (dR c y) (bS d)=Y)
    (Jd g
     (Jd (kP (dQ a y) h (dR a y) (hN d)=Y)
      (Jd b
       (Jv (wU (wU (dQ c y*4294967296)+dQ a y),
        (wU (wU (wU (pF f e y*4294967296)+hN d)-wU (dQ a y*fM y))).fdiv (2 ^ min (wU 50).toNat U6.bits),())))))))))))))
def Bu(x:ap [dU,dU,dU]):Fr (aa [u64,u64]):=
 let a:=x.2.2.1;Jb (a==0) (Jd False (Jv (0,0,())))
  (Jb (J (a<=x.1)) (Jd False (Jv (0,0,())))
   (Jb (x.1==0) (Jd (a≠0) (Jd (a≠0) (Jv (U6.wrap (x.2.1.tdiv a),x.2.1.tmod a,()))))
    (qw2 x.1 x.2.1 a)))
def aN{b:Bool}{x y:Fr α}{v:α}(a:b=Y)(h:y.ok/\y.get=v):(Jb b x y).ok/\(Jb b x y).get=v:=by subst a;exact⟨⟨λh=>(by cases h),λ_=>h.1⟩,h.2⟩
def aV{b:Bool}{x y:Fr α}{v:α}(a:b=Z)(h:x.ok/\x.get=v):(Jb b x y).ok/\(Jb b x y).get=v:=by subst a;exact⟨⟨λ_=>h.1,λh=>(by cases h)⟩,h.2⟩
def aw{x:Fr α}{v:α}(a:p)(h:x.ok/\x.get=v):(Jd p x).ok/\(Jd p x).get=v:=⟨⟨a,h.1⟩,h.2⟩
def qqr:ag prog 240 (bg [dU,dU,dU] [u64,u64] Bu):=
 oc IH qq8 qq9
def qbb:fM a=wU (a*1125899906842624):=by
 have b:wU 50=50:=by decide
 have c:min (50:Int).toNat U6.bits=50:=by decide
 unfold fM;rfl
def zia{b:Int}(g:0<=a)(h:0<=b)(k:b<1125899906842624)(l:a*1125899906842624<18446744073709551616):
  wU ((Bvo U6.bits (a*1125899906842624) ||| Bvo U6.bits b).toNat:Int)=a*1125899906842624+b:=by
 obtain⟨m,rfl⟩:∃ m:Nat,a=m:=⟨a.toNat,by omega⟩;obtain⟨n,rfl⟩:∃ n:Nat,b=n:=⟨b.toNat,by omega⟩;have c:(Bvo U6.bits ((m:Int)*1125899906842624)).toNat=m*1125899906842624:=by show(((m:Int)*1125899906842624)%((2 ^ 64:Nat):Int)).toNat=m*1125899906842624;omega
 have d:(Bvo U6.bits (n:Int)).toNat=n:=by show((n:Int)%((2 ^ 64:Nat):Int)).toNat=n;omega
 have f:(m*1125899906842624 ||| n)=m*1125899906842624+n:=by
  have:=Nat.shiftLeft_add_eq_or_of_lt (i:=50) (b:=n) (by omega) m;rw[Nat.shiftLeft_eq]at this;have e:(2:Nat) ^ 50=1125899906842624:=by decide
  exact this.symm
 rw[BitVec.toNat_or,c,d,f];show U6.wrap _=_;rw[eF (by omega)];omega
def qqo{k e g f d b a h i c:Int}(z:0<=k/\k<10000)(A:0<=e/\e<=18446744073709551615)(t:d=k*1125899906842624+e/16384)(r:b=e*1125899906842624%18446744073709551616)(x:a=b/4294967296)(w:h=b%4294967296)(u:g=d/2621440000)(y:i=d-g*2621440000)(s:c=i*4294967296+a)(gW:f=c/2621440000):
  h=0/\0<=a/\a<4294967296/\0<=g/\g<4294967296/\0<=i/\i<2621440000/\0<=f/\f<4294967296/\g*4294967296+f=(k*18446744073709551616+e)/10000/\(c-f*2621440000)*4294967296/1125899906842624=(k*18446744073709551616+e)%10000:=by
 have v:a=(e%16384)*262144:=by omega
 have p:h=0:=by omega
 have l:0<=a/\a<4294967296:=by omega
 have m:0<=g/\g<4294967296:=by omega
 have n:0<=i/\i<2621440000:=by omega
 have o:0<=f/\f<4294967296:=by omega
 refine⟨p,l.1,l.2,m.1,m.2,n.1,n.2,o.1,o.2,?_,?_⟩;omega;omega
def Yh{q r u:Int}(c:0<=q/\q<4294967296):kP q 0 r u=false:=by
 unfold kP;have a:J (q>=4294967296)=false:=by simp;omega
 rw[a,Int.mul_zero];have b:U6.wrap 0=0:=by decide
 have:0<=U6.wrap (U6.wrap (4294967296*r)+u):=by rw[IntKind.wrap_u64];omega
 simp;omega
def TX{u:Int}(h:0<=u/\u<18446744073709551616):wU (u.tdiv 2621440000)=u/2621440000:=by rw[Int.tdiv_eq_ediv_of_nonneg h.1];exact eF (by omega)
def g1L{a b:Int}(d:0<=a/\a<4294967296)(c:0<=b/\b<4294967296):wU (wU (a*4294967296)+b)=a*4294967296+b:=by rw[show wU (a*4294967296)=a*4294967296 from eF (by omega)];exact eF (by omega)
def g2L{u a:Int}(b:a=u/2621440000)(c:0<=u/\u<18446744073709551616):wU (wU (wU (u*4294967296)+0)-wU (a*11258999068426240000))=(u-a*2621440000)*4294967296:=by simp only[IntKind.wrap_u64];omega
def qrl{u a b:Int}(h:0<=u-a*2621440000/\u-a*2621440000<2621440000)(c:0<=b/\b<4294967296):wU (wU (wU (u*4294967296)+b)-wU (a*11258999068426240000))=(u-a*2621440000)*4294967296+b:=by simp only[IntKind.wrap_u64];omega
def zq6{r a:Int}(h:0<=r/\r<2621440000)(b:0<=a/\a<4294967296):0<=r*4294967296+a/\r*4294967296+a<18446744073709551616:=by omega
def zq7{a b:Int}(c:0<=a/\a<10000)(d:0<=b/\b<=18446744073709551615):0<=a*1125899906842624+b/16384/\a*1125899906842624+b/16384<18446744073709551616:=by omega
def qqn{b a:Int}(H:b≠0)(u:0<=b/\b<10000)(v:0<=a/\a<=18446744073709551615):
  (Bu (b,a,10000,())).ok/\(Bu (b,a,10000,())).get=((b*18446744073709551616+a)/10000,(b*18446744073709551616+a)%10000,()):=by
 have E:fM 10000=11258999068426240000:=by decide
 have d:bS (fM 10000)=2621440000:=by decide
 have f:hN (fM 10000)=0:=by decide
 have D:fM b=b*1125899906842624:=by rw[qbb];exact eF (by omega)
 have t:nW b a=b*1125899906842624+a/16384:=by
  unfold nW;have C:a.fdiv (2 ^ min (wU (64-wU 50)).toNat U6.bits)=a/16384:=by
   have:(2:Int) ^ min (wU (64-wU 50)).toNat U6.bits=16384:=by decide
   rw[this,uag _ (by decide)]
  rw[C,D];exact zia (by omega) (by omega) (by omega) (by omega)
 have s:fM a=a*1125899906842624%18446744073709551616:=by rw[qbb];exact IntKind.wrap_u64 _
 have K:0<=fM a/\fM a<=18446744073709551615:=by rw[s];omega
 have m:bS (fM a)=fM a/4294967296:=Nf;have l:=GG K;have n:dQ (nW b a) 10000=nW b a/2621440000:=by unfold dQ;rw[d,t];exact TX (zq7 u v)
 obtain⟨L,w,x,y,z,A,B,g,h,r,e⟩:=qqo u v t s m l n rfl rfl rfl;have i:pF b a 10000=(nW b a-dQ (nW b a) 10000*2621440000)*4294967296+bS (fM a):=by unfold pF;exact qrl ⟨A,B⟩ ⟨w,x⟩
 have c:=zq6 ⟨A,B⟩ ⟨w,x⟩;rw[<- i]at g h r e c;have gW:dQ (pF b a 10000) 10000=pF b a 10000/2621440000:=by unfold dQ;exact TX c
 rw[<- gW]at g h r e;have F:wU (wU (dQ (nW b a) 10000*4294967296)+dQ (pF b a 10000) 10000)=(b*18446744073709551616+a)/10000:=by rw[<- r];exact g1L ⟨y,z⟩ ⟨g,h⟩
 have G:(wU (wU (wU (pF b a 10000*4294967296)+hN (fM a))-wU (dQ (pF b a 10000) 10000*fM 10000))).fdiv (2 ^ min (wU 50).toNat U6.bits)=(b*18446744073709551616+a)%10000:=by
  have k:(2:Int) ^ min (wU 50).toNat U6.bits=1125899906842624:=by decide
  rw[k,E,L,uag _ (by decide),<- e,g2L gW c]
 have p:¬ (10000:Int)<=b:=by omega
 have o:(b==0)=false:=by simpa using H
 refine aN rfl (aN (udw p) (aN o ?_));refine aw rfl (aw (by decide) (aw (by decide) (aw (by decide) (aw (by decide) (aw (by decide) (aw (by decide) (aw ?_ (aw ?_ (aw ?_ (aw ?_ (aw (by decide) ⟨uT,?_⟩)))))))))));rw[d];decide;rw[f];exact Yh ⟨y,z⟩;rw[d];decide;rw[f];exact Yh ⟨g,h⟩;exact ufv F (ufv G rfl)
def E0:Ct:=⟨[dU,dU,dU],[u64,u64],λx=>((x.1*18446744073709551616+x.2.1)/x.2.2.1,(x.1*18446744073709551616+x.2.1)%x.2.2.1,()),λx=>[(x.1=0/\0<x.2.2.1)\/(x.2.2.1=10000/\x.1<10000)]⟩
def qql{a:Int}(b:0<=a/\a<=18446744073709551615)(f:0<y):(Bu (0,a,y,())).ok/\(Bu (0,a,y,())).get=((0*18446744073709551616+a)/y,(0*18446744073709551616+a)%y,()):=by
 rw[Int.zero_mul,Int.zero_add];have d:(y==0)=false:=by simp;omega
 have e:¬ y<=(0:Int):=by omega
 have c:y≠0:=by omega
 refine aN d (aN (udw e) (aV rfl (aw c (aw c ⟨uT,?_⟩))));exact ufv (IntWalk.u64_quo a y ⟨b.1,b.2,by omega⟩) (ufv (IntWalk.rem_in a y b.1) rfl)
def qqm: ag prog 240 E0 :=
  dz qqr _ _ (λw F x vs hr hok => by
    obtain⟨hi, lo, y, _⟩ := x
    obtain⟨v1, vs1, rfl, h1, v2, vs2, rfl, h2, v3, vs3, rfl, h3, _⟩ := hr
    have b1 := s6 h1
    have b2 := s6 h2
    have hok' : (hi = 0 /\ 0 < y) \/ (y = 10000 /\ hi < 10000) := hok
    have hcase : (hi = 0 /\ 0 < y) \/ (hi ≠ 0 /\ y = 10000 /\ hi < 10000) := by
      by_cases hz : hi = 0
      · exact .inl ⟨hz, by rcases hok' with h | h
                           · exact h.2
                           · rw[h.1];decide⟩
      · rcases hok' with h | h
        · exact absurd h.1 hz
        · exact .inr ⟨hz, h⟩
    rcases hcase with ⟨rfl, hy⟩ | ⟨h0, rfl, hlt⟩
    · exact qql b2 hy
    · exact qqn h0 ⟨b1.1, hlt⟩ b2)
abbrev Ek:List (FuncId×Ct):=[(239,pu),(240,E0)]
def J8:kj prog Ek:=⟨NT,qqm,uT⟩
def QZ:Cx:=cx Ek []
def Ra:Cx:=dI Ek [] (iJ prog QZ Ec)
def CW3:Cx:=dI Ek [] (iJ prog Ra Ed)
def qiv:CxOK prog QZ:=aQ aH J8 trivial
def qiw:CxOK prog Ra:=dP aH J8 trivial (jt qiv RQ)
def qiy:CxOK prog CW3:=dP aH J8 trivial (jt qiw RR)
def Fq(h l c:Int):Fr (aa [i64,i64]):=
 Jb (J (h>=c)) (Jv (0,5,())) (Jd ((h=0/\0<c)\/(c=10000/\h<10000)) (rq (E0.f (h,l,c,())).1 (E0.f (h,l,c,())).2.1 c))
def FS(x:ap [.d i64,.d i64,.d i64]):Fr (aa [i64,i64]):=
 let a:=pu.f (U6.wrap x.1,U6.wrap x.2.1,());Jb (bif bif J (x.1<0)then Z else J (x.2.1<0)then Z else J (x.2.2.1<0)) (Jv (0,1,()))
  (Jb (x.2.2.1==0) (Jv (0,6,()))
   (Fq a.1 a.2.1 (U6.wrap x.2.2.1)))
def qr6{p c:Int}(m:0<=p)(g:0<c)(i:c<=9223372036854775807)(h:p<18446744073709551616\/c=10000):
  (Fq (p/18446744073709551616) (p%18446744073709551616) c).ok/\(Fq (p/18446744073709551616) (p%18446744073709551616) c).get=if lY p c>4000000000000000000 then (0,5,())else (lY p c,0,()):=by
 have e:p/18446744073709551616*18446744073709551616+p%18446744073709551616=p:=by omega
 have k:=Int.emod_nonneg p (b:=c) (by omega);have l:=Int.emod_lt_of_pos p g;have n:=udl m (ueu g);by_cases d:p/18446744073709551616>=c;refine aV (ueb d) ⟨uT,?_⟩;rcases h with h|h
 omega;subst h;have:lY p 10000>4000000000000000000:=by unfold lY;split<;>omega
 rw[ufw this];rfl;have a:(p/18446744073709551616=0/\0<c)\/(c=10000/\p/18446744073709551616<10000):=by
  rcases h with h|h
  exact .inl ⟨by omega,g⟩;exact .inr ⟨h,by omega⟩
 refine aN (udw d) (aw a ?_);show(rq ((p/18446744073709551616*18446744073709551616+p%18446744073709551616)/c) ((p/18446744073709551616*18446744073709551616+p%18446744073709551616)%c) c).ok/\(rq ((p/18446744073709551616*18446744073709551616+p%18446744073709551616)/c) ((p/18446744073709551616*18446744073709551616+p%18446744073709551616)%c) c).get=_;rw[e];have f:=U0 ⟨k,l⟩ i n;refine⟨f.1,?_⟩;rw[f.2];rfl
def qsc{b c:Int}(n : -9223372036854775808<=a/\a<=9223372036854775807)(o : -9223372036854775808<=b/\b<=9223372036854775807)(l : -9223372036854775808<=c/\c<=9223372036854775807)(m:0<=a->0<=b->a*b<18446744073709551616\/c=10000):(FS (a,b,c,())).ok/\(FS (a,b,c,())).get=((du a b c).1,(du a b c).2,()):=by
 unfold FS;simp only[Sr];by_cases h:a<0\/b<0\/c<0;have i:(J (a<0) || (J (b<0) || J (c<0)))=true:=by simpa using h
 refine aV i ⟨uT,?_⟩;unfold du;rw[ufw h];rfl;have i:(J (a<0) || (J (b<0) || J (c<0)))=false:=by simpa using h
 have d:0<=a:=by omega
 have f:0<=b:=by omega
 have e:=uec d f;refine aN i ?_;rw[show U6.wrap a=a from eF (by omega),show U6.wrap b=b from eF (by omega),show U6.wrap c=c from eF (by omega)];unfold du;rw[ufx h];by_cases k:c=0;refine aV (by simpa using k) ⟨uT,?_⟩;rw[ufw k];rfl;refine aN (by simpa using k) ?_;have g:=qr6 e (by omega) l.2 (m d f);refine⟨g.1,?_⟩;show(Fq (a*b/18446744073709551616) (a*b%18446744073709551616) c).get=_;rw[g.2];split<;>rfl
def JW:Ct:=⟨[.d i64,.d i64,.d i64],[i64,i64],λx=>((du x.1 x.2.1 x.2.2.1).1,(du x.1 x.2.1 x.2.2.1).2,()),λx=>[0<=x.1->0<=x.2.1->x.1*x.2.1<18446744073709551616\/x.2.2.1=10000]⟩
def qsb:ag prog 142 JW:=
 flat (ps:=[.d i64,.d i64,.d i64]) (rs:=[i64,i64]) qiy (fn:=f142) (fr:=FS) (0,0,0,()) (by kernel_rfl) (λx=>by kernel_rfl) _ _
  (λw F x r i e=>by obtain⟨a,b,c,u⟩:=x;obtain⟨n,k,rfl,f,o,l,rfl,g,p,m,rfl,h,_⟩:=i;exact qsc (xP f) (xP g) (xP h) e)
def iq(m b:Int):Int×Int:=du m b 10000
def kv:Ct:=⟨[.d i64,.d i64],[i64,i64],λx=>((iq x.1 x.2.1).1,(iq x.1 x.2.1).2,()),λ_=>[]⟩
def CW4:Cx:=cx [(142,JW)] []
def qi0:CxOK prog CW4:=aQ aH ⟨qsb,uT⟩ trivial
def Aw:ag prog 129 kv:=
 flat (ps:=[.d i64,.d i64]) (rs:=[i64,i64]) qi0 (fn:=f129) (fr:=λx=>Jd (0<=x.1->0<=x.2.1->x.1*x.2.1<18446744073709551616\/(10000:Int)=10000) (Jv (JW.f (x.1,x.2.1,10000,())))) (0,0,()) (by kernel_rfl) (λx=>by kernel_rfl) _ _
  (λw F x c b a=>⟨⟨λ_ _=>.inr rfl,uT⟩,rfl⟩)
def PI:ByteArray:=⟨(0::1::(Lrp 2 2++(Lrp 4 3++(Lrp 8 4++(Lrp 16 5++(Lrp 32 6++(Lrp 64 7++Lrp 128 8))))))).toArray⟩
def mB(m:Nat):Nat:=(PI.data.getD m 0).toNat
def uC(x n:Int):Fr (aa [i64]):=Jd (0<=IntKind.u8.wrap x/\IntKind.u8.wrap x<(PI.size:Int)) (Jv (I6.wrap (n+I6.wrap (mB (IntKind.u8.wrap x).toNat:Int)),()))
def oQ(k:Nat)(x:Int):Int:=x.fdiv (2 ^ min (Int.toNat k) U6.bits)
def N7(x n:Int):Fr (aa [i64]):=Jb (J (x>=256)) (Jd (¬ (8:Int)<0) (uC (oQ 8 x) (I6.wrap (n+8)))) (uC x n)
def GC(x n:Int):Fr (aa [i64]):=Jb (J (x>=65536)) (Jd (¬ (16:Int)<0) (N7 (oQ 16 x) (I6.wrap (n+16)))) (N7 x n)
def Ce(x:ap [.d u64]):Fr (aa [i64]):=Jb (J (x.1>=4294967296)) (Jd (¬ (32:Int)<0) (GC (oQ 32 x.1) 32)) (GC x.1 0)
def zn0(h:0<=x):oQ 8 x=x/2 ^ 8:=by unfold oQ;rw[uag _ (by decide)];rfl
def zny(h:0<=x):oQ 16 x=x/2 ^ 16:=by unfold oQ;rw[uag _ (by decide)];rfl
def znz(h:0<=x):oQ 32 x=x/2 ^ 32:=by unfold oQ;rw[uag _ (by decide)];rfl
def qD(x n K:Int)(f:Fr (aa [i64])):Prop:=f.ok/\∃ k:Nat,(f.get).1=n+k/\1<=k/\(k:Int)<=K/\(2:Int) ^ (k-1)<=x/\x<2 ^ k
def zpv:(PI.size:Int)=256:=by decide +kernel
def zpw:∀ x:Fin 256,x.val≠0->1<=mB x.val/\mB x.val<=8/\2 ^ (mB x.val-1)<=x.val/\x.val<2 ^ mB x.val:=by decide +kernel
def X4{n:Int}(g:1<=x/\x<256)(f:0<=n/\n<=1000):qD x n 8 (uC x n):=by
 obtain⟨m,rfl⟩:∃ m:Nat,x=m:=⟨x.toNat,by omega⟩;have e:IntKind.u8.wrap (m:Int)=m:=by show(m:Int)%((2 ^ 8:Nat):Int)=m;omega
 obtain⟨a,d,b,c⟩:1<=mB m/\mB m<=8/\2 ^ (mB m-1)<=m/\m<2 ^ mB m:=zpw ⟨m,by omega⟩ (show m≠0 by omega);refine⟨⟨?_,uT⟩,_,?_,a,by omega,by exact_mod_cast b,by exact_mod_cast c⟩;rw[e];rw[zpv];omega;show I6.wrap (n+I6.wrap (mB (IntKind.u8.wrap (m:Int)).toNat:Int))=_;rw[e,uc0];rw[show I6.wrap (mB m:Int)=(mB m:Int) from cV (by omega)];exact cV (by omega)
def zn1{k j:Nat}(f:1<=k)(d:(2:Int) ^ (k-1)<=x/2 ^ j)(e:x/2 ^ j<2 ^ k):(2:Int) ^ (j+k-1)<=x/\x<2 ^ (j+k):=by
 have a:(0:Int)<2 ^ j:=Int.pow_pos (by decide);have b:(2:Int) ^ (j+k-1)=2 ^ (k-1)*2 ^ j:=by rw[<- Int.pow_add];congr 1;omega
 have c:(2:Int) ^ (j+k)=2 ^ k*2 ^ j:=by rw[<- Int.pow_add];congr 1;omega
 rw[b,c];exact⟨(Int.le_ediv_iff_mul_le a).1 d,(Int.ediv_lt_iff_lt_mul a).1 e⟩
def N8{n K:Int}{j:Nat}{b:Bool}{f g:Fr (aa [i64])}(u:p)(s:b=Z->qD (x/2 ^ j) (n+j) K f)(t:b=Y->qD x n K g):qD x n (K+j) (Jb b (Jd p f) g):=by
 cases l:b with
 |true=>obtain⟨i,k,a,c,m,d,e⟩:=s l;obtain⟨o,r⟩:=zn1 c d e;exact⟨⟨λ_=>⟨u,i⟩,λh=>(by cases h)⟩,j+k,a.trans (Int.add_assoc _ _ _),by omega,by omega,o,r⟩
 |false=>obtain⟨i,k,a,c,m,d,e⟩:=t l;exact⟨⟨λh=>(by cases h),λ_=>i⟩,k,a,c,by omega,d,e⟩
def X5{n:Int}(c:1<=x/\x<65536)(b:0<=n/\n<=900):qD x n (8+(8:Nat)) (N7 x n):=
 N8 (j:=8) (by decide) (λh=>by
  have a:x>=256:=by simpa using h
  rw[zn0 (by omega),show I6.wrap (n+8)=n+8 from cV (by omega)];exact X4 ⟨by omega,by omega⟩ ⟨by omega,by omega⟩) (λh=>by
  have a:¬ x>=256:=by simpa using h
  exact X4 ⟨by omega,by omega⟩ ⟨by omega,by omega⟩)
def X6{n:Int}(c:1<=x/\x<4294967296)(b:0<=n/\n<=800):qD x n (8+(8:Nat)+(16:Nat)) (GC x n):=
 N8 (j:=16) (by decide) (λh=>by
  have a:x>=65536:=by simpa using h
  rw[zny (by omega),show I6.wrap (n+16)=n+16 from cV (by omega)];exact X5 ⟨by omega,by omega⟩ ⟨by omega,by omega⟩) (λh=>by
  have a:¬ x>=65536:=by simpa using h
  exact X5 ⟨by omega,by omega⟩ ⟨by omega,by omega⟩)
def X7(b:1<=x/\x<18446744073709551616):qD x 0 (8+(8:Nat)+(16:Nat)+(32:Nat)) (Ce (x,())):=
 N8 (j:=32) (by decide) (λh=>by
  have a:x>=4294967296:=by simpa using h
  show qD (x/2 ^ 32) _ _ (GC (oQ 32 x) 32);rw[znz (by omega)];exact X6 ⟨by omega,by omega⟩ ⟨by omega,by omega⟩) (λh=>by
  have a:¬ x>=4294967296:=by simpa using h
  exact X6 ⟨by omega,by omega⟩ ⟨by omega,by omega⟩)
def Kh:Ct:=⟨[.d u64],[i64],λx=>(Ce x).get,λx=>[1<=x.1]⟩
def zcn:ag prog 260 Kh:=
 dz (aT (aQ (cs:=[]) (ps:=[]) aH trivial trivial) f260 (fr:=Ce)) _ _
  (λw F x h d b=>by obtain⟨n,_⟩:=x;obtain⟨g,e,rfl,c,_⟩:=d;have f:=s6 c;have a:1<=n:=b;exact⟨(X7 ⟨a,by omega⟩).1,rfl⟩)
def t5:Ct:=⟨[.d u64],[i64],λx=>(I6.wrap (64-(Ce x).get.1),()),λx=>[1<=x.1]⟩
def zf3:ag prog 253 t5:=
 conv (aT (aQ (cs:=[(260,Kh)]) (ps:=[]) aH ⟨zcn,uT⟩ trivial) f253 (fr:=λx=>Jd (1<=x.1) (Jv (I6.wrap (64-(Kh.f (x.1,())).1),()))) (ps:=[.d u64])) _ _
  (λw F x b _ a=>⟨⟨a,uT⟩,rfl⟩)
def ly(a b d q r:Int):Int×Int:=
 if kP q b r d=Z then
  if h:U6.wrap (r+a)<4294967296/\r<U6.wrap (r+a)then ly a b d (U6.wrap (q-1)) (U6.wrap (r+a))
  else (U6.wrap (q-1),U6.wrap (r+a))
 else (q,r)
termination_by (4294967296-r).toNat
decreasing_by omega
abbrev ph(a r:Int):Prop:=(1<=a/\a<4294967296)/\0<=r/\r<4294967296
def FG0(x:qF.X):Fr yD.Out:=
 match x with
 |((y,s,a,b,c,d,e,q,r,_),_)=>Jd (ph a r) (Jv (Rd.out ((y,s,a,b,c,d,e,(ly a b d q r).1,(ly a b d q r).2,()),())))
def FG2(x:qH.X):Fr yE.Out:=
 match x with
 |((y,s,a,b,d,e,q,r,u,v,_),_)=>Jd (ph a r) (Jv (Rd.out ((y,s,a,b,d,e,q,(ly a b e v r).2,u,(ly a b e v r).1,()),())))
def CDG:Cx:=cx [(253,t5)] []
def IG:CxOK prog CDG:=aQ aH ⟨zf3,uT⟩ trivial
def Xc{b d q r:Int}(h:ph a r)(f:kP q b r d=Z)(c:J (U6.wrap (r+a)>=4294967296)=Y):
  ph a (U6.wrap (r+a))/\(4294967296-U6.wrap (r+a)).toNat<(4294967296-r).toNat/\ly a b d q r=ly a b d (U6.wrap (q-1)) (U6.wrap (r+a)):=by
 have e:U6.wrap (r+a)=r+a:=eF (by omega);have g:¬ (r+a>=4294967296):=by rw[e]at c;simpa using c
 refine⟨?_,?_,?_⟩;rw[e];omega;rw[e];omega;rw[ly,ufw f,dif_pos (by rw[e];omega)]
def Xb{b d q r:Int}(e:kP q b r d=Z)(c:J (U6.wrap (r+a)>=4294967296)=Z):ly a b d q r=(U6.wrap (q-1),U6.wrap (r+a)):=by
 have f:U6.wrap (r+a)>=4294967296:=by simpa using c
 rw[ly,ufw e,dif_neg (by omega)]
def Xa{b d q r:Int}(c:kP q b r d=Y):ly a b d q r=(q,r):=by rw[ly,ufx (by rw[c];decide)]
def qra:af prog (.loop (au f240 0)) qF yD FG0:=
 af.loop (af.of_run IG (bs:=0) (f:=U4) rfl rfl rfl (λ_=>bm _ 0) (λx=>by kernel_rfl)) (inv:=λx=>ph x.1.2.2.1 x.1.2.2.2.2.2.2.2.2.1) (μ:=λx=>(4294967296-x.1.2.2.2.2.2.2.2.2.1).toNat)
  (by rintro⟨⟨y,s,a,b,c,d,e,q,r,_⟩,_⟩ i Q g;have g:=g.2;refine⟨λh=>⟨λk=>?_,λk=>?_⟩,λh=>?_⟩;rw[Xb h k]at g;exact g;obtain⟨l,m,n⟩:=Xc i h k;rw[n]at g;exact⟨l,m,l,g⟩;rw[Xa h]at g;exact g)
  (λx Q h=>h.1)
def qrb:af prog (.loop (au f240 1)) qH yE FG2:=
 af.loop (af.of_run IG (bs:=0) (f:=U5) rfl rfl rfl (λ_=>bm _ 0) (λx=>by kernel_rfl)) (inv:=λx=>ph x.1.2.2.1 x.1.2.2.2.2.2.2.2.1) (μ:=λx=>(4294967296-x.1.2.2.2.2.2.2.2.1).toNat)
  (by rintro⟨⟨y,s,a,b,d,e,q,r,u,v,_⟩,_⟩ g Q c;have c:=c.2;refine⟨λh=>⟨λi=>?_,λi=>?_⟩,λh=>?_⟩;rw[Xb h i]at c;exact c;obtain⟨k,l,m⟩:=Xc g h i;rw[m]at c;exact⟨k,l,k,c⟩;rw[Xa h]at c;exact c)
  (λx Q h=>h.1)
def oR(s a:Int):Int:=wU (a*2 ^ min s.toNat U6.bits)
def qdf(s a b:Int):Int:=wU ((Bvo U6.bits (oR s a) ||| Bvo U6.bits (b.fdiv (2 ^ min (wU (64-s)).toNat U6.bits))).toNat:Int)
def qG(u y:Int):Int:=wU (u.tdiv (bS y))
def rG(u y:Int):Int:=wU (u-wU (qG u y*bS y))
def GV(u y d:Int):Int×Int:=ly (bS y) (hN y) d (qG u y) (rG u y)
def Iw(u y l:Int):Int:=wU (wU (wU (u*4294967296)+bS l)-wU ((GV u y (bS l)).1*y))
def Vr(s u l y:Int)(z:Fr (aa [u64,u64])):Fr (aa [u64,u64]):=
 let a:=¬ (32:Int)<0;Jd (¬ s<0) (Jd a (Jd (¬ s<0) (Jd (¬ wU (64-s)<0) (Jd (¬ s<0) (Jd a
  (Jd (bS y≠0) (Jd (ph (bS y) (rG u y)) (Jd (bS y≠0) (Jd (ph (bS y) (rG (Iw u y l) y)) (Jd (¬ s<0) z))))))))))
def zG(s u l y:Int):aa [u64,u64]:=
 (wU (wU ((GV u y (bS l)).1*4294967296)+(GV (Iw u y l) y (hN l)).1),
  (wU (wU (wU (Iw u y l*4294967296)+hN l)-wU ((GV (Iw u y l) y (hN l)).1*y))).fdiv (2 ^ min s.toNat U6.bits),())
def Mz(x:ap [dU,dU,dU]):Fr (aa [u64,u64]):=
 let b:=x.2.2.1;let a:=wU (t5.f (b,())).1;let d:=oR a x.2.1;let c:=qdf a x.1 x.2.1;Jb (b==0) (Jd False (Jv (0,0,())))
  (Jb (J (b<=x.1)) (Jd False (Jv (0,0,())))
   (Jb (x.1==0) (Jd (b≠0) (Jd (b≠0) (Jv (U6.wrap (x.2.1.tdiv b),x.2.1.tmod b,()))))
    (Jd (1<=b) (Vr a c d (oR a b)
     (Jv (zG a c d (oR a b)))))))
def qqk:ag prog 240 (bg [dU,dU,dU] [u64,u64] Mz):=
 oc IG qra qrb
def Qd(x:Int):0<=wU x/\wU x<18446744073709551616:=by show 0<=U6.wrap x/\U6.wrap x<_;rw[IntKind.wrap_u64];omega
def zj9{u:Int}(a:0<=u/\u<18446744073709551616)(f:1<=bS y):rG u y=u%bS y:=by
 have e:qG u y=u/bS y:=by unfold qG;rw[Int.tdiv_eq_ediv_of_nonneg a.1];exact eF ⟨udl a.1 (by omega),by have:=Int.ediv_le_self (bS y) a.1;omega⟩
 have c:=Int.mul_ediv_add_emod u (bS y);have b:=Int.emod_nonneg u (show bS y≠0 by omega);have d:=uec (show 0<=bS y by omega) (udl a.1 (show 0<=bS y by omega));unfold rG;rw[e,show wU (u/bS y*bS y)=u/bS y*bS y from eF (by rw[ue1];omega)];rw[show u-u/bS y*bS y=u%bS y by rw[ue1];omega];exact eF (by omega)
def Xd{u:Int}(b:0<=u/\u<18446744073709551616)(a:1<=bS y/\bS y<4294967296):ph (bS y) (rG u y):=by refine⟨a,?_⟩;rw[zj9 b a.1];have c:=Int.emod_nonneg u (show bS y≠0 by omega);have d:=Int.emod_lt_of_pos u (show 0<bS y by omega);omega
def zf4(e:1<=y/\y<18446744073709551616):∃ s:Nat,s<=63/\wU (t5.f (y,())).1=s/\(9223372036854775808:Int)<=y*2 ^ s/\y*2 ^ s<18446744073709551616:=by
 obtain⟨_,k,a,g,i,c,d⟩:=X7 e;have b:k<=64:=by omega
 refine⟨64-k,by omega,?_,?_,?_⟩;show wU (I6.wrap (64-(Ce (y,())).get.1))=_;rw[a,show I6.wrap (64-(0+(k:Int)))=64-(0+(k:Int)) from cV (by omega)];rw[show wU (64-(0+(k:Int)))=64-(0+(k:Int)) from eF (by omega)];omega;have h:=Int.mul_le_mul_of_nonneg_right c (show(0:Int)<=2 ^ (64-k) from ueu (Int.pow_pos (by decide)));rw[<- Int.pow_add,show k-1+(64-k)=63 by omega]at h;exact h;have h:=Int.mul_lt_mul_of_pos_right d (show(0:Int)<2 ^ (64-k) from Int.pow_pos (by decide));rw[<- Int.pow_add,show k+(64-k)=64 by omega]at h;exact h
def qqj{a c:Int}(l:0<=a)(m:y<=18446744073709551615)(d:a<y):(Mz (a,c,y,())).ok:=by
 obtain⟨s,n,k,o,p⟩:=zf4 (y:=y) ⟨by omega,by omega⟩;refine⟨λh=>?_,λ_=>⟨λh=>?_,λ_=>⟨λ_=>⟨?_,?_,uT⟩,λ_=>⟨?_,?_⟩⟩⟩⟩;have:y=0:=by simpa using h
 omega;have:y<=a:=by simpa using h
 omega;show y≠0;omega;show y≠0;omega;show 1<=y;omega;show(Vr (wU (t5.f (y,())).1) (qdf (wU (t5.f (y,())).1) a c) _ (oR (wU (t5.f (y,())).1) y) _).ok;rw[k];have g:oR (s:Int) y=y*2 ^ s:=by unfold oR;rw[uc0,show min s U6.bits=s from udq (by show s<=64;omega)];exact eF (by omega)
 have e:1<=bS (oR (s:Int) y)/\bS (oR (s:Int) y)<4294967296:=by rw[Nf,g];omega
 have i:=Qd ((Bvo U6.bits (oR s a) ||| Bvo U6.bits (c.fdiv (2 ^ min (wU (64-(s:Int))).toNat U6.bits))).toNat:Int);have b:¬ wU (64-(s:Int))<0:=by have:=Qd (64-(s:Int));omega
 exact⟨by omega,by decide,by omega,b,by omega,by decide,by omega,Xd i e,by omega,Xd (Qd _) e,by omega,uT⟩
def JU:Ct:=⟨[dU,dU,dU],[u64,u64],λx=>(Mz x).get,λx=>[x.1<x.2.2.1]⟩
def qqi:ag prog 240 JU:=
 dz qqk _ _ (λw F x o d a=>by obtain⟨i,k,y,_⟩:=x;obtain⟨l,e,rfl,b,m,f,rfl,h,n,g,rfl,c,_⟩:=d;exact⟨qqj (s6 b).1 (s6 c).2 a,rfl⟩)
def XdN:FuncId->Option (Func×(Nat->St->Option Tr)):=cR [(254,(f254,bK))]
def XdO:FuncId->Option (Func×(Nat->St->Option Tr)):=cR [(210,(f210,bK)),(242,(f242,bK))]
def XdR:FuncId->Option (Func×(Nat->St->Option Tr)):=cR [(211,(f211,bK)),(241,(f241,bK))]
abbrev Ei:List (FuncId×Ct):=[(239,pu),(240,JU)]
def J6:kj prog Ei:=⟨NT,qqi,uT⟩
def QW:Cx:=cx Ei []
def QX:Cx:=dI Ei [] (iJ prog QW XdN)
def qir:Cx:=dI Ei [] (iJ prog QX XdO)
def qip:CxOK prog QW:=aQ aH J6 trivial
def sP:∀ f fn a,cR (α:=Func×(Nat->St->Option Tr)) [] f=U (fn,a)->prog.funcs[f]?= U fn/\∀ c b,fn.body=U c->co prog b a c 0:=λ_ _ _ h=>(nomatch h)
def nD{g:FuncId}{d:Func}{r:List (FuncId×(Func×(Nat->St->Option Tr)))}(i:prog.funcs[g]?= U d)(k:∀ f fn a,cR r f=U (fn,a)->prog.funcs[f]?= U fn/\∀ c b,fn.body=U c->co prog b a c 0):
  ∀ f fn a,cR ((g,(d,bK))::r) f=U (fn,a)->prog.funcs[f]?= U fn/\∀ c b,fn.body=U c->co prog b a c 0:=λf fn a h=>by
 simp only[cR]at h;split at h;rename_i e;subst e;cases h;exact⟨i,λc b _=>bm c 0⟩;exact k f fn a h
def qiq:CxOK prog QX:=dP aH J6 trivial (jt qip (nD (by kernel_rfl) sP))
def qis:CxOK prog qir:=dP aH J6 trivial (jt qiq (nD (by kernel_rfl) (nD (by kernel_rfl) sP)))
def qpd{a:List PT}{c:List Ty}{fr:ap a->Fr (aa c)}(h:ag P f (bg a c fr))(ok:ap a->List Prop)(d:∀ w F xs vs,dm P w F a xs vs->az (ok xs)->(fr xs).ok):ag P f ⟨a,c,λx=>(fr x).get,ok⟩:=
 dz h _ ok (λw F xs vs e b=>⟨d w F xs vs e b,rfl⟩)
def iV(A:σ->Prop)(B:ρ->Prop):σ ⊕ ρ->Prop
 |.inl s=>A s
 |.inr y=>B y
def Y3{step:Int->T->σ->Fr (σ ⊕ ρ)}(I:Nat->σ->Prop)(Q:ρ->Prop)(a:List T)(h:∀ (i:Nat) e s,a[i]?= U e->I i s->(step (i:Int) e s).s7 (iV (I (i+1)) Q)):
  (l:List T)->(i:Nat)->a.drop i=l->(s:σ)->I i s->eI step (i:Int) l s/\iV (I (i+l.length)) Q (bC step (i:Int) l s)
 |[],_,_,_,c=>⟨uT,c⟩
 |e::r,i,g,s,c=>by
  have k:a[i]?= U e:=by have:=ufu (·[0]?) g;simpa using this
  have m:a.drop (i+1)=r:=by have:=ufu (List.drop 1) g;simpa[List.drop_drop]using this
  obtain⟨d,b⟩:=dt (h i e s k c);unfold eI bC;cases f:(step (i:Int) e s).get with
  |inl n=>rw[f]at b;have:=Y3 I Q a h r (i+1) m n b;rw[show i+(e::r).length=i+1+r.length by simp;omega];exact⟨⟨d,this.1⟩,this.2⟩
  |inr y=>rw[f]at b;exact⟨⟨d,uT⟩,b⟩
def o5{step:Int->T->σ->Fr (σ ⊕ ρ)}(I:Nat->σ->Prop)(Q:ρ->Prop)(l:List T)(h:∀ (i:Nat) e s,l[i]?= U e->I i s->(step (i:Int) e s).s7 (iV (I (i+1)) Q))(s:σ)(a:I 0 s):
  eI step 0 l s/\iV (I l.length) Q (bC step 0 l s):=by
 have:=Y3 I Q l h l 0 rfl s a
 rwa [uey]at this
def Y2{step:Int->T->σ->Fr σ}(I:Nat->σ->Prop)(a:List T)(h:∀ (i:Nat) e s,a[i]?= U e->I i s->(step (i:Int) e s).s7 (λm=>I (i+1) m)):
  (l:List T)->(i:Nat)->a.drop i=l->(s:σ)->I i s->bY step (i:Int) l s/\I (i+l.length) (bw step (i:Int) l s)
 |[],_,_,_,b=>⟨uT,b⟩
 |e::r,i,c,s,b=>by
  have g:a[i]?= U e:=by have:=ufu (·[0]?) c;simpa using this
  have k:a.drop (i+1)=r:=by have:=ufu (List.drop 1) c;simpa[List.drop_drop]using this
  obtain⟨d,f⟩:=dt (h i e s g b);have:=Y2 I a h r (i+1) k _ f;unfold bY bw;rw[show i+(e::r).length=i+1+r.length by simp;omega];exact⟨⟨d,this.1⟩,this.2⟩
def dK{step:Int->T->σ->Fr σ}(I:Nat->σ->Prop)(l:List T)(h:∀ (i:Nat) e s,l[i]?= U e->I i s->(step (i:Int) e s).s7 (λb=>I (i+1) b))(s:σ)(a:I 0 s):bY step 0 l s/\I l.length (bw step 0 l s):=by
 have:=Y2 I l h l 0 rfl s a
 rwa [uey]at this
def iS(p q:Prop)(g:σ ⊕ ρ)(d:σ)(a:ρ)(k:σ->Fr α)(r:ρ->Fr α):Fr α:=.need p (.need q (.br (dV g) (k (fq d g)) (r (e9 a g))))
def cT(p q:Prop)(g:σ)(k:σ->Fr α):Fr α:=.need p (.need q (k g))
def I8{q:Prop}{g:σ ⊕ ρ}{d:σ}{b:ρ}{k:σ->Fr α}{r:ρ->Fr α}{Q:α->Prop}{A:σ->Prop}{B:ρ->Prop}(e:p)(h:q/\iV A B g)(c:∀ s,A s->(k s).s7 Q)(f:∀ y,B y->(r y).s7 Q):(iS p q g d b k r).s7 Q:=by
 refine⟨e,h.1,?_⟩;have a:=h.2;cases g with
 |inl s=>exact⟨λ_=>c s a,λh=>(by cases h)⟩
 |inr y=>exact⟨λh=>(by cases h),λ_=>f y a⟩
def ii{q:Prop}{g:σ}{k:σ->Fr α}{Q:α->Prop}{A:σ->Prop}(b:p)(h:q/\A g)(a:∀ s,A s->(k s).s7 Q):(cT p q g k).s7 Q:=⟨b,h.1,a g h.2⟩
def dnT(q:Int):Fr (aa [i64,i64]):=Jb (J (q>4000000000000000000)) (Jv (0,5,())) (Jb Y (pM (U6.wrap (q+1))) (pM q))
def TS(h l c:Int):Fr (aa [i64,i64]):=Jb (J (h>=c)) (Jv (0,5,())) (Jd (h<c) (dnT (JU.f (h,l,c,())).1))
def Vs(x:ap [.d i64,.d i64,.d i64]):Fr (aa [i64,i64]):=
 let a:=pu.f (U6.wrap x.1,U6.wrap x.2.1,());Jb (bif bif J (x.1<0)then Z else J (x.2.1<0)then Z else J (x.2.2.1<0)) (Jv (0,1,()))
  (Jb (x.2.2.1==0) (Jv (0,6,()))
   (TS a.1 a.2.1 (U6.wrap x.2.2.1)))
def Uz(q:Int):(pM q).ok:=⟨λ_=>uT,λ_=>uT⟩
def qqs(h l c:Int):(TS h l c).ok:=⟨λ_=>uT,λa=>⟨by have:=uch a;omega,λ_=>uT,λ_=>⟨λ_=>Uz _,λ_=>Uz _⟩⟩⟩
def JV:Ct:=⟨[.d i64,.d i64,.d i64],[i64,i64],λx=>(Vs x).get,λ_=>[]⟩
def qre:ag prog 212 JV:=
 qpd (aT qis f212 (fr:=Vs)) _ (λ_ _ _ _ _ _=>⟨λ_=>uT,λ_=>⟨λ_=>uT,λ_=>qqs _ _ _⟩⟩)
def IP:Cx:=dI [(212,JV)] [] (iJ prog (cx [] []) XdR)
def Ag:CxOK prog IP:=dP aH ⟨qre,uT⟩ trivial (jt (aQ (cs:=[]) (ps:=[]) aH trivial trivial) (nD (by kernel_rfl) (nD (by kernel_rfl) sP)))
end Go.Proofs.YtdadnmgajcfkfaaGreat
