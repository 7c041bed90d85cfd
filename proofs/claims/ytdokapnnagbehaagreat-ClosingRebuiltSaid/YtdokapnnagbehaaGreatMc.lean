/-
  Parts of the proof, one behind the other.
-/
import Derived.Test.YtdokapnnagbehaaGreatMb
import Derived.RangeFuncNested
import Derived.Lib.Overlaps
import Derived.Lib.AppendZerosOnto
import Derived.Laws.NewBlocks
import Derived.LoopN
import Derived.Test.YtdokapnnagbehaaGreatProg
import Derived.WalkKit
import Derived.IntWalk
import Derived.RangeFuncBound
import Derived.RangeFuncCalls
import Derived.RangeFuncLeaves
import Derived.Shelf.Abstract
import Derived.Shelf.RegionOpen
import Derived.OwnWalkIn
import Derived.TacticsInMore
import Derived.LoopNIn
import Derived.LoopIn
import Derived.Lib.Hide
import Derived.Tactics2
import Derived.Laws.Pointers
set_option linter.all false
set_option maxRecDepth 100000
set_option maxHeartbeats 4000000
noncomputable section
open Option renaming some->U,none->V
open Bool renaming true->Z,false->Y
open Decidable renaming decide->J
open List renaming replicate->Lrp
open BitVec renaming ofInt->Bvo
open Go Go.RowKit
variable {T α σ ρ β:Type} {P:Program} {ad:Addr} {arr cs cur:Array Value} {f:FuncId} {p x a y r day:Int} {k:IntKind} {l:List Int} {xs vs news:List Value} {off i n b c d B m len:Nat} {F F' K:Nat->Prop} {R g R':Nat->Value->Prop} {o:Oper} {e ety t ty el:TypeId} {v u vx:Value} {w w' W' W:World}
namespace Go.Ab
open Go Go.RowKit
def zgv(a:Pc):Ct:=⟨a.ps,a.rs,a.f,λx=>(a.bad x=Y)::a.ok x⟩
def gP(C:Cx)(f:FuncId):Option Ct:=match C.Γ f with
 |some a=>U a
 |none=>(C.Pi f).map zgv
structure Pan where
 bad:Bool
 pv:PV
 good:List Prop
def mn(C:Cx)(o:Oper)(e:Nat->AV):Option Pan:=
 match o.guard,o.op,o.op.operands.toList.map (jq e)with
 |none,.call ⟨.value _,_,_⟩,.c (.fn f b)::a=>match C.Pi f with
  |some d=>match fe (λ_=>V) (a++b.map .c)with
   |some (g,[])=>match lm C.Γ d.ps g with
    |some (x,n)=>U ⟨d.bad x,d.pv x,n++d.ok x⟩
    |none=>V
   |_=>V
  |none=>V
 |_,_,_=>V
def nr(P:Program)(C:Cx)(b:Nat)(a:List Oper):List Oper->St->Option (List (Ef×Option Pan)×St)
 |[],s=>U ([],s)
 |o::r,s=>match fF P (gP C) b a o s.sl s.mem with
  |some e=>match nr P C b a r (e.go s)with
   |some (c,d)=>U ((e,mn C o s.sl)::c,d)
   |none=>V
  |none=>V
def MX(pv:PV):Ef×Option Pan->List Prop
 |(e,V)=>e.need
 |(e,U p)=>[p.bad=Y->az e.need,p.bad=Z->az p.good/\p.pv=pv]
def PN(d:St)(all:List (Ef×Option Pan))(a:Tr):List Pan->Tr
 |[]=>a
 |p::r=>.br p.bad (needL (all.flatMap (MX p.pv)) (.leaf (.panic p.pv) d)) (PN d all a r)
def I5(c:List Oper)(b:List (Ef×Option Pan)):Bool:=
 let d:=iK [] c
 (List.range b.length).all λk=>match b[k]?,d[k]? with
  |some (f,_),U a=>f.wr.isEmpty || (List.range b.length).all λi=>match b[i]? with
   |some (_,U _)=>a.testBit i
   |_=>Z
  |_,_=>Y
def xo(c:List Oper)(b:List (Ef×Option Pan)):List Tmp:=
 let d:=iK [] c
 (List.range b.length).filterMap λk=>match b[k]?,d[k]? with
  |some (f,_),U a=>if (List.range b.length).all (λi=>match b[i]? with
   |some (_,U _)=>a.testBit i
   |_=>Z)then V else f.dst
  |_,_=>V
def Cb(D:List Tmp)(a:Nat->AV)(t:Tmp):AV:=if D.contains t then .dead else kx a t
def OG(P:Program)(C:Cx)(b:Nat)(a:List Oper)(s:St):Option Tr:=
 if ss s.n 0 [] a then match nr P C b a a s with
  |some (c,d)=>if uN a (c.map (·.1))=Z/\I5 a c=Z then
    U (PN ⟨s.n,Cb (xo a c) s.sl,s.mem,s.gs⟩ c (NX (c.map (·.1)) (.leaf .normal (gS d))) (c.filterMap (·.2)))
   else V
  |none=>V
 else V
section
variable {P:Program} {w w':World} {E:Env} {F F':Nat->Prop} {b:Nat} {γ γ' γ0:Nat->Value} {ops:Array Oper} {es:List (Ef×Option Pan)} {C:Cx}
def qyh(l:CxOK P C):∀ f c,gP C f=U c->ag P f c:=by
 intro f c h;unfold gP at h;split at h;rename_i m d;cases h;exact l.ct.1 f _ d;cases g:C.Pi f with
 |none=>rw[g]at h;cases h
 |some i=>
  rw[g]at h;cases h;obtain⟨n,o⟩:=l.pc f i g;refine⟨n,λw F k s p r a=>?_⟩;obtain⟨b,a⟩:i.bad k=Y/\az (i.ok k):=lk.1 a;refine(o w F k s p r a).mono λe t h=>?_;rcases h with h|h
  exact h.2;rw[b]at h;cases h.1
def zi8{b a:Nat->AV}(h:∀ t∈zN o.op,a t=b t):mn C o a=mn C o b:=by unfold mn;rw[U3 h]
def Zq{b:Nat->AV}(h:o.guard≠V):mn C o b=none:=by unfold mn;split;rename_i a _ _;exact absurd a h;rfl
def qrq{g:Gm}{c:List Oper}{f:Nat->AV}{m:aX}{e:Ef}(a:fF P g b c o f m=U e)(d:o.guard=V):e.rd=zN o.op:=by
 unfold fF at a;rw[d]at a;simp only at a;split at a<;>try trivial
 cases a;rfl
def Zp{n:Gm}{h:List Oper}{e f:Ef}{s:St}(l:fF P n b h o s.sl s.mem=U f)(k:∀ t,e.dst=U t->t ∉ f.rd):mn C o (e.go s).sl=mn C o s.sl:=by
 cases a:o.guard with
 |some g=>rw[Zq (by rw[a];simp),Zq (by rw[a];simp)]
 |none=>
  refine zi8 λt i=>?_;show fX s.sl e.dst e.v t=s.sl t;rw[<- qrq l a]at i;cases m:e.dst with
  |none=>rfl
  |some x=>have c:t≠x:=λd=>k x m (d ▸ i);exact uf1 c
def w9(P:Program)(C:Cx)(b:Nat)(a:Array Oper)(c:List (Ef×Option Pan))(d:St):List Nat->St->Prop
 |[],s=>s=d
 |i::r,s=>∃ o e p,a[i]?= U o/\c[i]?= U (e,p)/\fF P (gP C) b a.toList o s.sl s.mem=U e/\mn C o s.sl=p/\w9 P C b a c d r (e.go s)
def qay{n:St}:(l:List Oper)->(k:Nat)->(s:St)->(c:List (Ef×Option Pan))->nr P C b ops.toList l s=U (c,n)->(∀ i o,l[i]?= U o->ops[k+i]?= U o) ->
  (∀ i e,c[i]?= U e->es[k+i]?= U e)->w9 P C b ops es n (List.range' k l.length) s
 |[],k,s,c,h,_,_=>by simp only[nr,ucl,ueh]at h;exact h.2
 |o::r,k,s,c,h,m,g=>by
  simp only[nr]at h;split at h<;>try trivial
  rename_i e a;split at h<;>try trivial
  rename_i d v t;cases h;refine⟨o,e,_,by simpa using m 0 o rfl,by simpa using g 0 _ rfl,a,rfl,?_⟩;refine qay r (k+1) _ d t (λi u f=>?_) (λi p f=>?_);have:=m (i+1) u (by simpa using f)
  rwa [show k+1+i=k+(i+1) by omega]
  have:=g (i+1) p (by simpa using f)
  rwa [show k+1+i=k+(i+1) by omega]
def qau{opl:List Oper}:(l:List Oper)->(s:St)->(fs:List (Ef×Option Pan))->(s':St)->nr P C b opl l s=some (fs,s')->s'.n=s.n
 |[],s,fs,s',h=>by
  simp only[nr,ucl,ueh]at h;rw[h.2]
 |o::r,s,fs,s',h=>by
  simp only[nr]at h;split at h<;>try trivial
  split at h<;>try trivial
  rename_i es' s2 hr;cases h;exact(qau r _ es' _ hr).trans rfl
def qat{d:List Oper}:(l:List Oper)->(s:St)->(a:List (Ef×Option Pan))->(e:St)->nr P C b d l s=U (a,e)->a.length=l.length
 |[],s,a,e,h=>by simp only[nr,ucl,ueh]at h;rw[<- h.1];rfl
 |o::r,s,a,e,h=>by
  simp only[nr]at h;split at h<;>try trivial
  split at h<;>try trivial
  rename_i c g f;cases h;simp[qat r _ c _ f]
def V8{L:St}{j:Nat}:(d:List Nat)->(s:St)->w9 P C b ops es L d s->d.Pairwise (· < ·)->j∈d ->
  (∀ i∈d,i<j->∀ e f,es[i]?= U e->es[j]?= U f->me e.1 f.1=Z) ->
  ∃ o f p,ops[j]?= U o/\es[j]?= U (f,p)/\fF P (gP C) b ops.toList o s.sl s.mem=U f/\mn C o s.sl=p/\w9 P C b ops es L (d.erase j) (f.go s)
 |[],_,_,_,y,_=>by simp at y
 |i::r,s,O,K,y,G=>by
  obtain⟨o,e,p,H,x,c,g,v⟩:=O;by_cases l:i=j;subst l;refine⟨o,e,p,H,x,c,g,?_⟩;rw[ubl];exact v
  ·have u:j∈r:=by
    rcases uej.1 y with h|h
    exact absurd h.symm l;exact h
   have A:=(uca.1 K).1 j u;obtain⟨Q,f,R,B,m,M,D,E⟩:=V8 r (e.go s) v (uca.1 K).2 u (λk N z=>G k (ubj _ N) z);have a:=G i (by simp) A _ _ x m;have w:=Gr a;have n:=Ua a M;refine⟨Q,f,R,B,m,n,(Zp n (λt F=>(w.1 t F).1)).symm.trans D,?_⟩;rw[List.erase_cons_tail (by simpa using l)];refine⟨o,e,p,H,x,Ub a c,(Zp c (λt F=>w.2.1 t F)).trans g,?_⟩;rw[<- VM a];exact E
def zi9(hC:CxOK P C){st:St}{a:Act}{W:List Tmp}{p:Pan}(k:InvG P E st a w W F γ)(h:mn C o st.sl=U p)(S:p.bad=Z)(hn:az p.good)(K:Act->World->Prop)(Q:Exit->Act->World->Prop)(hq:∀ w',I P E (gS st) a w'->Q (.panic [{ v:=p.pv.val,recovered:=Y }]) a w'):o.guard=V/\o.wp P a w K Q:=by
 unfold mn at h;split at h<;>try trivial
 rename_i f0 d ts f s g hg ho hvs;refine⟨hg,?_⟩;split at h<;>try trivial
 rename_i pc hpc;split at h<;>try trivial
 rename_i xs M;split at h<;>try trivial
 rename_i x n H;cases h;obtain⟨hn1,hn2⟩:=lj.1 hn;have G:=rp k.sl o.op.operands.toList;rw[hvs]at G;have L:o.op.operands.toList.map a.eval=a.eval f0::(d.map a.eval).toList:=by simp[ho,Op.operands,Call.operands]
 rw[L]at G;obtain⟨⟨_,hfv⟩,A⟩:=G;obtain⟨R,e1,e2,e3⟩:=hfv;have B:=Tc e2 e3;have N:(∀ g w,(callFunc f g).run P w=.ok (.enter f g) w)->(execOp a.eval o).run P w=.ok (.enter f (d.map a.eval++R)) w:=λD=>by unfold execOp;rw[ho];simp[resolve,e1,Deferred.ofValue,invoke,D]
 have fU:((d.map a.eval).toList++R.toList).toArray=d.map a.eval++R:=by simp
 have u:(g++s.map AV.c).all iL=true:=by
  have:∀ (l:List AV),(∃ xs u',fe (λ_=>V) l=U (xs,u'))->l.all iL=true:=by
   intro l
   induction l with
   |nil=>intros;rfl
   |cons y l ih=>
    rintro⟨xs,u',hx⟩;simp only[fe]at hx;split at hx<;>try trivial
    rename_i h1 h2;simp only[uek,udd];refine⟨?_,ih ⟨_,_,h2⟩⟩;cases y<;>first|rfl|(simp[sj]at h1)
  exact this _ ⟨_,_,M⟩
 have m:bI P w F (av st.mem γ) (g++s.map AV.c) ((d.map a.eval).toList++R.toList):=by refine Hz (vA A ?_) B;rw[udo,udd]at u;exact u.1
 obtain⟨F1,T,m1,_,r1⟩:=ke k.mem (eE k) (dM.of λ_ _ h=>by cases h) M m;have hps:=pI hC.ct H hn1 r1;obtain⟨D,r⟩:=hC.pc f pc hpc;have hc:=r w F1 x _ T.bd hps hn2;unfold Oper.wp;rw[N D];rw[fU]at hc;have hb':pc.bad x=true:=S;refine hc.mono λe w2 hp=>?_;rcases hp with ⟨i,_⟩|⟨i,rfl,z⟩
 rw[hb']at i;cases i;refine hq w2 ⟨F1,γ,?_⟩;obtain⟨s2,m2⟩:=Step.below m1 (qA k) T.bd z (λ_ h=>h) (λb S=>⟨.inl S,ucb (T.bd b S) z.size⟩);have O:=T.trans s2;obtain⟨γ0,h0⟩:=k.step;exact rE ⟨k.n,k.df,⟨γ0,h0.trans O⟩,m2,λt=>(k.sl t).mono O.hF O.hw O.hR,k.hg,λt=>O.repA (k.gh t)⟩
def zam{f:St}{a:Act}{D:List Tmp}{i:St}(h:InvG P E (gS f) a w [] F γ)(m:∀ t,t ∉ D->f.sl t=i.sl t):InvG P E ⟨f.n,Cb D i.sl,f.mem,f.gs⟩ a w [] F γ:=by
 refine⟨h.n,h.df,h.step,h.mem,λt=>?_,λt g c v o=>?_,h.gh⟩;show fw P w F _ _ (if D.contains t then AV.dead else kx i.sl t) _;split;trivial;rename_i k;have d:=λl=>k (by simpa using l);have e:kx i.sl t=kx f.sl t:=by unfold kx;rw[m t d]
 rw[e];exact h.sl t;have b:(if D.contains t then AV.dead else kx i.sl t)=.maybe g c v:=o;split at b;cases b;rename_i k;have d:=λl=>k (by simpa using l);have e:kx i.sl t=kx f.sl t:=by unfold kx;rw[m t d]
 rw[e]at b;exact h.hg t g c v b
def DS(pv:PV)(x:Ef×Option Pan):Prop:=match x.2 with
 |none=>az x.1.need
 |some p=>(p.bad=Y->az x.1.need)/\(p.bad=Z->az p.good/\p.pv=pv)
def qyx{pv:PV}{x:Ef×Option Pan}(h:az (MX pv x)):DS pv x:=by
 obtain⟨e,p⟩:=x;cases p with
 |none=>exact h
 |some p=>exact⟨h.1,h.2⟩
def w8(P:Program)(E:Env)(C:Cx)(b:Nat)(f:Array Oper)(g:List (Ef×Option Pan))(D:List Tmp)(h i:St)(c:List Nat)(a:Act)(w:World):Prop:=
 ∃ d W F l,InvG P E d a w W F l/\(∀ t,t∈W↔∃ k o,f[k]?= U o/\k ∉ c/\o.dst=U t)/\w9 P C b f g i c d/\d.n=i.n/\d.gs=h.gs /\
  (∀ (k:Nat) e p,g[k]?= U (e,U p)->k ∉ c->p.bad=Y)/\((∃ k:Nat,∃ e p,k∈c/\g[k]?= U (e,U p))->d.mem=h.mem/\∀ t,t ∉ D->d.sl t=h.sl t)
def zkk(hC:CxOK P C){D:List Tmp}{G s':St}{c:List Nat}{a:Act}(hi:w8 P E C b ops es D G s' c a w){j:Nat}(hj:j∈c)(hp:c.Pairwise (· < ·))(A:∀ i∈c,i<j->∀ e f,es[i]?= U e->es[j]?= U f->me e.1 f.1=Z)(B:∀ o j' u,ops[j]?= U o->o.guard=U (j',u)->j' ∉ c)(hst:StatOK s'.n ops){pv:PV}(O:∀ (i:Nat) x,es[i]?= U x->DS pv x)(hwr:∀ f p,es[j]?= U (f,p)->(f.wr ≠ [] \/ ∃ t,f.dst=U t/\t ∉ D)->∀ (k:Nat) e q,es[k]?= U (e,U q)->k ∉ c)(hn0:G.n=s'.n)(K:Act->World->Prop)(Q:Exit->Act->World->Prop)(hK:∀ M w',w8 P E C b ops es D G s' (c.erase j) M w'->K M w')(hQ:(∃ k:Nat,∃ e p,es[k]?= U (e,U p)/\p.bad=Z)->∀ M w',I P E ⟨G.n,Cb D G.sl,G.mem,G.gs⟩ M w'->Q (.panic [{ v:=pv.val,recovered:=Y }]) M w'):wpOp P ops Q j K a w:=by
 obtain⟨st,W,F,γ,H,hW,hruns,hn,hgs,N,L⟩:=hi;obtain⟨o,f,p,ho,hf,heff,hpan,hr⟩:=V8 c st hruns hp hj A;have hnd:=Cl hp;have d:∀ k,k ∉ c.erase j↔k=j\/k ∉ c:=λk=>by rw[hnd.mem_erase_iff];constructor;intro h;by_cases y:k=j;exact .inl y;exact .inr λh'=>h ⟨y,h'⟩;rintro(h|h) ⟨z,h2⟩;exact z h;exact h h2
 unfold wpOp;rw[ho];simp only;have hg:=O j _ hf;by_cases m:∃ q,p=U q/\q.bad=Z;obtain⟨q,rfl,hq⟩:=m;obtain⟨hgq,hpv⟩:=hg.2 hq;have s:=L ⟨j,f,q,hj,hf⟩;have l:=zi9 hC (K:=K) (Q:=Q) H hpan hq hgq (λw' S=>by rw[hpv];refine hQ ⟨j,f,q,hf,hq⟩ a w' ?_;obtain⟨F1,γ1,S⟩:=S;rw[hn0,<- hn,<- s.1,<- hgs];exact⟨F1,γ1,zam S s.2⟩)
 have hw:Region.wanted o (yielded ops a.tmps)=true:=by simp[Region.wanted,l.1]
 rw[uf0 hw];exact .inl l.2;have hneed:az f.need:=by
  cases p with
  |none=>exact hg
  |some q=>
   refine hg.1 ?_;cases hq:q.bad with
   |false=>rfl
   |true=>exact absurd ⟨q,rfl,hq⟩ m
 have l:=Om (Γ:=⟨gP C,λ_=>V⟩) ⟨qyh hC,λ_ _ h=>(nomatch h)⟩ H heff hneed (λx hx=>⟨by rw[hn];exact hst.lt j o x ho hx,λhxW=>by
   obtain⟨k,ok,hok,y,hd⟩:=(hW x).1 hxW;have:=hst.once j k o ok x ho hok hx hd;subst this;exact y hj⟩)
  (λj' u g hg hd=>by
   have z:=B o j' u ho hg;cases ho':ops[j']? with
   |none=>rw[ho']at hd;cases hd
   |some o'=>rw[ho']at hd;exact(hW g).2 ⟨j',o',ho',z,hd⟩)
  K Q (λM w' F' γ' R=>hK M w' ⟨f.go st,_,F',γ',R,λt=>?_,hr,hn,hgs,λk e q y r=>?_,λhex=>?_⟩)
 split;rename_i hw;rw[uf0 hw]at l;exact .inl l;rename_i hw;rw[uf1 hw]at l;exact l;rw[udt,hW];constructor;rintro(h|⟨k,ok,z,h2,h3⟩);exact⟨j,o,ho,(d j).2 (.inl rfl),by simpa using h⟩;exact⟨k,ok,z,(d k).2 (.inr h2),h3⟩;rintro⟨k,ok,z,h2,h3⟩;rcases(d k).1 h2 with rfl|h
 rw[ho]at z;cases z;exact .inl (by simp[h3]);exact .inr ⟨k,ok,z,h,h3⟩;rcases(d k).1 r with rfl|h
 rw[hf]at y;cases y;cases hq:q.bad with
 |false=>rfl
 |true=>exact absurd ⟨q,rfl,hq⟩ m
 exact N k e q y h;obtain⟨k,e,q,y,T⟩:=hex;have r:=ua8 y;have s:=L ⟨k,e,q,r,T⟩;refine⟨?_,λt ht=>?_⟩;show aB st.mem f.wr=G.mem;have hnil:f.wr=[]:=by apply Classical.byContradiction;intro hne;exact hwr f p hf (.inl hne) k e q T r
 rw[hnil];exact s.1;show fX st.sl f.dst f.v t=G.sl t;rw[<- s.2 t ht];cases hx:f.dst with
 |none=>rfl
 |some x=>
  have hne:t≠x:=λhtx=>by subst htx;exact hwr f p hf (.inr ⟨t,hx,ht⟩) k e q T r
  exact uf1 hne
def zr3(h:I5 ops.toList es=Z){j:Nat}{f:Ef}{p:Option Pan}(l:es[j]?= U (f,p))(g:f.wr ≠ []){k:Nat}{e:Ef}{q:Pan}(m:es[k]?= U (e,U q)):((iK [] ops.toList).getD j 0).testBit k=true:=by
 unfold I5 at h;rw[uc9]at h;have c:=(uak.1 l).1;have d:=(uak.1 m).1;have a:=h j (uea.2 c);rw[l]at a;split at a;rename_i r s n b o;cases b;rw[udu]at a;rcases a with a|a
 exact absurd (by simpa using a) g;rw[uc9]at a;have i:=a k (uea.2 d);rw[m]at i;rw[uah,o];exact i;cases a
def qrm{j:Nat}{f:Ef}{p:Option Pan}{t:Tmp}(g:es[j]?= U (f,p))(i:f.dst=U t)(n:t ∉ xo ops.toList es){b:Nat}(l:(iK [] ops.toList)[j]?= U b){k:Nat}{e:Ef}{q:Pan}(h:es[k]?= U (e,U q)):b.testBit k=true:=by apply Classical.byContradiction;intro m;apply n;have c:=(uak.1 g).1;have d:=(uak.1 h).1;refine ub9.2 ⟨j,uea.2 c,?_⟩;rw[g,l];show(if _ then V else f.dst)=U t;rw[uf1,i];intro a;rw[uc9]at a;have:=a k (uea.2 d);rw[h]at this;exact m this
def ZI(hC:CxOK P C){D:List Tmp}(hD:D=xo ops.toList es){s0 s':St}(O:StatOK s'.n ops)(S:uN ops.toList (es.map (·.1))=Z)(T:I5 ops.toList es=Z){pv:PV}(B:∀ (i:Nat) x,es[i]?= U x->DS pv x)(hn0:s0.n=s'.n)(Q:Exit->Act->World->Prop)(hQ:∀ a w,w8 P E C b ops es D s0 s' [] a w->Q .normal a w)(hQp:(∃ k:Nat,∃ e p,es[k]?= U (e,U p)/\p.bad=Z)->∀ a' w',I P E ⟨s0.n,Cb D s0.sl,s0.mem,s0.gs⟩ a' w'->Q (.panic [{ v:=pv.val,recovered:=Y }]) a' w'):
  (g:Nat)->∀ (u:List Nat) (c:Array Bool) (a:Act) (w:World),u.length<=g->u.Pairwise (· < ·)->c.size=ops.size->(∀ i,i<ops.size->(c.getD i Z=Y↔i∈u))->(∀ i∈u,i<ops.size) ->
   (∀ k,k<ops.size->k ∉ u->∀ i,((iK [] ops.toList).getD k 0).testBit i=Z->i ∉ u)->w8 P E C b ops es D s0 s' u a w->wpAny P .any ops Q g c a w
 |g,[],c,a,w,_,_,hsz,hl,_,_,hi=>by
  have y:Region.ready .any ops c=[]:=by apply List.eq_nil_iff_forall_not_mem.2;intro i d;obtain⟨W,o,ho,_⟩:=uft.1 d;have L:=(uaf.1 ho).1;simpa using (hl i L).1 W
  cases g with
  |zero=>exact⟨y,hQ a w hi⟩
  |succ g=>exact⟨λ_=>hQ a w hi,λi d=>by rw[y]at d;simp at d⟩
 |0,i::r,_,_,_,R,_,_,_,_,_,_=>by simp at R
 |g+1,i::r,c,a,w,R,hp,hsz,hl,L,H,hi=>by
  have z:i∈Region.ready .any ops c:=by
   have hio:=L i (by simp);refine uft.2 ⟨(hl i hio).2 (by simp),ops[i],by simp,λe he A=>?_⟩;have hback:=O.back i ops[i] (by simp) e he A;have hnot:e.on ∉ i::r:=λhh=>by
    rcases uej.1 hh with h|h
    omega;have:=(uca.1 hp).1 _ h;omega
   have W:=λh=>hnot ((hl e.on (by omega)).1 h);have hsz':e.on<c.size:=by omega
   simp only[uac,uam hsz']at W |-;simpa using W
  refine⟨λy=>by rw[y]at z;simp at z,λj hj=>?_⟩;obtain⟨hj1,o,ho,F⟩:=uft.1 hj;have hjlt:=(uaf.1 ho).1;have G:=(hl j hjlt).1 hj1;have s:∀ b,c.getD b Y=Z->b<ops.size/\b ∉ i::r:=λb A=>by
   have hbs:b<c.size:=by
    rcases uer b c.size with h|h
    exact h;simp[ua1 h]at A
   refine⟨by omega,λd=>?_⟩;have:=(hl b (by omega)).2 d;simp only[uac,uam hbs,ude]at A this;rw[A]at this;cases this
  obtain⟨m,M,hm2⟩:=(NO ops.toList []).2 j o (by simpa using ho);simp at M;have N:∀ b,((iK [] ops.toList).getD j 0).testBit b=Z->b ∉ i::r:=λb A=>by
   rw[uah,M]at A;obtain⟨e,he,hb',hor⟩:=hm2 b A;obtain⟨W,h2⟩:=s e.on (F e he hb');rcases hor with rfl|h
   exact h2;exact H e.on W h2 b h
  have hnd:=Cl hp;refine zkk hC hi G hp (λk K l e f he hf=>?_) (λo' j' want ho' hg d=>?_) O B (λf p hf hne k e q K=>?_) hn0 _ Q (λa' w' h'=>?_) hQp;have he':(es.map (·.1))[k]?= U e.1:=by rw[uco,he];rfl
  have hf':(es.map (·.1))[j]?= U f.1:=by rw[uco,hf];rfl
  exact(YP S he' hf' l).resolve_left λh=>N k h K;obtain⟨_,e,he,heq,A⟩:=O.guard j o' j' want ho' hg;rw[ho]at ho';cases ho';have:=(s e.on (F e he A)).2;rw[heq]at this;exact this d;rcases hne with hne|⟨t,hdt,htD⟩
  exact N k (zr3 T hf hne K);refine N k ?_;rw[uah,M];exact qrm hf hdt (hD ▸ htD) M K;refine ZI hC hD O S T B hn0 Q hQ hQp g _ (c.setIfInBounds j Z) a' w' ?_ (Zo hp j) (by simpa using hsz) (λk K=>?_) (λk K=>L k (ua8 K)) (λk K hkr b A=>?_) h';rw[List.length_erase_of_mem G];omega;rw[hnd.mem_erase_iff];by_cases l:j=k;subst l;simp[hsz];simp only[uac,uaa l];rw[<- uac,hl k K];constructor;exact λh=>⟨Ne.symm l,h⟩;exact λh=>h.2;rw[hnd.mem_erase_iff]at hkr |-;rintro⟨W,h2⟩;by_cases l:k=j;subst l;exact N b A h2;exact H k K (λhh=>hkr ⟨l,hh⟩) b A h2
def qc8{d:St}{all:List (Ef×Option Pan)}{a:Tr}{Q:XE->St->Prop}:{ps:List Pan}->(PN d all a ps).sat Q->(∃ p∈ps,p.bad=Z/\az (all.flatMap (MX p.pv))/\Q (.panic p.pv) d)\/((∀ p∈ps,p.bad=Y)/\a.sat Q)
 |[],h=>.inr ⟨λp g=>by simp at g,h⟩
 |p::r,h=>by
  cases e:p.bad with
  |true=>obtain⟨b,c⟩:=lz _ (h.1 e);exact .inl ⟨p,by simp,e,b,c⟩
  |false=>
   rcases qc8 (h.2 e)with ⟨q,b,c⟩|⟨b,c⟩
   exact .inl ⟨q,ubj _ b,c⟩;refine .inr ⟨λq f=>?_,c⟩;rcases uej.1 f with rfl|f
   exact e;exact b q f
def Tv{A:Type}{f:A->List Prop}:{l:List A}->az (l.flatMap f)->∀ x∈l,az (f x)
 |[],_,x,a=>by simp at a
 |y::r,h,x,a=>by
  obtain⟨b,c⟩:=lj.1 h;rcases uej.1 a with rfl|a
  exact b;exact Tv c x a
def zkl(hC:CxOK P C){id:Nat}:nI P E (.region id ops Z) (OG P C b ops.toList):=by
 intro s t h Q hq a w r;unfold OG at h;split at h<;>try trivial
 rename_i M;split at h<;>try trivial
 rename_i f s' m;split at h<;>try trivial
 rename_i B;cases h;have hn:=qau _ _ _ _ m;have hst:StatOK s'.n ops:=by rw[hn];exact HM M
 have L:w9 P C b ops f s' (List.range' 0 ops.size) s:=by have:=qay ops.toList 0 s f m (λi o r=>by simpa using r) (λi e r=>by simpa using r);simpa using this
 have hlen:f.length=ops.size:=by have:=qat _ _ _ _ m;simpa using this
 obtain⟨F,γ,r⟩:=r;have u:∀ d,InvG P E s a d [] F γ->w8 P E C b ops f (xo ops.toList f) s s' (List.range' 0 ops.size) a d:=λd l=>by refine⟨s,[],F,γ,l,λt=>?_,L,hn.symm,rfl,λk e p A c=>?_,λ_=>⟨rfl,λ_ _=>rfl⟩⟩;constructor;intro hh;simp at hh;rintro⟨k,o,A,c,_⟩;exfalso;apply c;rw[ucw];have:=(uaf.1 A).1;omega;exfalso;apply c;rw[ucw];have:=(uak.1 A).1;omega
 have key:∀ pv:PV,(∀ (i:Nat) x,f[i]?= U x->DS pv x)->(∀ y d,w8 P E C b ops f (xo ops.toList f) s s' [] y d->fR P E Q .normal y d) ->
   ((∃ k:Nat,∃ e p,f[k]?= U (e,U p)/\p.bad=Z)->∀ y d,I P E ⟨s.n,Cb (xo ops.toList f) s.sl,s.mem,s.gs⟩ y d->fR P E Q (.panic [{ v:=pv.val,recovered:=Y }]) y d)->(Code.region id ops Z).wp P (fR P E Q) a w:=by
  intro pv hg R T;refine wp_region_any hC.mo ?_;refine ZI hC rfl hst B.1 B.2 hg hn.symm _ R T ops.size (List.range' 0 ops.size) _ a _ (by simp) uaw (by simp) (λi l=>?_) (λi l=>?_) (λk A c=>?_) (u _ (WX r));simp only[ucw,uac,uas,l,if_true,ude,true_iff];omega;rw[ucw]at l;omega;exfalso;apply c;rw[ucw];omega
 rcases qc8 hq with ⟨p,hp,D,O,hQ⟩|⟨hno,H⟩
 refine key p.pv (λi x N=>qyx (Tv O x (ubg N))) ?_ (λ_ y d hiw=>⟨.panic p.pv,_,rfl,hiw,hQ⟩);rintro y d ⟨st,W,F',γ',z,_,_,_,_,G,_⟩;obtain⟨x,N,hxp⟩:=ub9.1 hp;obtain⟨i,r⟩:=ubs N;obtain⟨e,q⟩:=x;subst hxp;have:=G i e p r (by simp);rw[D]at this;cases this;obtain⟨K,hq'⟩:=NY _ H;have g:∀ (k:Nat) e p,f[k]?= U (e,U p)->p.bad=false:=λk e p A=>hno p (ub9.2 ⟨(e,U p),ubg A,rfl⟩);refine key ⟨0,.i64,0⟩ (λi x N=>?_) ?_ ?_;obtain⟨e,p⟩:=x;have S:=K e (ufa.2 ⟨(e,p),ubg N,rfl⟩);cases p with
 |none=>exact S
 |some q=>exact⟨λ_=>S,λD=>by rw[g i e q N]at D;cases D⟩
 rintro y d ⟨st,W,F',γ',z,_,hr,_⟩;have hr':=hr;subst hr';exact⟨.normal,_,rfl,⟨F',γ',rE z⟩,hq'⟩;rintro⟨k,e,p,A,D⟩;rw[g k e p A]at D;cases D
end
def TO:List Oper->Option (FuncId×Tmp)
 |[⟨V,.defer ⟨.value (.func f),a,_⟩,_,_,_,V⟩]=>match a.toList with
  |[.tmp b]=>U (f,b)
  |_=>V
 |_=>V
def Pd(P:Program)(C:Cx)(run:St->Option Tr)(T:TypeId)(k:IntKind)(a:Func)(A:Code)(f:Tmp)(d:List PT)(e:List Ty)(g:ap d):Option (Fr (aa e)):=
 if (a.name == "runtime.NumGoroutine")=Y/\d.length<=a.ntmps then match cQ P C 0 bK A 0 (vL a.ntmps (gk d g))with
  |some (.leaf .normal b)=>match b.sl f with
   |.c (.ptr id 0)=>match run ⟨b.n,b.sl,b.mem,λt=>if t=0 then .c (.ptr id 0)else .dead⟩with
    |some t=>jQ P T k a.results.toList e t
    |none=>V
   |_=>V
  |_=>V
 else V
section
variable {P:Program} {w w':World} {E:Env} {F F':Nat->Prop} {γ γ':Nat->Value}
def qrk{C:Cx}(hC:CxOK P C){run:St->Option Tr}{g:FuncId}{T:TypeId}{fn:Func}{A c:Code}{rid:Nat}{ops:Array Oper}{tp:Tmp}{ps:List PT}{rs:List Ty}{fr:ap ps->Fr (aa rs)}(x0:ap ps)(hf:P.funcs[f]?= some fn)(hb:fn.body=some (.seq A (.seq (.region rid ops false) c)))(hd:TO ops.toList=some (g,tp))(hT:TolOK P g T k)(hR:∀ E,nI P E c run)(hrun:∀ xs,Pd P C run T k fn A tp ps rs xs=some (fr xs)):ag P f ⟨ps,rs,λxs=>(fr xs).get,λxs=>[(fr xs).ok]⟩:=by
 have h0:=hrun x0
 unfold Pd at h0
 split at h0<;>try (cases h0;done)
 rename_i hc
 refine⟨enters hf hb hc.1,λw F xs vs hbd hr hok=>uce hf hb ?_⟩
 have hr':=hrun xs
 unfold Pd at hr'
 simp only[hc,ufw,if_true]at hr'
 split at hr'<;>try (cases hr';done)
 rename_i s1 ht1
 split at hr'<;>try (cases hr';done)
 rename_i id hsl
 split at hr'<;>try (cases hr';done)
 rename_i t ht2
 have hlen:vs.length=ps.length:=v9 hr
 have hstart:=z9 (D:=[]) (n:=fn.ntmps) hbd (λR=>pK hr) (by have:=hc.2;omega)
 have hsz:(vs.toArray).size=vs.length:=by simp
 refine wp_seq (wp_mono (iG hC A 0 (bm A 0) ht1 (Q:=λe s=>e=.normal/\s=s1) ⟨rfl,rfl⟩ hstart) ?_)
 rintro e a1 w1 ⟨xe,s,rfl,⟨F1,γ1,hi⟩,rfl,rfl⟩
 have hv0:=ux hi tp
 rw[hsl]at hv0
 obtain⟨_,b0,hR0,hv0⟩:=hv0
 refine wp_seq (ufu ?_)
 unfold TO at hd
 split at hd<;>try (cases hd;done)
 rename_i f0 args ats ty pos aft hops
 split at hd<;>try (cases hd;done)
 rename_i tp0 hargs
 simp at hd
 obtain⟨rfl,rfl⟩:=hd
 obtain⟨ol⟩:=ops
 subst hops
 have hargs':args = #[.tmp tp0]:=by
  obtain⟨l⟩:=args
  simp only at hargs
  rw[hargs]
 subst hargs'
 have hev:a1.eval (.tmp tp0)=.pointer (some ⟨b0,0,none⟩):=hv0
 have hexec:(execOp a1.eval ⟨none,.defer ⟨.value (.func f0),#[.tmp tp0],ats⟩,ty,pos,aft,none⟩).run P w1=.ok (.defer { target:=.fn (.func f0) #[],args:=#[.pointer (some ⟨b0,0,none⟩)] }) w1:=by
  have hef:a1.eval (.func f0)=.func (.func f0) #[] #[]:=rfl
  simp[execOp,resolve,hev,hef,Deferred.ofValue]
 have hrange:List.range (#[(⟨none,.defer ⟨.value (.func f0),#[.tmp tp0],ats⟩,ty,pos,aft,none⟩:Oper)]:Array Oper).size=[0]:=rfl
 unfold wpOps
 simp
 have hw:Region.wanted (⟨none,.defer ⟨.value (.func f0),#[.tmp tp0],ats⟩,ty,pos,aft,none⟩:Oper) (yielded #[(⟨none,.defer ⟨.value (.func f0),#[.tmp tp0],ats⟩,ty,pos,aft,none⟩:Oper)] a1.tmps)=true:=rfl
 refine .inl ?_
 unfold Oper.wp
 rw[hexec]
 have hi':InvG P ⟨w,F,λ_=>.pointer (some ⟨b0,0,none⟩),[{ target:=.fn (.func f0) #[],args:=#[.pointer (some ⟨b0,0,none⟩)] }],w.heap.size,ufd _⟩ ⟨s.n,s.sl,s.mem,λt=>if t=0 then .c (.ptr id 0)else .dead⟩ { a1 with defers:={ target:=.fn (.func f0) #[],args:=#[.pointer (some ⟨b0,0,none⟩)] }::a1.defers } w1 [] F1 γ1:=by
  refine⟨hi.n,?_,hi.step,hi.mem,hi.sl,hi.hg,λt=>?_⟩
  ·show _::a1.defers=[_]
   rw[hi.df]
  ·show aK P w1 F1 _ (if t=0 then .c (.ptr id 0)else .dead) _
   split
   ·exact⟨rfl,b0,hR0,rfl⟩
   ·trivial
 have hwp:=hR ⟨w,F,λ_=>.pointer (some ⟨b0,0,none⟩),[{ target:=.fn (.func f0) #[],args:=#[.pointer (some ⟨b0,0,none⟩)] }],w.heap.size,ufd _⟩ _ _ ht2 _ (uc hr' hok) _ _ ⟨F1,γ1,hi'⟩
 refine wp_mono hwp ?_
 rintro e a2 w2 ⟨xe,s2,rfl,⟨F2,γ2,hi2⟩,hx⟩
 have hinv:∀ W,(invoke (.fn (.func f0) #[]) #[.pointer (some ⟨b0,0,none⟩)]).run P W=.ok (.enter f0 #[.pointer (some ⟨b0,0,none⟩)]) W:=λW=>by
  have:=hT.enter #[.pointer (some ⟨b0,0,none⟩)] W
  simp[invoke,this]
 have hfin:(∃ n,eh P fn.results.toList rs s2=some (Fr.needL n (.val (fr xs).get))/\az n)->Leaves P fn a2.tmps (iB w F rs (fr xs).get) a2.defers .returning w2:=by
  rintro⟨n,hend,hn⟩
  rw[hi2.df]
  refine ufi (by simp) (hinv w2) ((hT.idle _ w2).mono ?_)
  rintro e u' w' ⟨⟨v,rfl⟩,rfl,rfl⟩
  exact xu hi2 rfl hend hn
 cases xe with
 |normal=>exact hfin hx
 |ret=>exact hfin hx
 |exit _=>exact hx.elim
 |val _=>exact hx.elim
 |jump _=>exact hx.elim
 |panic p=>
  obtain⟨s',n,hs',hin,hend,hn⟩:=hx
  obtain⟨hty,hk,hlow,b,tyb,old,hG,hheap,hi3⟩:=qc1 hi2 hs' hin
  have hG':=hG
  simp at hG'
  subst hG'
  show Leaves P fn a2.tmps _ a2.defers (.panicking [{ v:=p.val,recovered:=false }]) w2
  rw[qd9 (by rw[hty];exact hlow),hi2.df,hty,hk]
  refine ufi (by simp) (hinv w2) ((hT.told b0 tyb old p.n w2 hheap).mono ?_)
  rintro e u' w' ⟨⟨v,rfl⟩,rfl,rfl⟩
  exact xu hi3 rfl hend hn
end
section
variable {P:Program} {E:Env}
def zr8 {c rest:Code} {t L N h R:LS} {id l:Nat} {A:t.X->Fr (Rd L.X h.X R.X)} {f:L.X->Fr (Rd L.X h.X R.X)} (D:findLabel c l=U rest) (B:iU P l c t ⟨n,id,L,h,R⟩ A) (C:iU P l rest L ⟨n,id,L,h,R⟩ f)
  {u:t.X->Fr (Rd N.X h.X R.X)} {F:L.X->Fr (Rd N.X h.X R.X)} {inv:L.X->Prop} {μ:L.X->Nat}
  (k:∀ x,∀ Q:Rd N.X h.X R.X->Prop,(u x).s7 Q->(A x).s7 λ
   |.next g=>inv g/\(F g).s7 Q
   |.out y=>Q (.out y)
   |.back z=>Q (.back z)
   |.pan p=>Q (.pan p))
  (s:∀ x,inv x->∀ Q:Rd N.X h.X R.X->Prop,(F x).s7 Q->(f x).s7 λ
   |.next g=>inv g/\μ g<μ x/\(F g).s7 Q
   |.out y=>Q (.out y)
   |.back z=>Q (.back z)
   |.pan p=>Q (.pan p)):af P (.scope c) t ⟨n,id,N,h,R⟩ u:=by
 intro E a w x Q G H;refine wp_scope_jumps l (λa w=>∃ m,∃ x,inv x/\μ x=m/\I P E (L.tpl n x) a w/\(F x).s7 Q) (λa w=>yd λm=>∃ x,inv x/\μ x=m/\I P E (L.tpl n x) a w/\(F x).s7 Q) D ?_ ?_
 ·refine wp_mono (B E a w x _ G (k x Q H)) ?_;rintro e T w' ⟨r,d,o⟩;cases r with
  |next g=>obtain⟨rfl,b⟩:=o;exact⟨rfl,⟨μ g,g,d.1,rfl,b,d.2⟩⟩
  |out y=>obtain⟨rfl,b⟩:=o;exact⟨.out y,d,rfl,b⟩
  |back z=>obtain⟨rfl,b⟩:=o;exact⟨.back z,d,rfl,b⟩
  |pan v=>obtain⟨rfl,b⟩:=o;exact⟨.pan v,d,rfl,b⟩
 ·rintro a w ⟨m,o⟩;obtain⟨⟨g,K,M,O,S⟩,_⟩:=ye (p:=λm=>∃ x,inv x/\μ x=m/\I P E (L.tpl n x) a w/\(F x).s7 Q) ⟨m,o⟩;refine wp_mono (C E a w g _ O (s g K Q S)) ?_;rintro e W w1 ⟨r,d,i⟩;cases r with
  |next y=>obtain⟨rfl,b⟩:=i;refine⟨rfl,⟨μ y,y,d.1,rfl,b,d.2.2⟩,?_⟩;rw[<- M];exact ucd ((ye ⟨μ y,y,d.1,rfl,b,d.2.2⟩).2 (μ y) ⟨y,d.1,rfl,b,d.2.2⟩) d.2.1
  |out y=>obtain⟨rfl,b⟩:=i;exact⟨.out y,d,rfl,b⟩
  |back z=>obtain⟨rfl,b⟩:=i;exact⟨.back z,d,rfl,b⟩
  |pan v=>obtain⟨rfl,b⟩:=i;exact⟨.pan v,d,rfl,b⟩
end
structure GrowOK (P:Program) (f:FuncId) (e:TypeId) (T:Ty) (bytes:Nat):Prop where
 enters:∀ args w,(callFunc f args).run P w=.ok (.enter f args) w
 calls:∀ (w:World) (n:Nat),n<=maxLen->n*bytes<=140737488355328->Calls P f #[.slice none 0 0,.int .i64 n] w λen w'=>
  ∃ v,en=.returned v/\w.grownBy w' none/\w'.ownsRow w.heap.size e T.size v 0 []
def Nc(f:FuncId)(e:TypeId)(T:Ty)(bytes:Nat)(d:Nat)(g:FuncId)(a:List AV)(s:St):Option Tr:=
 if g=f/\e<cJ then match a,s.mem d with
  |[.c .nil,.c (.int .i64 n)],V=>U (needL [0<=n/\n<=maxLen/\n*bytes<=140737488355328] (.leaf (.val (.c (.own d))) ⟨s.n,s.sl,upd s.mem d (.arr e T []),s.gs⟩))
  |_,_=>V
 else V
def qM(w:World)(o:Obj)(i:Nat)(h:i<w.heap.size):(w.alloc o).heap[i]?= w.heap[i]? := by
 first
  |exact heap_alloc_old w o h
  |exact heap_alloc_old w o i h
def zi0{a:Nat}{size:Nat}(h:w.ownsRow B e size v n xs)(b:a<=B):w.ownsRow a e size v n xs:=
 uR h λg c=>ueq b (h.lt g c).1
def qy4{T:Ty}{bytes:Nat}(h:GrowOK P f e T bytes):jC P (Nc f e T bytes):=by
 intro d g L s t y;unfold Nc at y;split at y<;>try trivial
 rename_i z;obtain⟨rfl,B⟩:=z;split at y<;>try trivial
 rename_i n C;cases y;refine⟨h.enters,λE a w F γ vs Q k hr W=>?_⟩;obtain⟨⟨M,h1,h2⟩,D⟩:=W
 match vs,hr with
 |[v1,v2],⟨⟨_,G⟩,⟨_,H,_⟩,_⟩=>
  have N:=G;have O:=H;subst N;subst O;obtain⟨m,rfl⟩:∃ m:Nat,n=m:=⟨n.toNat,by omega⟩;have R:m*bytes<=140737488355328:=by omega
  refine(h.calls w m (by omega) R).mono λen w2 S=>?_;obtain⟨v,rfl,A,b⟩:=S;have o:=qA k;have r:=zi0 b o;obtain⟨u,m1⟩:=yv (l:=([]:List T.q)) k.mem (eE k) o C A r (λg z=>(b.lt g z).1) (λi x hx=>by simp at hx) B;have p:InvG P E ⟨s.n,s.sl,upd s.mem d (.arr e T []),s.gs⟩ a w2 [] F (dG γ d v):=by refine⟨k.n,k.df,?_,m1,λt=>(k.sl t).mono u.hF u.hw u.hR,k.hg,λt=>u.repA (k.gh t)⟩;obtain⟨K,M⟩:=k.step;exact⟨K,M.trans u⟩
  exact⟨.val (.c (.own d)),_,F,_,D,p,v,rfl,o7 (nj b)⟩
section
variable {F:Fence} {n:Nat} {P:Program} {w:World}
def DZ(F:Fence)(n:Nat)(P:Program)(k:Nat)(m:Array Value)(b:α->Array Value)(E:α->World->World->Prop)(i:World->World->Prop)(S:List α->Prop)(N:Nat)(g:World):Prop:=
 ∀ (l:Nat) (o:List α->World->Prop) (W:World),Below g.heap.size g W->AbidesFrom W.heap.size o ->
  (∀ a x d f,o a d->Below d.heap.size d f->E x d f->a.length<N->YieldAt F (n-1) P l (b x) f λe c=>e=.returned (.bool Z)/\o (a++[x]) c/\i f c) ->
  o [] W->CallsIn F n P k (#[.func (.yield l) #[] #[]]++m) W λe c=>(∃ v,e=.returned v)/\∃ h,S h/\o h c
def zlt(b:Nat)(c:World->World->Prop)(I:List α->World->Prop)(d:List α)(W:World)(e:Exit)(_:Act)(a:World):Prop:=
 e=.normal/\KeepsFrom b W a/\c W a/\I d a
def zr1 {g:Operand} {ps:Array Tmp} {assign body:Code} {Q:Exit->Act->World->Prop} {a:Act}
  (hro:F.round=none) (h1:1<=n) {gf:Nat} {lb:Array Value} (hg:a.eval g=.func (.func gf) #[] lb) (hFg:F.fn gf) (eg:∀ args w,(callFunc gf args).run P w=.ok (.enter gf args) w)
  {encs:α->Array Value} {E:α->World->World->Prop} {Kp:World->World->Prop} {S:List α->Prop} {N:Nat} (hseq:DZ F (n-1) P gf lb encs E Kp S N w)
  (hKt:∀ {A B C:World},Kp A B->Kp B C->Kp A C) (hKb:∀ (W:World) (l:Nat) (o o':Obj),w.heap.size<=l->W.heap[l]?= some o->o.isCells=false->Kp W (W.putObj l o')) (hps:∀ x,(encs x).size=ps.size)
  (I:List α->World->Prop) (hI:OwnFrom w.heap.size I) (h0:I [] w) (A:List α->α->Act->World->Prop) (hA:∀ pre x a',OwnFrom w.heap.size (λ(_:Unit) W=>A pre x a' W))
  (hassign:∀ (l:Nat) (pre:List α) (x:α) (W0 W:World) (K:Act->World->Prop),I pre W0->Below W0.heap.size W0 W->E x W0 W->(∀ a' W',KeepsFrom w.heap.size W W'->Kp W W'->A pre x a' W'->K a' W') ->
   assign.wpIn (F.inRound l) (n-1-1) P (Exit.then K (λ_ _ _=>False)) { tmps:=(ps.zip (encs x)).foldl (λt (p,v)=>t.setIfInBounds p v) a.tmps,defers:=[] } W)
  (hbody:∀ (l:Nat) (pre:List α) (x:α) (a':Act) (W:World),A pre x a' W->pre.length<N->body.wpIn (F.inRound l) (n-1-1) P (zlt w.heap.size Kp I (pre++[x]) W) a' W)
  (hdone:∀ (D:Nat) (xs:List α) (W:World),w.heap.size<=D->S xs->I xs W->W.heap[D]?= some (.deferred (some []))->Q .normal { a with defers:={ target:=.collected D,args:=#[] }::a.defers } W) :
  (Code.rangeFunc g ps assign body).wpIn F n P Q a w:=by
 refine wpIn_rangeFunc λfn hfn=>?_;rw[hro]
 let mk:LoopState->Option Code->Loop:=λst pe=>{ state:=st,pending:=pe,fn,tmps:=a.tmps,params:=ps,assign,body,defers:=w.heap.size }
 let d0:Obj:=.deferred (some [])
 have hsz:(w.alloc d0).heap.size=w.heap.size+1:=by simp
 have hL:((w.alloc d0).alloc (.loop (mk .ready none))).heap[w.heap.size+1]?= some (.loop (mk .ready none)):=by
  have:=World.alloc_heap_new (w.alloc d0) (.loop (mk .ready none))
  rwa [hsz]at this
 have hD:((w.alloc d0).alloc (.loop (mk .ready none))).heap[w.heap.size]?= some d0:=
  (udc _ _ _ (by rw[hsz];omega)).trans (World.alloc_heap_new w _)
 have hbel:Below w.heap.size w ((w.alloc d0).alloc (.loop (mk .ready none))):=((ufn _ w).alloc (ufd _) _).alloc (by rw[hsz];omega) _;generalize hW1:(w.alloc d0).alloc (.loop (mk .ready none))=W1 at hL hD hbel;have hI1:I [] W1:=by rw[<- hW1];exact hI.alloc _ (hI.alloc _ h0)
 have hs1:W1.heap.size=w.heap.size+2:=by rw[<- hW1];simp
 refine⟨w.heap.size+1,[{ target:=.collected w.heap.size,args:=#[] }],W1,{ target:=.fn (.func gf) lb,args:=#[.func (.yield (w.heap.size+1)) #[] #[]] },W1,gf,
  #[.func (.yield (w.heap.size+1)) #[] #[]]++lb,W1,?_,?_,?_,?_,λ_=>h1,?_⟩
 ·rw[<- hW1];exact run_enterLoop_outer _ _ _ _ _
 ·simp only[resolve,hg];simp[go_sem]
 ·intro f' hf';simp[Target.leads]at hf';subst hf';exact hFg
 ·simp[invoke,eg]
 have hwalk:∀ {A:World} {row:Option Nat},(∀ r,row=some r->W1.heap.size<=r/\∃ o:Obj,A.heap[r]?= some o/\o.isWalk=true)->∀ r,row=some r->w.heap.size<=r/\∃ o:Obj,A.heap[r]?= some o/\o.isCells=false:=λhr r e=>by
  obtain⟨hb,o,ho,hw⟩:=hr r e;exact⟨by omega,o,ho,Obj.not_cells_of_walk hw⟩
 refine(hseq (w.heap.size+1) (λpre W=>I pre W/\W.heap[w.heap.size+1]?= some (.loop (mk .ready none))/\W.heap[w.heap.size]?= some d0) W1 hbel ?_ ?_ ⟨hI1,hL,hD⟩).mono ?_
 ·rintro s X Y row ⟨q1,q2,q3⟩ hgr hr;exact⟨hI s X Y row q1 hgr (hwalk hr),(grownBy_keeps hgr (λr e=>(hr r e).2) q2 rfl).trans q2,(grownBy_keeps hgr (λr e=>(hr r e).2) q3 rfl).trans q3⟩
 ·rintro pre x W0 W ⟨hi0,hl0,hd0⟩ hb0 hE hlen;have hl:=(hb0.block _ (uaf.1 hl0).1).trans hl0;have hd:=(hb0.block _ (uaf.1 hd0).1).trans hd0;refine⟨fn,_,assign,body,run_yield hl (hps x),roundIn_of_wpIn hfn (hassign _ pre x W0 W _ hi0 hb0 hE ?_)⟩;intro a' Wa hka hkpa hax;have hla:=hka.same _ _ (by omega) hl rfl;have hda:=hka.same _ _ (ufd _) hd rfl;have hlt:=(uaf.1 hla).1;refine⟨_,run_beginRound hla rfl,?_⟩;have hl2:(Wa.putObj (w.heap.size+1) (.loop { mk .ready none with state:=.busy })).heap[w.heap.size+1]?= some (.loop { mk .ready none with state:=.busy }):=World.putObj_heap_same hlt;have hd2:(Wa.putObj (w.heap.size+1) (.loop { mk .ready none with state:=.busy })).heap[w.heap.size]?= some d0:=(World.putObj_heap_other (by omega)).trans hda;have hk2:Kp Wa (Wa.putObj (w.heap.size+1) (.loop { mk .ready none with state:=.busy })):=hKb _ _ _ _ (by omega) hla rfl;refine wpIn_mono (hbody _ pre x a' _ ((hA pre x a').putObj (s:=()) _ hax (by omega) hla rfl) hlen) ?_;rintro e a3 W3 ⟨rfl,hk3,hkp3,hi3⟩;have hl3:=hk3.same _ _ (by omega) hl2 rfl;have hd3:=hk3.same _ _ (ufd _) hd2 rfl;have hend:=run_endRound (P:=P) none hl3;refine⟨_,_,hend,rfl,⟨hI.putObj _ hi3 (by omega) hl3 rfl,World.putObj_heap_same (uaf.1 hl3).1,(World.putObj_heap_other (by omega)).trans hd3⟩,hKt hkpa (hKt (hKt hk2 hkp3) (hKb _ _ _ _ (by omega) hl3 rfl))⟩
 ·rintro e W2 ⟨⟨v,rfl⟩,xs,hS,hi,hl,hd⟩;exact⟨none,_,run_endLoop hl (by simp),hdone _ xs _ (ufd _) hS (hI.putObj _ hi (by omega) hl rfl) ((World.putObj_heap_other (by omega)).trans hd)⟩
end
def DY(a w:World):Prop:=a.heap=w.heap/\a.os=w.os/\a.tape=w.tape/\a.output=w.output
structure ToldTwo (P:Program) (g:FuncId) (T:TypeId) (k:IntKind) (m:Nat):Prop where
 enter:∀ args w,(callFunc g args).run P w=.ok (.enter g args) w
 idle:∀ (p q:Addr) (w:World),CallsD P g #[.pointer (some p),.pointer (some q)] .returning w λe u' w'=>(∃ v,e=.returned v)/\u'=.returning/\w'=w
 told:∀ (b1 b2:Nat) (t1 t2:TypeId) (o1 o2:Array Value) (n:Int) (w:World),b1≠b2->w.heap[b1]?= some (.cells o1 t1 (0,0))->o1.size=m->w.heap[b2]?= some (.cells o2 t2 (0,0))->o2.size=1 ->
  CallsD P g #[.pointer (some ⟨b1,0,none⟩),.pointer (some ⟨b2,0,none⟩)] (.panicking [{ v:=.iface T (.agg #[.int k n]),recovered:=false }]) w λe u' w'=>
   (∃ v,e=.returned v)/\u'=.panicking [{ v:=.iface T (.agg #[.int k n]),recovered:=true }]/\DY w' ((w.setRow b1 (Array.replicate m (.int .i64 0))).setRow b2 #[.int k n])
def DF(m:Nat):List AC:=Lrp m (.int .i64 0)
def sy(T:TypeId)(k:IntKind)(m:Nat)(p:PV)(s:St):Option St:=
 match s.gs 0,s.gs 1 with
 |.c (.ptr i 0),.c (.ptr j 0)=>match s.mem i,s.mem j with
  |some (.box e a),U (.box b [_])=>if p.ty=T+1000000/\p.k=k/\i≠j/\a.length=m then U ⟨s.n,s.sl,upd (upd s.mem i (.box e (DF m))) j (.box b [.int k p.n]),s.gs⟩else V
  |_,_=>V
 |_,_=>V
def kJ(P:Program)(T:TypeId)(k:IntKind)(m:Nat)(c:List ResultVar)(a:List Ty):Tr->Option (Fr (aa a))
 |.leaf .ret s=>eh P c a s
 |.leaf .normal s=>eh P c a s
 |.leaf (.panic p) s=>match sy T k m p s with
  |some g=>match eh P c a g with
   |some f=>U (.need (inR k p.n) f)
   |none=>V
  |none=>V
 |.leaf _ _=>V
 |.br b x y=>match kJ P T k m c a x,kJ P T k m c a y with
  |some d,U e=>U (.br b d e)
  |_,_=>V
 |.need p x=>match kJ P T k m c a x with
  |some d=>U (.need p d)
  |none=>V
 |.two p x y=>match kJ P T k m c a x,kJ P T k m c a y with
  |some d,U e=>U (.need (p->d.ok/\d.get=e.get) e)
  |_,_=>V
def TP:List Oper->Option (FuncId×Tmp×Tmp×Tmp)
 |[⟨U d,.makeFunc (.func f) first b,_,_,_,V⟩,⟨V,.defer ⟨.value (.tmp c),a,_⟩,_,_,_,V⟩]=>match first.toList,b.toList,a.toList with
  |[],[.tmp e,.tmp g],[]=>if c=d then U (f,d,e,g)else V
  |_,_,_=>V
 |_=>V
def Pb(P:Program)(C:Cx)(run:St->Option Tr)(T:TypeId)(k:IntKind)(m:Nat)(a:Func)(A:Code)(f g h:Tmp)(d:List PT)(e:List Ty)(l:ap d):Option (Fr (aa e)):=
 if (a.name == "runtime.NumGoroutine")=Y/\d.length<=a.ntmps/\f<a.ntmps then match cQ P C 0 bK A 0 (vL a.ntmps (gk d l))with
  |some (.leaf .normal b)=>match b.sl g,b.sl h with
   |.c (.ptr i 0),.c (.ptr j 0)=>if b.n=a.ntmps then match run (gS ⟨b.n,fX b.sl (U f) .dead,b.mem,λt=>if t=0 then .c (.ptr i 0)else if t=1 then .c (.ptr j 0)else .dead⟩)with
    |some t=>kJ P T k m a.results.toList e t
    |none=>V
    else V
   |_,_=>V
  |_=>V
 else V
section
variable {P:Program} {w w':World} {E:Env} {F F':Nat->Prop} {γ γ':Nat->Value}
def xK{T:TypeId}{l:List ResultVar}{g:List Ty}:{t:Tr} -> {f:Fr (aa g)}->kJ P T k m l g t=U f->f.ok->t.sat λe s=>match e with
  |.ret=>∃ n,eh P l g s=U (Fr.needL n (.val f.get))/\az n
  |.normal=>∃ n,eh P l g s=U (Fr.needL n (.val f.get))/\az n
  |.panic p=>∃ o n,sy T k m p s=U o/\inR k p.n/\eh P l g o=U (Fr.needL n (.val f.get))/\az n
  |_=>False
 |.leaf e s,f,h,a=>by
  cases e with
  |exit i=>simp[kJ]at h
  |val i=>simp[kJ]at h
  |jump i=>simp[kJ]at h
  |normal=>exact xr h a
  |ret=>exact xr h a
  |panic p=>
   simp only[kJ]at h;split at h<;>try trivial
   rename_i o v;split at h<;>try trivial
   rename_i D u;cases h;obtain⟨n,B,r⟩:=xr u a.2;exact⟨o,n,v,a.1,B,r⟩
 |.br b x y,f,h,a=>by
  simp only[kJ]at h;split at h<;>try trivial
  rename_i A C d w;cases h;refine⟨λc=>?_,λc=>?_⟩;have:=xK d (a.1 c);simpa only[Fr.get,c,if_true]using this;have:=xK w (a.2 c);simpa only[Fr.get,c,ub3,ufx]using this
 |.need p x,f,h,a=>by
  simp only[kJ]at h;split at h<;>try trivial
  rename_i A d;cases h;have:=xK d a.2;exact⟨a.1,this⟩
 |.two p x y,f,h,a=>by
  simp only[kJ]at h;split at h<;>try trivial
  rename_i A C d w;cases h;have r:=xK w a.2;refine⟨λz=>?_,r⟩;have:=xK d (a.1 z).1
  rwa [(a.1 z).2]at this
def zan{s:St}{a:Act}(c:InvG P E s a w [] F γ)(h:DY w' w):InvG P E s a w' [] F γ:=by
 obtain⟨f,k,l,m⟩:=h;have e:∀ b:Nat,w'.heap[b]?= w.heap[b]? := λb=>by rw[f]
 have d:Step E.B w F γ s.mem w' F γ s.mem:=⟨λ_ h=>h,λb _=>e b,λ_ _ h=>h,λb _=>e b,k,l,m,by rw[f];exact ufd _,λb p=>by rw[f];exact eE c b p,λ_ h=>.inl h⟩;refine⟨c.n,c.df,?_,c.mem.keep (λ_ h=>h) (λb _=>e b) (λid o b u r=>⟨e b,(jN (c.mem.ob id o u) r).2.1⟩),λt=>(c.sl t).mono d.hF d.hw d.hR,c.hg,λt=>d.repA (c.gh t)⟩;obtain⟨g,i⟩:=c.step;exact⟨g,i.trans d⟩
def qec:(m:Nat) -> {g:Nat->Value->Prop}->(∀ j,j<m->g j (.int .i64 0))->aS P w F R (DF m) g
 |0,_,_=>trivial
 |m+1,_,h=>⟨⟨.int .i64 0,h 0 (by omega),rfl,rfl,by decide,by decide⟩,qec m λj a=>h (j+1) (by omega)⟩
def ziu{a new:Array Value}(h:a.size=new.size):dg a 0 new.toList=new:=by apply ufs;rw[Cs (by simp;omega)];exact h;intro i c b;simp only[dg,List.take_zero,List.getElem_toArray];rw[List.getElem_append_left (by simpa using b)];simp
def zqg{T:TypeId}{p:PV}{s s':St}{a:Act}(c:InvG P E s a w [] F γ)(h:sy T k m p s=U s')(hr:inR k p.n):
  p.ty=T+1000000/\p.k=k/\∃ f g t1 t2 o1 o2,E.G 0=.pointer (U ⟨f,0,V⟩)/\E.G 1=.pointer (U ⟨g,0,V⟩)/\f≠g/\w.heap[f]?= U (.cells o1 t1 (0,0))/\o1.size=m/\w.heap[g]?= U (.cells o2 t2 (0,0))/\o2.size=1 /\
   InvG P E s' a ((w.setRow f (Array.replicate m (.int .i64 0))).setRow g #[.int k p.n]) [] F γ:=by
 unfold sy at h;split at h<;>try trivial
 rename_i i j hg0 hg1;split at h<;>try trivial
 rename_i e cs N c0 o r;split at h<;>try trivial
 rename_i hp;cases h;obtain⟨hp1,hp2,B,b⟩:=hp;have H:=c.gh 0;rw[hg0]at H;have h1:=c.gh 1;rw[hg1]at h1;obtain⟨f,o1,v,K,x,L,M,l,e17⟩:=nM c.mem o H.2;obtain⟨g,o2,y,O,z,Q,R,S,e27⟩:=nM c.mem r h1.2;have C:f≠g:=by rintro rfl;exact c.mem.apart i j _ _ f B o r ⟨_,v,rfl⟩ ⟨_,y,rfl⟩
 have D:dg o1 0 (Array.replicate m (.int .i64 0):Array Value).toList=Array.replicate m (.int .i64 0):=ziu (by simp[l,b]);obtain⟨s1,s2⟩:=so (off:=0) (cs':=DF m) (vs:=(Array.replicate m (.int .i64 0):Array Value).toList) c.mem (eE c) o v x L M (by simp[l,b]) (by simp[DF,l,b]) (by rw[D];exact qec m λj hj=>by simp[hj])
 rw[D]at s1 s2;have A:upd s.mem i (.box e (DF m)) j=U (.box N [c0]):=(gL _ _ (Ne.symm B)).trans r;obtain⟨u,rfl⟩:=Ok (by simpa using S);have hov:dg #[u] 0 [.int k p.n] = #[.int k p.n]:=by simp[dg]
 have W:(w.setRow f (Array.replicate m (.int .i64 0))).heap[g]?= U (.cells #[u] N (0,0)):=(ue1 w f g _ (Ne.symm C)).trans z;obtain⟨s3,s4⟩:=so (off:=0) (cs':=[.int k p.n]) (vs:=[.int k p.n]) s2 s1.bd A y W Q R (by simp) rfl ⟨⟨.int k p.n,by rw[hov];rfl,rfl,rfl,hr⟩,uT⟩;have d:=s1.trans s3;refine⟨hp1,hp2,f,g,e,N,o1,#[u],K,O,C,x,l.trans b,z,rfl,⟨c.n,c.df,?_,s4,λt=>(c.sl t).mono d.hF d.hw d.hR,c.hg,λt=>d.repA (c.gh t)⟩⟩;obtain⟨γ0,H⟩:=c.step;exact⟨γ0,H.trans d⟩
def qrg{C:Cx}(hC:CxOK P C){run:St->Option Tr}{g:FuncId}{T:TypeId}{fn:Func}{A c:Code}{rid:Nat}{ops:Array Oper}{td ta tb:Tmp}{ps:List PT}{rs:List Ty}{fr:ap ps->Fr (aa rs)}(x0:ap ps)(hf:P.funcs[f]?= some fn)(hb:fn.body=some (.seq A (.seq (.region rid ops false) c)))(hd:TP ops.toList=some (g,td,ta,tb))(hT:ToldTwo P g T k m)(hR:∀ E,nI P E c run)(hrun:∀ xs,Pb P C run T k m fn A td ta tb ps rs xs=some (fr xs)):ag P f ⟨ps,rs,λxs=>(fr xs).get,λxs=>[(fr xs).ok]⟩:=by
 have h0:=hrun x0
 unfold Pb at h0
 split at h0<;>try (cases h0;done)
 rename_i hc
 refine⟨enters hf hb hc.1,λw F xs vs hbd hr hok=>uce hf hb ?_⟩
 have hr':=hrun xs
 unfold Pb at hr'
 simp only[hc,ufw,if_true]at hr'
 split at hr'<;>try (cases hr';done)
 rename_i s1 ht1
 split at hr'<;>try (cases hr';done)
 rename_i i j hsl1 hsl2
 split at hr'<;>try (cases hr';done)
 rename_i hsn
 split at hr'<;>try (cases hr';done)
 rename_i t ht2
 have hlen:vs.length=ps.length:=v9 hr
 have hstart:=z9 (D:=[]) (n:=fn.ntmps) hbd (λR=>pK hr) (by have:=hc.2.1;omega)
 have hsz:(vs.toArray).size=vs.length:=by simp
 refine wp_seq (wp_mono (iG hC A 0 (bm A 0) ht1 (Q:=λe s=>e=.normal/\s=s1) ⟨rfl,rfl⟩ hstart) ?_)
 rintro e a1 w1 ⟨xe,s,rfl,⟨F1,γ1,hi⟩,rfl,rfl⟩
 have hva:=ux hi ta
 rw[hsl1]at hva
 obtain⟨_,b1,hR1,hva⟩:=hva
 have hvb:=ux hi tb
 rw[hsl2]at hvb
 obtain⟨_,b2,hR2,hvb⟩:=hvb
 refine wp_seq (ufu ?_)
 obtain⟨ol⟩:=ops
 simp only at hd
 unfold TP at hd
 split at hd<;>try (cases hd;done)
 rename_i td0 f0 first caps ty pos aft td1 args ats ty' pos' aft'
 split at hd<;>try (cases hd;done)
 rename_i ta0 tb0 hfirst hcaps hargs
 split at hd<;>try (cases hd;done)
 rename_i htd
 subst htd
 simp at hd
 obtain⟨rfl,rfl,rfl,rfl⟩:=hd
 have h1':first = #[]:=by
  obtain⟨l⟩:=first
  simp only at hfirst
  rw[hfirst]
 have h2':caps = #[.tmp ta0,.tmp tb0]:=by
  obtain⟨l⟩:=caps
  simp only at hcaps
  rw[hcaps]
 have h3':args = #[]:=by
  obtain⟨l⟩:=args
  simp only at hargs
  rw[hargs]
 subst h1'
 subst h2'
 subst h3'
 have hev1:a1.eval (.tmp ta0)=.pointer (some ⟨b1,0,none⟩):=hva
 have hev2:a1.eval (.tmp tb0)=.pointer (some ⟨b2,0,none⟩):=hvb
 let cl:Value:=.func (.func f0) #[] #[.pointer (some ⟨b1,0,none⟩),.pointer (some ⟨b2,0,none⟩)]
 let o0:Oper:=⟨some td1,.makeFunc (.func f0) #[] #[.tmp ta0,.tmp tb0],ty,pos,aft,none⟩
 let o1:Oper:=⟨none,.defer ⟨.value (.tmp td1),#[],ats⟩,ty',pos',aft',none⟩
 have hx0:(execOp a1.eval o0).run P w1=.ok (.value cl) w1:=by
  have hmf:∀ (fn:Fn) (first cap:Array Value) (w:World),(Instr.makeFunc fn first cap).run P w=.ok (.func fn first cap) w:=λ_ _ _ _=>rfl
  simp[execOp,o0,hev1,hev2,hmf,cl]
 have hput:(a1.put (some td1) cl).eval (.tmp td1)=cl:=by
  show(a1.put (some td1) cl).tmps.getD td1 undef=cl
  rw[Hw _ _ _ _ (λx hx=>by cases hx;rw[hi.n,hsn];exact hc.2.2),uf0 rfl]
 have hx1:(execOp (a1.put (some td1) cl).eval o1).run P w1=.ok (.defer { target:=.fn (.func f0) #[.pointer (some ⟨b1,0,none⟩),.pointer (some ⟨b2,0,none⟩)],args:=#[] }) w1:=by
  simp[execOp,resolve,o1,hput,cl,Deferred.ofValue]
 have hrange:List.range ((#[o0,o1]:Array Oper)).size=[0,1]:=rfl
 show wpOps P #[o0,o1] _ (List.range ((#[o0,o1]:Array Oper)).size) a1 w1
 rw[hrange]
 unfold wpOps
 simp
 refine .inl ?_
 unfold Oper.wp
 rw[hx0,Oper.upon_value]
 unfold wpOps
 simp
 refine .inl ?_
 unfold Oper.wp
 rw[show o0.dst=some td1 from rfl,hx1,Oper.upon_defer]
 have hip:=rE (ot (d:=some td1) (v:=.dead) (u:=cl) (wr:=[]) hi (λx hx=>by cases hx;exact⟨by rw[hsn];exact hc.2.2,by simp⟩) (Step.refl (eE hi)) hi.mem trivial (λ_ _ _ h=>by cases h))
 let D:List Deferred:=[{ target:=.fn (.func f0) #[.pointer (some ⟨b1,0,none⟩),.pointer (some ⟨b2,0,none⟩)],args:=#[] }]
 let E2:Env:=⟨w,F,λt=>if t=0 then .pointer (some ⟨b1,0,none⟩)else .pointer (some ⟨b2,0,none⟩),D,w.heap.size,ufd _⟩
 have hi':InvG P E2 (gS ⟨s.n,fX s.sl (some td1) .dead,s.mem,λt=>if t=0 then .c (.ptr i 0)else if t=1 then .c (.ptr j 0)else .dead⟩) { (a1.put (some td1) cl)with defers:={ target:=.fn (.func f0) #[.pointer (some ⟨b1,0,none⟩),.pointer (some ⟨b2,0,none⟩)],args:=#[] }::(a1.put (some td1) cl).defers } w1 [] F1 γ1:=by
  refine⟨hip.n,?_,hip.step,hip.mem,hip.sl,hip.hg,λt=>?_⟩
  ·show _::(a1.put (some td1) cl).defers=D
   rw[show(a1.put (some td1) cl).defers=a1.defers from rfl,hi.df]
  ·show aK P w1 F1 (av s.mem γ1) (if t=0 then .c (.ptr i 0)else if t=1 then .c (.ptr j 0)else .dead) (if t=0 then .pointer (some ⟨b1,0,none⟩)else .pointer (some ⟨b2,0,none⟩))
   by_cases ht0:t=0
   ·rw[uf0 ht0,uf0 ht0]
    exact⟨rfl,b1,hR1,rfl⟩
   ·rw[uf1 ht0,uf1 ht0]
    by_cases ht1':t=1
    ·rw[uf0 ht1']
     exact⟨rfl,b2,hR2,rfl⟩
    ·rw[uf1 ht1']
     trivial
 have hwp:=hR E2 _ _ ht2 _ (xK hr' hok) _ _ ⟨F1,γ1,hi'⟩
 refine wp_mono hwp ?_
 rintro e a2 w2 ⟨xe,s2,rfl,⟨F2,γ2,hi2⟩,hx⟩
 have hinv:∀ W,(invoke (.fn (.func f0) #[.pointer (some ⟨b1,0,none⟩),.pointer (some ⟨b2,0,none⟩)]) #[]).run P W=.ok (.enter f0 #[.pointer (some ⟨b1,0,none⟩),.pointer (some ⟨b2,0,none⟩)]) W:=λW=>by
  have:=hT.enter #[.pointer (some ⟨b1,0,none⟩),.pointer (some ⟨b2,0,none⟩)] W
  simp[invoke,this]
 have hdf:a2.defers=[{ target:=.fn (.func f0) #[.pointer (some ⟨b1,0,none⟩),.pointer (some ⟨b2,0,none⟩)],args:=#[] }]:=hi2.df
 have hfin:(∃ n,eh P fn.results.toList rs s2=some (Fr.needL n (.val (fr xs).get))/\az n)->Leaves P fn a2.tmps (iB w F rs (fr xs).get) a2.defers .returning w2:=by
  rintro⟨n,hend,hn⟩
  rw[hdf]
  refine ufi (by simp) (hinv w2) ((hT.idle _ _ w2).mono ?_)
  rintro e u' w' ⟨⟨v,rfl⟩,rfl,rfl⟩
  exact xu hi2 rfl hend hn
 cases xe with
 |normal=>exact hfin hx
 |ret=>exact hfin hx
 |exit _=>exact hx.elim
 |val _=>exact hx.elim
 |jump _=>exact hx.elim
 |panic p=>
  obtain⟨s',n,hs',hin,hend,hn⟩:=hx
  obtain⟨hty,hk,c1,c2,t1,t2,o1,o2,hG1,hG2,hne,hh1,hs1,hh2,hs2,hi3⟩:=zqg hi2 hs' hin
  have hG1':(Value.pointer (some ⟨b1,0,none⟩))=.pointer (some ⟨c1,0,none⟩):=hG1
  have hG2':(Value.pointer (some ⟨b2,0,none⟩))=.pointer (some ⟨c2,0,none⟩):=hG2
  simp at hG1' hG2'
  subst hG1'
  subst hG2'
  show Leaves P fn a2.tmps _ a2.defers (.panicking [{ v:=p.val,recovered:=false }]) w2
  rw[qd8 hty,hdf,hk]
  refine ufi (by simp) (hinv w2) ((hT.told b1 b2 t1 t2 o1 o2 p.n w2 hne hh1 hs1 hh2 hs2).mono ?_)
  rintro e u' w' ⟨⟨v,rfl⟩,rfl,hsw⟩
  exact xu (zan hi3 hsw) rfl hend hn
end
section
variable {P:Program} {w w':World} {F:Nat->Prop}
def H9(w:World)(s D E d:TypeId)(k g o c h:Nat)(a:Addr)(e n:Nat)(f:List Value)(b:Array Value)(t:TypeId)(C:P.underlying s=U (.slice d))(u:(P.info? d).map (·.size)=U k)(B:f.length=Nat.min e c*k)(m:∀ j v,f[j]?= U v->w.cell? (a.add j)=U v)(y:w.heap[g]?= U (.cells b t (0,0)))(l:o+f.length<=b.size)(x:∀ v∈f,v.oneCell'=Z):
  (Builtin.copy_ #[s,D] E #[.slice (U ⟨g,o,V⟩) c h,.slice (U a) e n]).run P w=.ok (goInt (Nat.min e c)) (w.setRow g (b.toList.take o++f++b.toList.drop (o+f.length)).toArray):=by
 have A:=run_loadCells_list (P:=P) w a f m;have r:=run_storeCells_at P g o t f 0 b w y (by simpa using l) x;cases p:P.info? d with
 |none=>simp[p]at u
 |some i=>
  have z:i.size=k:=by simpa[p]using u
  simp[Builtin.copy_,ud6 C,Builtin.lenOf,Builtin.firstCells,sizeOf,typeInfo,p,z,<- B,A,r]
def zmf(l m:List α)(p q:Nat)(h:p<=q)(a:q<=l.length):(l.take q++m).take p=l.take p:=by rw[List.take_append_of_le_length (by simp;omega),ud9,udq h]
def zah(a c b:List α)(q p k:Nat)(g:a.take q=c)(o:q+k<=a.length)(m:p<=q)(l:b.length=k)(C1 C2:List α)(d:C1=a.take (p+k)++c.drop p++a.drop (p+k+(c.drop p).length))(e:C2=C1.take p++b++C1.drop (p+b.length)):
  C1.length=a.length/\C2.length=a.length/\C2.take (q+k)=c.take p++b++c.drop p:=by
 have n:c.length=q:=by rw[<- g,uc6];omega
 have f:C1.length=a.length:=by rw[d];simp;omega
 have h:C1.take p=c.take p:=by rw[d,ucr,zmf a _ p (p+k) (by omega) (by omega),<- g,ud9,udq m]
 have i:C1.drop (p+k)=c.drop p++a.drop (p+k+(c.drop p).length):=by rw[d,ucr];exact ud1 (by rw[uc6];omega)
 rw[l,h,i]at e;refine⟨f,?_,?_⟩;rw[e];simp;omega;rw[e,<- ucr];exact ud0 (by simp;omega)
def zag(b c a:List α)(q p k:Nat)(l:c.length=q)(o:p<=q)(i:b.take p=c.take p)(m:q+k<=b.length)(n:a.length=k)(C1 C2:List α)(f:C1=b.take p++a++b.drop (p+a.length))(g:C2=C1.take (p+k)++c.drop p++C1.drop (p+k+(c.drop p).length)):
  C1.length=b.length/\C2.length=b.length/\C2.take (q+k)=c.take p++a++c.drop p:=by
 have d:C1.length=b.length:=by rw[f];simp;omega
 have h:C1.take (p+k)=c.take p++a:=by rw[f,i];exact ud0 (by simp;omega)
 have e:C2.length=b.length:=by rw[g];simp;omega
 refine⟨d,e,?_⟩;rw[g,h];exact ud0 (by simp;omega)
end
def qd1(w:World){a:Act}{K:Act->World->Prop}{Q:Exit->Act->World->Prop}(d s:Operand)(t b:TypeId)(g:o.op=.call { callee:=.builtin .copy,args:=#[d,s],argTypes:=#[t,b] })(v u:Value)(f:a.eval d=v)(k:a.eval s=u){c:Value}{e:World}(i:(Builtin.copy_ #[t,b] o.type #[v,u]).run P w=.ok c e)(h:K (a.put o.dst c) e):o.wp P a w K Q:=by unfold Oper.wp execOp;simp only[g,resolve,invoke,builtin,ueu,uew,ucm,List.map_toArray,uel,List.map_nil,f,k,i];exact h
def qy(w:World){c:Array Oper}{b:List Oper}{a:Act}{Q:Exit->Act->World->Prop}(e:o.guard=V)(d s:Operand)(t f:TypeId)(m:o.op=.call { callee:=.builtin .copy,args:=#[d,s],argTypes:=#[t,f] })(v u:Value)(l:a.eval d=v)(p:a.eval s=u){g:Value}{i:World}(n:(Builtin.copy_ #[t,f] o.type #[v,u]).run P w=.ok g i)(h:wpList P c Q b (a.put o.dst g) i):wpList P c Q (o::b) a w:=
 wpList_plain e λ_ k=>qd1 w d s t f m v u l p n (k _ _ h)
def zB{b:Array Oper}{a:Act}{K:Act->World->Prop}{Q:Exit->Act->World->Prop}{E:Prop}(l:o.guard=V)(d x:Operand)(c f:TypeId)(e:o.op=Op.call { callee:=Callee.builtin Builtin.copy,args:=#[d,x],argTypes:=#[c,f] })(v u:Value)(k:a.eval d=v)(p:a.eval x=u){g:Value}{h:World}(m:(Builtin.copy_ #[c,f] o.type #[v,u]).run P w=.ok g h)(i:K (a.put o.dst g) h):
  if Region.wanted o (yielded b a.tmps)=Z then Oper.wp P o a w K Q else E:=by
 have n:Region.wanted o (yielded b a.tmps)=true:=by simp[Region.wanted,l]
 rw[uf0 n];exact qd1 w d x c f e v u k p m i
def AR{g q:Nat}(b:w.heap[g]?= U (.cells cur t (0,0)))(c:cur.toList.take q=xs){j:Nat}(a:xs[j]?= U v):w.cell? ⟨g,j,V⟩=U v:=by rw[cell_of_row w g j cur t (0,0) b];rw[<- c,ub2]at a;split at a;simpa using a;cases a
section
open Go.Lib
section
variable {P:Program} {ts te tn:TypeId} {i0:TypeInfo} {z:Value} {q by_:Nat} {f:FuncId}
structure InsTy (P:Program) (ts te tn:TypeId) (i0:TypeInfo) (z:Value) (q by_:Nat):Prop where
 us:P.underlying ts=some (.slice te)
 un:P.underlying tn=some (.int .i64)
 hi:P.info? te=some i0
 hz:i0.zero=some z
 hq:i0.size=q
 hb:i0.bytes=by_
 hc:z.cells.size=q
 h0:0<q
def InsTy.sz(T:InsTy P ts te tn i0 z q by_):(P.info? te).map (·.size)=U q:=by rw[T.hi];simp[T.hq]
def DT(P:Program)(f:FuncId)(d:TypeId)(q c:Nat):Prop:=
 ∀ (w:World) (B n:Nat) (s v:Value) (g a:List Value),B<=w.heap.size->w.ownsRow B d q s n g->w.ownsRow B d q v 1 a->(∀ u∈a,u.oneCell'=Z)->n+1<=maxLen->(n+1)*c<=140737488355328 ->
  Calls P f #[s,.int .i64 n,v] w λh e=>∃ b,h=.returned b/\w.grownBy e s.ownBlock/\e.ownsRow B d q b (n+1) (g++a)/\(b.ownBlock=s.ownBlock\/b.ownBlock=U w.heap.size)
def DV(P:Program)(f:FuncId)(m:TypeId)(q:Nat):Prop:=
 ∀ (w:World) (n i g b k l:Nat) (e:Array Value) (h a:List Value),i<n->w.heap[g]?= U (.cells e m (0,0))->e.size=b*q->n+1<=b->b<=maxLen->e.toList.take (n*q)=h ->
  ∀ (d:Array Value),w.heap[k]?= U (.cells d m (0,0))->k≠g->a.length=q->d.toList.take q=a->1<=l->d.size=l*q->(∀ u∈h,u.oneCell'=Z)->(∀ u∈a,u.oneCell'=Z) ->
  Calls P f #[.slice (U ⟨g,0,V⟩) n b,.int .i64 i,.slice (U ⟨k,0,V⟩) 1 l] w λo p=>∃ c,o=.returned (.slice (U ⟨g,0,V⟩) (n+1) b)/\p=w.drew.setRow g c/\c.size=e.size/\c.toList.take ((n+1)*q)=h.take (i*q)++a++h.drop (i*q)
def DU(P:Program)(f:FuncId)(k:TypeId)(q h:Nat):Prop:=
 ∀ (w:World) (n i g b l p:Nat) (d:Array Value) (e a:List Value),i<n->w.heap[g]?= U (.cells d k (0,0))->d.size=b*q->n<=b->b<n+1->d.toList.take (n*q)=e ->
  ∀ (c:Array Value),w.heap[l]?= U (.cells c k (0,0))->a.length=q->c.toList.take q=a->(∀ u∈e,u.oneCell'=Z)->(∀ u∈a,u.oneCell'=Z)->n+1<=maxLen->(n+1)*h<=140737488355328 ->
  Calls P f #[.slice (U ⟨g,0,V⟩) n b,.int .i64 i,.slice (U ⟨l,0,V⟩) 1 p] w λo m=>∃ G C,o=.returned (.slice (U ⟨w.heap.size,0,V⟩) (n+1) G)/\w.grownBy m V/\m.heap[w.heap.size]?= U (.cells C k (0,0))/\n+1<=G/\G<=maxLen/\C.size=G*q /\
   C.toList.take ((n+1)*q)=e.take (i*q)++a++e.drop (i*q)
def Zc{q:Nat}(d:w.ownsRow B te q v 1 news):∃ g a cur,v=.slice (U ⟨g,0,V⟩) 1 a/\B<=g/\w.heap[g]?= U (.cells cur te (0,0))/\1<=a/\a<=maxLen/\cur.size=a*q/\cur.toList.take (1*q)=news:=by
 rcases d.2 with ⟨_,c⟩|b
 exact absurd c (by omega);exact b
def Nv{T:Ty}(W:∀ h w,(callFunc f h).run P w=.ok (.enter f h) w)(he:DT P f te T.size by_)(hg:DU P f te T.size by_)(hs':DV P f te T.size):InsOK P f te T by_:=by
 refine⟨W,λw B n i s v xs a hB hs hv hne hi z R A D=>?_⟩;rcases uer i n with t|t
 obtain⟨O,vc,m,rfl,hvb,M,hv1,hv2,hv3,u⟩:=Zc hv;have H:a.length=T.size:=by have:=hv.1;omega
 rw[Nat.one_mul]at u;rcases hs.2 with ⟨rfl,h0⟩|⟨g,d,o,rfl,S,r,hnc,E,p,c⟩
 omega;have F:O≠g:=λe=>hne O rfl (by rw[e];rfl);rcases uer d (n+1)with L|L
 refine(hg w n i g d O vc o xs a t r p hnc L c m M H u z R A D).mono λen w' K=>?_;obtain⟨G,C,rfl,b,hh,N,Q,x,y⟩:=K;refine⟨_,rfl,⟨b.os,b.tape,b.output,b.size,λk hk _=>b.block k hk (by simp)⟩,⟨?_,.inr ⟨_,_,_,rfl,hB,hh,N,Q,x,y⟩⟩,.inr rfl⟩;rw[<- y,uc6,ubu,x];exact udq (ube _ N);refine(hs' w n i g d O vc o xs a t r p L E c m M F H u hv1 hv3 z R).mono λen w' K=>?_;obtain⟨l,rfl,rfl,x,y⟩:=K;have a5:=x.trans p;refine⟨_,rfl,⟨rfl,rfl,rfl,by simp,λk _ hk=>ue1 w.drew g k _ (λe=>hk (by simp[Value.ownBlock,e]))⟩,⟨?_,.inr ⟨g,d,l,rfl,S,ufg w.drew g o l _ _ r,L,E,a5,y⟩⟩,.inl rfl⟩;rw[<- y,uc6,ubu,a5];exact udq (ube _ L);have e:i=n:=by omega
 subst e;refine(he w B i s v xs a hB hs hv R A D).mono λen w' K=>?_;obtain⟨v',rfl,N,Q,x⟩:=K;refine⟨v',rfl,N,?_,x⟩;have hx:=hs.1;rw[ua3 (by omega),ua2 (by omega),uds];exact Q
def WU{b q:Nat}(c:cur.size=b*q)(d:n<=b)(a:cur.toList.take (n*q)=xs):xs.length=n*q:=by rw[<- a,uc6,ubu,c];exact udq (ube _ d)
def InsTy.shift(T:InsTy P ts te tn i0 z q by_){g c o vc:Nat}(G:i<n)(s:w.heap[g]?= U (.cells cur te (0,0)))(r:cur.size=c*q)(f:n+1<=c)(a:cur.toList.take (n*q)=xs){b:Array Value}(y:w.heap[o]?= U (.cells b te (0,0)))(x:o≠g)(e:news.length=q)(A:b.toList.take q=news)(p:∀ u∈xs,u.oneCell'=Z)(F:∀ u∈news,u.oneCell'=Z):
  ∃ C1 C2:Array Value,(∀ ty d C,(Builtin.copy_ #[ts,ts] ty #[.slice (U ⟨g,(i+1)*q,V⟩) (n-i) d,.slice (U ⟨g,i*q,V⟩) (n+1-i) C]).run P w.drew=.ok (goInt (Nat.min (n+1-i) (n-i))) (w.drew.setRow g C1)) /\
   (∀ ty d,(Builtin.copy_ #[ts,ts] ty #[.slice (U ⟨g,i*q,V⟩) (n+1-i) d,.slice (U ⟨o,0,V⟩) 1 vc]).run P (w.drew.setRow g C1)=.ok (goInt (Nat.min 1 (n+1-i))) (w.drew.setRow g C2)) /\
   C2.size=cur.size/\C2.toList.take ((n+1)*q)=xs.take (i*q)++news++xs.drop (i*q):=by
 have D:(i+1)*q=i*q+q:=uey _ _;have E:(n+1)*q=n*q+q:=uey _ _;have N:(n-i)*q=n*q-i*q:=Nat.sub_mul _ _ _;have O:(i+1)*q<=n*q:=ube _ G;have Q:(n+1)*q<=c*q:=ube _ f;have B:=WU r (by omega) a;have m:(xs.drop (i*q)).length=(n-i)*q:=by rw[uc7,B];omega
 obtain⟨C1,k⟩:∃ C1:Array Value,C1=(cur.toList.take ((i+1)*q)++xs.drop (i*q)++cur.toList.drop ((i+1)*q+(xs.drop (i*q)).length)).toArray:=⟨_,rfl⟩;obtain⟨C2,l⟩:∃ C2:Array Value,C2=(C1.toList.take (i*q)++news++C1.toList.drop (i*q+news.length)).toArray:=⟨_,rfl⟩;obtain⟨K,L,M⟩:=zah cur.toList xs news (n*q) (i*q) q a (by simp;omega) (by omega) e C1.toList C2.toList (by rw[k];simp only[D]) (by rw[l]);refine⟨C1,C2,λty d C=>?_,λty d=>?_,by rw[<- ubu,L,ubu],by rw[E];exact M⟩;rw[k];exact H9 w.drew _ _ ty te q g ((i+1)*q) (n-i) d ⟨g,i*q,V⟩ (n+1-i) C (xs.drop (i*q)) cur te T.us T.sz (by rw[m,show Nat.min (n+1-i) (n-i)=n-i from Nat.min_eq_right (by omega)])
  (λj v t=>by rw[ufb];exact AR s a (by rwa [ub1]at t)) s (by rw[m];omega) (λv H=>p v (ubr H))
 rw[l];have h:=H9 (w.drew.setRow g C1) ts ts ty te q g (i*q) (n+1-i) d ⟨o,0,V⟩ 1 vc news C1 te T.us T.sz (by rw[e,show Nat.min 1 (n+1-i)=1 from udq (by omega),Nat.one_mul])
  (λj v t=>by rw[ufb,uez];exact AR ((ue1 w.drew g o C1 x).trans y) A t) (ufg w.drew g cur C1 _ _ s) (by rw[e,<- ubu,K,ubu];omega) F
 rw[setRow_setRow]at h;exact h
def InsTy.grow(T:InsTy P ts te tn i0 z q by_){g cap vb vc:Nat}(hi:i<n)(hg:w.heap[g]?= some (.cells cur te (0,0)))(hcs:cur.size=cap*q)(hnc:n<=cap)(hroom:cap<n+1)(htake:cur.toList.take (n*q)=xs){vcur:Array Value}(hvg:w.heap[vb]?= some (.cells vcur te (0,0)))(hnl:news.length=q)(hvt:vcur.toList.take q=news)(h1x:∀ u∈xs,u.oneCell'=true)(h1:∀ u∈news,u.oneCell'=true)(h63:n+1<=maxLen)(hby:(n+1)*by_<=140737488355328):
  ∃ (G:Nat) (ROW C1 C2:Array Value),(∀ ty,(Builtin.append_ #[ts,tn] ty #[.slice (some ⟨g,0,none⟩) i cap,.int .i64 ((n:Int)+1-(i:Int))]).run P w=.ok (.slice (some ⟨w.heap.size,0,none⟩) (n+1) G) (w.drew.alloc (.cells ROW te))) /\
   (∀ ty dc,(Builtin.copy_ #[ts,ts] ty #[.slice (some ⟨w.heap.size,i*q,none⟩) (n+1-i) dc,.slice (some ⟨vb,0,none⟩) 1 vc]).run P (w.alloc (.cells ROW te)).drew=.ok (goInt (Nat.min 1 (n+1-i))) ((w.alloc (.cells ROW te)).drew.setRow w.heap.size C1)) /\
   (∀ ty dc sc,(Builtin.copy_ #[ts,ts] ty #[.slice (some ⟨w.heap.size,(i+1)*q,none⟩) (n-i) dc,.slice (some ⟨g,i*q,none⟩) (n-i) sc]).run P ((w.alloc (.cells ROW te)).drew.setRow w.heap.size C1).drew=.ok (goInt (Nat.min (n-i) (n-i))) (((w.alloc (.cells ROW te)).drew.setRow w.heap.size C1).drew.setRow w.heap.size C2)) /\
   n+1<=G/\G<=maxLen/\w.grownBy (((w.alloc (.cells ROW te)).drew.setRow w.heap.size C1).drew.setRow w.heap.size C2) none/\(((w.alloc (.cells ROW te)).drew.setRow w.heap.size C1).drew.setRow w.heap.size C2).heap[w.heap.size]?= some (.cells C2 te (0,0)) /\
   C2.size=G*q/\C2.toList.take ((n+1)*q)=xs.take (i*q)++news++xs.drop (i*q):=by
 have h63':n+1<=9223372036854775807:=by unfold maxLen at h63;omega
 have e1:(i+1)*q=i*q+q:=uey _ _;have e2:(n+1)*q=n*q+q:=uey _ _;have e3:(n-i)*q=n*q-i*q:=Nat.sub_mul _ _ _;have m1:(i+1)*q<=n*q:=ube _ hi;have hxl:=WU hcs hnc htake;have hdl:(xs.drop (i*q)).length=(n-i)*q:=by rw[uc7,hxl];omega
 have hgw:=(uaf.1 hg).1;have hvw:=(uaf.1 hvg).1;have hkk:(n:Int)+1-(i:Int)=((n+1-i:Nat):Int):=by omega
 have hik:i+(n+1-i)=n+1:=by omega
 have hold:(Builtin.firstCells i0.size i (.slice (some ⟨g,0,none⟩) i cap)).run P w.drew=.ok (xs.take (i*q)).toArray w.drew:=by
  rw[T.hq];exact run_firstCells_some w.drew q i ⟨g,0,none⟩ i cap (xs.take (i*q)) (by rw[uc6];omega) (λj v hj=>by
   rw[ufb,uez];rw[ub2]at hj;split at hj
   ·exact AR hg htake hj
   ·cases hj)
 obtain⟨G,hG⟩:∃ G,G=grownCap w (n+1) cap te:=⟨_,rfl⟩;have hGn:n+1<=G:=by rw[hG];exact grownCap_ge w _ _ _
 have hGm:G<=maxLen:=by rw[hG];exact ub7 w _ _ _ h63
 have m3:(n+1)*q<=G*q:=ube _ hGn;obtain⟨ROW,hROW⟩:∃ ROW:Array Value,ROW=(xs.take (i*q)).toArray++Builtin.zeroCells z.cells (n+1-i)++Builtin.zeroCells z.cells (G-(n+1)):=⟨_,rfl⟩;have hrz:∀ ty,(Builtin.append_ #[ts,tn] ty #[.slice (some ⟨g,0,none⟩) i cap,.int .i64 ((n:Int)+1-(i:Int))]).run P w =
   .ok (.slice (some ⟨w.heap.size,0,none⟩) (n+1) G) (w.drew.alloc (.cells ROW te)):=λty=>by
  have h:=Lib.run_append_grow_zeros w ts tn ty te i0 _ .i64 .i64 T.us T.un T.hi T.hz (some ⟨g,0,none⟩) i cap (xs.take (i*q)) hold (n+1-i) (by omega) (by have:=T.h0;have:=T.hq;omega) (by omega) (by omega) (by
   rw[T.hb];have:(n+1-i)*by_<=(n+1)*by_:=ube _ (by omega);omega) (by rw[T.hb,hik];exact growslice_fits hroom hby)
  rw[hik,<- hG,<- hROW]at h;rw[hkk];exact h
 have e4:(n+1-i)*q=(n+1)*q-i*q:=Nat.sub_mul _ _ _;have e5:(G-(n+1))*q=G*q-(n+1)*q:=Nat.sub_mul _ _ _;have hRs:ROW.size=G*q:=by
  rw[hROW];simp only[ucp,ucq,size_zeroCells,T.hc,uc6];omega
 have hRt:ROW.toList.take (i*q)=xs.take (i*q):=by
  rw[hROW,Array.toList_append,Array.toList_append,ucr];exact ud0 (by rw[uc6];omega)
 obtain⟨C1,hC1⟩:∃ C1:Array Value,C1=(ROW.toList.take (i*q)++news++ROW.toList.drop (i*q+news.length)).toArray:=⟨_,rfl⟩;obtain⟨C2,hC2⟩:∃ C2:Array Value,C2=(C1.toList.take ((i+1)*q)++xs.drop (i*q)++C1.toList.drop ((i+1)*q+(xs.drop (i*q)).length)).toArray:=⟨_,rfl⟩;obtain⟨k1,k2,k3⟩:=zag ROW.toList xs news (n*q) (i*q) q hxl (by omega) hRt (by rw[ubu];omega) hnl C1.toList C2.toList (by rw[hC1]) (by rw[hC2];simp only[e1]);have hnew:(w.drew.alloc (.cells ROW te)).heap[w.heap.size]?= some (.cells ROW te (0,0)):=ud8 w.drew _;refine⟨G,ROW,C1,C2,hrz,λty dc=>?_,λty dc sc=>?_,hGn,hGm,⟨rfl,rfl,rfl,?_,λk hk _=>?_⟩,?_,by rw[<- ubu,k2,ubu,hRs],by rw[e2];exact k3⟩
 ·rw[hC1];exact H9 _ _ _ ty te q w.heap.size (i*q) (n+1-i) dc ⟨vb,0,none⟩ 1 vc news ROW te T.us T.sz (by rw[hnl,show Nat.min 1 (n+1-i)=1 from udq (by omega),Nat.one_mul])
   (λj v hj=>by
    rw[ufb,uez];exact AR ((qM w.drew _ vb hvw).trans hvg) hvt hj) hnew (by omega) h1
 ·rw[hC2];exact H9 _ _ _ ty te q w.heap.size ((i+1)*q) (n-i) dc ⟨g,i*q,none⟩ (n-i) sc (xs.drop (i*q)) C1 te T.us T.sz (by rw[hdl,show Nat.min (n-i) (n-i)=n-i from Nat.min_self _])
   (λj v hj=>by
    rw[ufb];exact AR (((ue1 (w.alloc (.cells ROW te)).drew w.heap.size g C1 (by omega)).trans (qM w.drew _ g hgw)).trans hg) htake (by rwa [ub1]at hj))
   (ufg (w.alloc (.cells ROW te)).drew w.heap.size ROW C1 _ _ hnew) (by rw[hdl,<- ubu,k1,ubu];omega) (λv hv=>h1x v (ubr hv))
 ·simp
 ·exact(ue1 ((w.alloc (.cells ROW te)).drew.setRow w.heap.size C1).drew w.heap.size k C2 (by omega)).trans ((ue1 (w.alloc (.cells ROW te)).drew w.heap.size k C1 (by omega)).trans (qM w _ k hk))
 ·exact ufg ((w.alloc (.cells ROW te)).drew.setRow w.heap.size C1).drew w.heap.size C1 C2 _ _ (ufg (w.alloc (.cells ROW te)).drew w.heap.size ROW C1 _ _ hnew)
def InsTy.fin(T:InsTy P ts te tn i0 z q by_){s:Value}(p:B<=w.heap.size)(t:w.ownsRow B te q s n xs)(g:w.ownsRow B te q v 1 news)(o:∀ u∈news,u.oneCell'=Z)(d:n+1<=maxLen)(f:(n+1)*by_<=140737488355328):
  ∃ b c a w',v=.slice (U ⟨b,0,V⟩) 1 c/\(∀ ty,(Builtin.append_ #[ts,ts] ty #[s,.slice (U ⟨b,0,V⟩) 1 c]).run P w=.ok a w')/\w.grownBy w' s.ownBlock/\w'.ownsRow B te q a (n+1) (xs++news)/\(a.ownBlock=s.ownBlock\/a.ownBlock=U w.heap.size):=by
 obtain⟨b,c,i,rfl,D,E,x,y,A,C⟩:=Zc g;obtain⟨a,w',r,k,l,m⟩:=tk ts ts te i0 _ q T.us T.hi T.hz T.hq T.hc T.h0 s n xs t (U ⟨b,0,V⟩) 1 c news (λh=>by cases h) g.1 (λF e=>by cases e;exact g.cells rfl) o d (by rw[T.hb];exact f) p;exact⟨b,c,a,w',rfl,λty=>r,l,k,m⟩
def InsTy.nil(T:InsTy P ts te tn i0 z q by_)(w:World)(A:Option Addr)(n c:Nat):(binOp .eql ts (.slice A n c) (.slice V 0 0)).run P w=.ok (.bool A.isNone) w:=by have a:binOp .eql ts (.slice A n c) (.slice V 0 0)=(do pure (.bool (<- Op.equal ts (.slice A n c) (.slice V 0 0)))):=rfl;have b:Op.equal ts (.slice A n c) (.slice V 0 0)=Op.equalIn (9999+1) ts (.slice A n c) (.slice V 0 0):=rfl;rw[a,b];simp[NZ T.us]
def InsTy.clone(T:InsTy P ts te tn i0 z q by_)(l:xs.length=n*q)(i:∀ (j:Nat) u,xs[j]?= U u->w.cell? (ad.add j)=U u)(p:∀ u∈xs,u.oneCell'=Z)(f:n<=maxLen)(g:n*by_<=140737488355328):
  ∃ d w',(∀ ty,(Builtin.append_ #[ts,ts] ty #[.slice (U ⟨w.heap.size,0,V⟩) 0 0,.slice (U ad) n c]).run P (w.alloc (.cells #[] te))=.ok d w')/\w.grownBy w' V/\w'.ownsRow w.heap.size te q d n xs:=by
 have r:(w.alloc (.cells #[] te)).ownsRow w.heap.size te q (.slice (U ⟨w.heap.size,0,V⟩) 0 0) 0 []:=World.ownsRow_lit w #[] 0 (ufd _) (by unfold maxLen;omega) (by simp);have a:∀ (j:Nat) u,xs[j]?= U u->(w.alloc (.cells #[] te)).cell? (ad.add j)=U u:=λj u t=>by have h:=i j u t;have s:=block_lt_of_cell h;rw[ubd (qM w _ _ s)];exact h
 obtain⟨d,w',x,m,b,y⟩:=tk ts ts te i0 _ q T.us T.hi T.hz T.hq T.hc T.h0 _ 0 [] r (U ad) n c xs (λh=>by cases h) l (λo e=>by cases e;exact a) p (by rw[uez];exact f) (by rw[T.hb,uez];exact g) (by simp);rw[uez,udn]at m;refine⟨d,w',λty=>x,⟨b.os,b.tape,b.output,ueq (by simp) b.size,λk v _=>(b.block k (by simp;omega) (λe=>?_)).trans (qM w _ k v)⟩,m⟩;have:k=w.heap.size:=by simpa[Value.ownBlock]using e
 omega
def xS(a:i<n)(b:n<=9223372036854775806):¬ ((i:Int)=(n:Int))/\I6.wrap ((i:Int)+(1:Int))=(i:Int)+(1:Int)/\(0:Int)<=(i:Int)+(1:Int)/\((i:Int)+(1:Int)).toNat=i+1/\i<=n/\(i:Int)<=(n:Int)/\(i:Int)<=(n:Int)+(1:Int):=
 ⟨by omega,by rw[udg];omega,by omega,by omega,by omega,by omega,by omega⟩
end
end
def bC(step:Int->T->σ->Fr (σ ⊕ ρ)):Int->List T->σ->σ ⊕ ρ
 |_,[],s=>.inl s
 |i,x::r,s=>match (step i x s).get with
  |.inl a=>bC step (i+1) r a
  |.inr y=>.inr y
def eI(step:Int->T->σ->Fr (σ ⊕ ρ)):Int->List T->σ->Prop
 |_,[],_=>True
 |i,x::r,s=>(step i x s).ok/\match (step i x s).get with
  |.inl a=>eI step (i+1) r a
  |.inr _=>True
def bw(step:Int->T->σ->Fr σ):Int->List T->σ->σ
 |_,[],s=>s
 |i,x::r,s=>bw step (i+1) r (step i x s).get
def bY(step:Int->T->σ->Fr σ):Int->List T->σ->Prop
 |_,[],_=>True
 |i,x::r,s=>(step i x s).ok/\bY step (i+1) r (step i x s).get
section
variable {P:Program} {c:Code} {L Eo R:LS} {n id:Nat} {κ T σ ρ:Type}
structure InK (n i:Int) (l:Nat):Prop where
 n:n=(l:Int)
 lo:0<=i
 hi:0<=(l:Int)
 big:(l:Int)<=9223372036854775807
def FK(a:L.X->Int×κ×σ)(e:κ->Int)(b:κ->List T)(step:κ->Prop->Int->T->σ->Fr (σ ⊕ ρ))(cC:κ->σ->Eo.X)(outR:κ->ρ->Rd Empty Eo.X R.X)(d:σ)(c:ρ)(x:L.X):Fr (Rd L.X Eo.X R.X):=
 Fr.need (InK (e (a x).2.1) (a x).1 (b (a x).2.1).length) (Fr.need (eI (step (a x).2.1 True) (a x).1 ((b (a x).2.1).drop (a x).1.toNat) (a x).2.2)
  (Fr.br (dV (bC (step (a x).2.1 True) (a x).1 ((b (a x).2.1).drop (a x).1.toNat) (a x).2.2)) (Fr.val (Rd.out (cC (a x).2.1 (fq d (bC (step (a x).2.1 True) (a x).1 ((b (a x).2.1).drop (a x).1.toNat) (a x).2.2)))))
   (Fr.val (Rd.up (outR (a x).2.1 (e9 c (bC (step (a x).2.1 True) (a x).1 ((b (a x).2.1).drop (a x).1.toNat) (a x).2.2)))))))
def Co(mk:Int->κ->σ->L.X)(outR:κ->ρ->Rd Empty Eo.X R.X)(i:Int)(k:κ):σ ⊕ ρ->Rd L.X Eo.X R.X
 |.inl s=>.next (mk (I6.wrap (i+1)) k s)
 |.inr y=>Rd.up (outR k y)
def lG {C:Cx} (hC:CxOK P C) {Λ:Nat->St->Option Tr} (mk:Int->κ->σ->L.X) {a:L.X->Int×κ×σ} {r:κ->Int} {b:κ->List T} (B:T) {step:κ->Prop->Int->T->σ->Fr (σ ⊕ ρ)} {cC:κ->σ->Eo.X} {outR:κ->ρ->Rd Empty Eo.X R.X} {d:σ} {O:ρ}
  (hΛ:∀ E,co P E Λ c 0:=by exact λ_=>bm _ 0)
  (hr:∀ i k s,qr P C 0 Λ c L ⟨n,id,L,Eo,R⟩ (mk i k s)=U (Fr.br (J (i<r k)) ((step k (0<=i/\i<((b k).length:Int)) i ((b k).getD i.toNat B) s).mapR (Co mk outR i k)) (Fr.val (Rd.out (cC k s)))):=by intro i k s;kernel_rfl)
  (N:∀ x,mk (a x).1 (a x).2.1 (a x).2.2=x:=by intro _;rfl) (G:∀ i k s,a (mk i k s)=(i,k,s):=by intro _ _ _;rfl)
  (hM:L.low=true:=by rfl) (hE:Eo.low=true:=by rfl) (hR:R.low=true:=by rfl) :
  af P (.loop c) L ⟨n,id,L,Eo,R⟩ (FK a r b step cC outR d O):=by
 have hs:af P c L ⟨n,id,L,Eo,R⟩ (λx=>Fr.br (J ((a x).1<r (a x).2.1)) ((step (a x).2.1 (0<=(a x).1/\(a x).1<((b (a x).2.1).length:Int)) (a x).1 ((b (a x).2.1).getD (a x).1.toNat B) (a x).2.2).mapR (Co mk outR (a x).1 (a x).2.1)) (Fr.val (Rd.out (cC (a x).2.1 (a x).2.2)))):=
  af.of_run hC (bs:=0) (Λ:=Λ) hM hE hR hΛ λx=>by
   have h:=hr (a x).1 (a x).2.1 (a x).2.2
   rwa [N]at h
 refine af.loop (n:=n) (id:=id) hs (inv:=λx=>InK (r (a x).2.1) (a x).1 (b (a x).2.1).length) (μ:=λx=>(((b (a x).2.1).length:Int)-(a x).1).toNat) ?_ (λx Q M=>M.1);intro x A Q M;obtain⟨_,l,f,g⟩:=M;generalize hu:a x=u at *;obtain⟨i,k,s⟩:=u;dsimp only at A l f g |-;have H:=A.n;have F:=A.lo;have t:=A.big;refine⟨λD=>?_,λD=>?_⟩
 ·have W:i<((b k).length:Int):=by rw[<- H];exact ucx D
  have w:i.toNat<(b k).length:=by omega
  have hb:(0<=i/\i<((b k).length:Int))=True:=eq_true ⟨F,W⟩;have e1:(b k).drop i.toNat=(b k)[i.toNat]::(b k).drop (i.toNat+1):=ual w;have hd:(b k).getD i.toNat B=(b k)[i.toNat]:=by rw[uah,uaq w];rfl
  have hw:I6.wrap (i+1)=i+1:=IntWalk.i64_in _ (by omega);rw[e1]at l f g;rw[hb,hd];generalize (b k)[i.toNat]=e at l f g |-;refine vU (q9 l.1 ?_);have m:=l.2;simp only[bC]at f g;cases S:(step k True i e s).get with
  |inl s'=>
   simp only[S]at m f g;show InK _ _ _/\_<_/\(FK a r b step cC outR d O (mk (I6.wrap (i+1)) k s')).s7 Q;rw[hw];unfold FK;rw[G];have v:InK (r k) (i+1) (b k).length:=⟨H,by omega,by omega,t⟩;have K:(i+1).toNat=i.toNat+1:=by omega
   refine⟨v,by dsimp only;omega,v,?_⟩;dsimp only;rw[K];exact⟨m,f,g⟩
  |inr y=>
   simp only[S]at f g;have:=g rfl;simp only[e9]at this;cases o:outR k y with
   |next x=>exact nomatch x
   |out y2=>rw[o]at this;simp only[Co,o,Rd.up];exact this
   |back z=>rw[o]at this;simp only[Co,o,Rd.up];exact this
   |pan p=>rw[o]at this;simp only[Co,o,Rd.up];exact this
 have W:¬ i<((b k).length:Int):=by rw[<- H];exact uch D
 have w:(b k).drop i.toNat=[]:=ua2 (by omega);rw[w]at f;exact f rfl
def FG(a:L.X->Int×κ×σ)(c:κ->Int)(b:κ->List T)(step:κ->Prop->Int->T->σ->Fr σ)(cC:κ->σ->Eo.X)(x:L.X):Fr (Rd L.X Eo.X R.X):=
 Fr.need (InK (c (a x).2.1) (a x).1 (b (a x).2.1).length) (Fr.need (bY (step (a x).2.1 True) (a x).1 ((b (a x).2.1).drop (a x).1.toNat) (a x).2.2)
  (Fr.val (Rd.out (cC (a x).2.1 (bw (step (a x).2.1 True) (a x).1 ((b (a x).2.1).drop (a x).1.toNat) (a x).2.2)))))
def cX {C:Cx} (G:CxOK P C) {Λ:Nat->St->Option Tr} (mk:Int->κ->σ->L.X) {a:L.X->Int×κ×σ} {g:κ->Int} {b:κ->List T} (r:T) {step:κ->Prop->Int->T->σ->Fr σ} {cC:κ->σ->Eo.X}
  (hΛ:∀ E,co P E Λ c 0:=by exact λ_=>bm _ 0)
  (S:∀ i k s,qr P C 0 Λ c L ⟨n,id,L,Eo,R⟩ (mk i k s)=U (Fr.br (J (i<g k)) ((step k (0<=i/\i<((b k).length:Int)) i ((b k).getD i.toNat r) s).mapR (λs=>Rd.next (mk (I6.wrap (i+1)) k s))) (Fr.val (Rd.out (cC k s)))):=by intro i k s;kernel_rfl)
  (B:∀ x,mk (a x).1 (a x).2.1 (a x).2.2=x:=by intro _;rfl) (w:∀ i k s,a (mk i k s)=(i,k,s):=by intro _ _ _;rfl)
  (K:L.low=true:=by rfl) (H:Eo.low=true:=by rfl) (M:R.low=true:=by rfl) :
  af P (.loop c) L ⟨n,id,L,Eo,R⟩ (FG a g b step cC):=by
 have W:af P c L ⟨n,id,L,Eo,R⟩ (λx=>Fr.br (J ((a x).1<g (a x).2.1)) ((step (a x).2.1 (0<=(a x).1/\(a x).1<((b (a x).2.1).length:Int)) (a x).1 ((b (a x).2.1).getD (a x).1.toNat r) (a x).2.2).mapR (λs=>Rd.next (mk (I6.wrap ((a x).1+1)) (a x).2.1 s))) (Fr.val (Rd.out (cC (a x).2.1 (a x).2.2)))):=
  af.of_run G (bs:=0) (Λ:=Λ) K H M hΛ λx=>by
   have h:=S (a x).1 (a x).2.1 (a x).2.2
   rwa [B]at h
 refine af.loop (n:=n) (id:=id) W (inv:=λx=>InK (g (a x).2.1) (a x).1 (b (a x).2.1).length) (μ:=λx=>(((b (a x).2.1).length:Int)-(a x).1).toNat) ?_ (λx Q A=>A.1);intro x p Q A;obtain⟨_,f,d⟩:=A;generalize hu:a x=u at *;obtain⟨i,k,s⟩:=u;dsimp only at p f d |-;have y:=p.n;have v:=p.lo;have l:=p.big;refine⟨λt=>?_,λt=>?_⟩;have D:i<((b k).length:Int):=by rw[<- y];exact ucx t
 have o:i.toNat<(b k).length:=by omega
 have N:(0<=i/\i<((b k).length:Int))=True:=eq_true ⟨v,D⟩;have F:(b k).drop i.toNat=(b k)[i.toNat]::(b k).drop (i.toNat+1):=ual o;have O:(b k).getD i.toNat r=(b k)[i.toNat]:=by rw[uah,uaq o];rfl
 have hw:I6.wrap (i+1)=i+1:=IntWalk.i64_in _ (by omega);rw[F]at f d;rw[N,O];generalize (b k)[i.toNat]=e at f d |-;refine vU (q9 f.1 ?_);show InK _ _ _/\_<_/\(FG a g b step cC (mk (I6.wrap (i+1)) k (step k True i e s).get)).s7 Q;rw[hw];unfold FG;rw[w];have m:InK (g k) (i+1) (b k).length:=⟨y,by omega,by omega,l⟩;have z:(i+1).toNat=i.toNat+1:=by omega
 refine⟨m,by dsimp only;omega,m,?_⟩;dsimp only;rw[z];exact⟨f.2,d⟩;have D:¬ i<((b k).length:Int):=by rw[<- y];exact uch t
 have o:(b k).drop i.toNat=[]:=ua2 (by omega);rw[o]at d;exact d
end
structure Ht where
 pt:TypeId
 bt:TypeId
 e:TypeId
 T:Ty
 ps:List PT
 rs:List Ty
 f:List T.q->ap ps->List T.q×aa rs
 ok:List T.q->ap ps->List Prop
section
variable {P:Program} {w w':World} {E:Env} {F F':Nat->Prop} {γ γ':Nat->Value}
def RF(w:World)(d:Ht)(b:Nat)(s:Value)(y:List d.T.q×aa d.rs)(e:Ending)(c:World):Prop:=
 ∃ u f a,e=.returned u/\c.os=w.os/\c.tape=w.tape/\c.output=w.output/\w.heap.size<=c.heap.size/\(∀ k,k<w.heap.size->k≠b->s.ownBlock≠U k->c.heap[k]?= w.heap[k]?) /\
  c.heap[b]?= U (.cells #[f] d.bt (0,0))/\c.ownsRow 0 d.e d.T.size f y.1.length a/\(∀ g,f.ownBlock=U g->(s.ownBlock=U g\/w.heap.size<=g)/\g≠b) /\
  cy c (λ_=>False) d.T y.1 a/\(∀ u∈a,u.oneCell'=Z)/\f.oneCell'=Z/\jF c (λ_=>False) d.rs y.2 u
structure SoundHt (P:Program) (f:FuncId) (ht:Ht):Prop where
 lt:ht.e<cJ
 flat:ht.T.flat=true
 flats:ht.rs.all Ty.flat=true
 enters:∀ args w,(callFunc f args).run P w=.ok (.enter f args) w
 calls:∀ (w:World) (F:Nat->Prop) (l:List ht.T.q) (xs:ap ht.ps) (b:Nat) (s:Value) (vs rows:List Value),(∀ b,F b->b<w.heap.size)->w.heap[b]?= some (.cells #[s] ht.bt (0,0))->¬ F b ->
  w.ownsRow 0 ht.e ht.T.size s l.length rows->(∀ g,s.ownBlock=some g->¬ F g/\g≠b)->cy w F ht.T l rows->(∀ u∈rows,u.oneCell'=true)->dm P w F ht.ps xs vs->az (ht.ok l xs) ->
  Calls P f (.iface ht.pt (.pointer (some ⟨b,0,none⟩))::vs).toArray w (RF w ht b s (ht.f l xs))
def xO(p:Gm)(f:FuncId)(a:Ht)(d:Nat)(g:FuncId)(b:List AV)(s:St):Option Tr:=
 if g=f then match b with
  |.c (.ifp m id)::i=>match fe s.mem i with
   |some (o,u)=>match aB s.mem u id with
    |some (.box k [.own r])=>match aB s.mem u r,aB s.mem u d with
     |some (.arr e t l),V=>if h:t=a.T then if e=a.e/\m=a.pt/\k=a.bt then match lm p a.ps o with
       |some (x,n)=>U (needL (n++a.ok (cY h l) x) (.leaf (.val (lq a.rs (a.f (cY h l) x).2)) ⟨s.n,s.sl,aB (aB s.mem u) [(r,.gone),(d,.arr a.e a.T (a.f (cY h l) x).1),(id,.box a.bt [.own d])],s.gs⟩))
       |none=>V
      else V else V
     |_,_=>V
    |_=>V
   |none=>V
  |_=>V
 else V
def Gk{Γ:Gm}(hΓ:io P Γ){c:Ht}(h:SoundHt P f c):jC P (xO Γ f c):=by
 intro d g args s t m;unfold xO at m;split at m<;>try trivial
 rename_i L;subst L;split at m<;>try trivial
 rename_i pt id rest;split at m<;>try trivial
 rename_i xs u hrs;split at m<;>try trivial
 rename_i bt r p;split at m<;>try trivial
 rename_i e ty l hr hd;split at m<;>try trivial
 rename_i hty;split at m<;>try trivial
 rename_i hc;obtain⟨rfl,rfl,rfl⟩:=hc;split at m<;>try trivial
 rename_i x n hdec;cases m;subst hty;refine⟨h.enters,λE a w F C vs Q z D hq=>?_⟩;obtain⟨hn,hqv⟩:=lz _ hq;obtain⟨hn1,hn2⟩:=lj.1 hn;cases vs with
 |nil=>exact D.elim
 |cons v vs=>
  obtain⟨⟨_,b0,hv1,rfl⟩,D⟩:=D;obtain⟨F1,s1,m1,_,r1⟩:=ke z.mem (eE z) (dM.of λ_ _ h=>h) hrs D;have hps:=pI hΓ hdec hn1 r1;generalize hM:aB s.mem u=M at *;obtain⟨b,arr,k1,k2,k3,k4,k5,k6⟩:=m1.ob id _ p;have hb0:b0=b:=by have K:av M C id (.pointer (U ⟨b0,0,V⟩)):=s1.hR id _ hv1;unfold av at K;rw[p]at K;have h3:Value.pointer (U ⟨b0,0,V⟩)=C id:=K;rw[k1]at h3;cases h3;rfl
  subst hb0;obtain⟨⟨sv,z1,z2,z3⟩,_⟩:=k6;have hsv:sv=C r:=fV hr (by simp) z3;subst hsv;have fU:arr = #[C r]:=by
   refine uci λj=>?_;cases j with
   |zero=>simpa using z1
   |succ j=>have:arr.size=1:=k5;rw[ua1 (by omega),ua1 (by simp)]
  subst fU;obtain⟨rows,o1,o2,o3,o4⟩:=iT.of (m1.ob r _ hr) h.lt;have hrid:r≠id:=by rintro rfl;rw[hr]at p;cases p
  have y:d≠id:=by rintro rfl;rw[hd]at p;cases p
  have hdr:d≠r:=by rintro rfl;rw[hd]at hr;cases hr
  have hgb:∀ g,(C r).ownBlock=U g->g≠b0:=λg L he=>m1.apart r id _ _ g hrid hr p (.inl L) ⟨_,k1,he.symm⟩;have hblk:∀ g,(C r).ownBlock=U g->E.B<=g/\g<w.heap.size:=λg L=>o1.lt g L;have hc:=h.calls w F1 l x b0 (C r) vs rows s1.bd k2 k3 (uR o1 (λ_ _=>ufj _)) (λg L=>⟨o2 g L,hgb g L⟩) o3 o4 hps hn2;refine hc.mono λen w2 hp=>?_;obtain⟨u2,W,rows2,rfl,p1,p2,p3,p4,p5,p6,p7,p8,p9,p10,p11,p12⟩:=hp;have hBs:=qA z;have S:∀ j,aB M [(r,Ob.gone),(d,.arr c.e c.T (c.f l x).1),(id,.box c.bt [.own d])] j=if j=id then U (.box c.bt [.own d])else if j=d then U (.arr c.e c.T (c.f l x).1)else if j=r then U .gone else M j:=λj=>by simp only[aB,upd]
  have A:∀ k,k<w.heap.size->k≠b0->(C r).ownBlock≠U k->w2.heap[k]?= w.heap[k]? := p5;have hFk:∀ k,F1 k->w2.heap[k]?= w.heap[k]? := λk m=>A k (s1.bd k m) (λe=>k3 (e ▸ m)) (λe=>o2 k e m);have hR:∀ i v',av M C i v'->av (aB M [(r,Ob.gone),(d,.arr c.e c.T (c.f l x).1),(id,.box c.bt [.own d])]) (dG C d W) i v':=λi v' H=>by unfold av at H |-;rw[S];by_cases h1:i=id;subst h1;rw[p]at H;rw[uf0 rfl,ga _ _ y.symm];exact H;rw[uf1 h1];by_cases K:i=d;subst K;rw[hd]at H;exact H.elim;rw[uf1 K];by_cases h3:i=r;rw[uf0 h3];trivial;rw[uf1 h3,ga _ _ K];exact H
  have O:∀ i o,(i=id\/i=d\/i=r)->aB M [(r,Ob.gone),(d,.arr c.e c.T (c.f l x).1),(id,.box c.bt [.own d])] i=U o->(i=id/\o=.box c.bt [.own d])\/(i=d/\o=.arr c.e c.T (c.f l x).1)\/o=.gone:=λi o hs N=>by rw[S]at N;by_cases h1:i=id;rw[uf0 h1]at N;exact .inl ⟨h1,(ud4 N).symm⟩;rw[uf1 h1]at N;by_cases K:i=d;rw[uf0 K]at N;exact .inr (.inl ⟨K,(ud4 N).symm⟩);rw[uf1 K,uf0 ((hs.resolve_left h1).resolve_left K)]at N;exact .inr (.inr (ud4 N).symm)
  have hnm:=qg p7;have hB2:∀ g,W.ownBlock=U g->E.B<=g:=λg L=>(p8 g L).1.elim (λh=>(hblk g h).1) (λh=>by omega);have hF2:∀ g,W.ownBlock=U g->¬ F1 g:=λg L hF=>(p8 g L).1.elim (λh=>o2 g h hF) (λh=>by have:=s1.bd g hF;omega);have s2:Step E.B w F1 C M w2 F1 (dG C d W) (aB M [(r,Ob.gone),(d,.arr c.e c.T (c.f l x).1),(id,.box c.bt [.own d])]):=
   ⟨λ_ h=>h,hFk,hR,λk m=>A k (by omega) (λe=>by omega) (λe=>by have:=(hblk k e).1;omega),p1,p2,p3,p4,λk m=>ucb (s1.bd k m) p4,λ_ h=>.inl h⟩
  have m2:MemOK P E.B w2 F1 (dG C d W) (aB M [(r,Ob.gone),(d,.arr c.e c.T (c.f l x).1),(id,.box c.bt [.own d])]):=by
   refine m1.re (λi=>i=id\/i=d\/i=r) (λi z=>?_) (λi z=>ga _ _ (λe=>z (.inr (.inl e)))) hFk hR (λk m hno=>A k m (λe=>hno id _ (.inl rfl) p ⟨_,k1,e.symm⟩) (λe=>hno r _ (.inr (.inr rfl)) hr (.inl e))) ?_ ?_ ?_;rw[S,uf1 (λe=>z (.inl e)),uf1 (λe=>z (.inr (.inl e))),uf1 (λe=>z (.inr (.inr e)))];intro i o hs N;rcases O i o hs N with ⟨rfl,rfl⟩|⟨rfl,rfl⟩|rfl
   rw[ga _ _ y.symm];refine⟨b0,#[W],k1,p6,k3,k4,rfl,⟨W,rfl,p11,?_⟩,uT⟩;simp only[bx];unfold av;rw[S,uf1 y,uf0 rfl,ig];rw[ig];exact .inl ⟨h.lt,rows2,uR p7 hB2,hF2,p9.flat h.flat,p10⟩;trivial;intro i o k hs N m;rcases O i o hs N with ⟨rfl,rfl⟩|⟨rfl,rfl⟩|rfl
   rw[ga _ _ y.symm]at m;exact .inl ⟨i,_,.inl rfl,p,m⟩;rw[ig]at m;exact(p8 k ((oa h.lt hnm).1 m)).1.imp (λh=>⟨r,_,.inr (.inr rfl),hr,.inl h⟩) (λh=>h);exact m.elim;have key:∀ k,cg w2 (.arr c.e c.T (c.f l x).1) W k->¬ cg w2 (.box c.bt [.own d]) (C id) k:=λk m ⟨ad,q1,q2⟩=>by rw[k1]at q1;cases q1;exact(p8 k ((oa h.lt hnm).1 m)).2 q2.symm
   intro i j oi oj k hs hs' hij hoi hoj R G;rcases O i oi hs hoi with ⟨rfl,rfl⟩|⟨rfl,rfl⟩|rfl
   rw[ga _ _ y.symm]at R;rcases O j oj hs' hoj with ⟨rfl,rfl⟩|⟨rfl,rfl⟩|rfl
   exact hij rfl;rw[ig]at G;exact key k G R;exact G;rw[ig]at R;rcases O j oj hs' hoj with ⟨rfl,rfl⟩|⟨rfl,rfl⟩|rfl
   rw[ga _ _ y.symm]at G;exact key k R G;exact hij rfl;exact G;exact R
  have s3:=s1.trans s2;have hinv:InvG P E ⟨s.n,s.sl,aB M [(r,Ob.gone),(d,.arr c.e c.T (c.f l x).1),(id,.box c.bt [.own d])],s.gs⟩ a w2 [] F1 (dG C d W):=by refine⟨z.n,z.df,?_,m2,λt=>(z.sl t).mono s3.hF s3.hw s3.hR,z.hg,λt=>s3.repA (z.gh t)⟩;obtain⟨γ0,h0⟩:=z.step;exact⟨γ0,h0.trans s3⟩
  exact⟨.val (lq c.rs (c.f l x).2),_,F1,_,hqv,hinv,u2,rfl,xq (p12.flat h.flats)⟩
def vM(n:Nat)(d b e:TypeId)(T:Ty)(l:List T.q)(a:List AV):St:=
 ⟨n,λi=>(AV.c (.ifp d (9999))::a).getD i .dead,λi=>if i=9999 then U (.box b [.own (bu 0)])else if i=bu 0 then U (.arr e T l)else V,λi=>if i=0 then .c (.ptr (9999) 0)else .dead⟩
def tS(P:Program)(g:List ResultVar)(d e:TypeId)(T:Ty)(b:List Ty)(s:St):Option (Fr (List T.q×aa b)):=
 match s.gs 0 with
 |.c (.ptr i 0)=>match s.mem i with
  |some (.box a [.own k])=>match s.mem k with
   |some (.arr f t l)=>if h:t=T then if f=e/\a=d then match ji P s g with
     |some (m,n)=>match jp b m with
      |some y=>U (Fr.needL n (.val (cY h l,y)))
      |none=>V
     |none=>V
    else V else V
   |_=>V
  |_=>V
 |_=>V
def kG(P:Program)(d:List ResultVar)(c e:TypeId)(T:Ty)(a:List Ty):Tr->Option (Fr (List T.q×aa a))
 |.leaf .ret s=>tS P d c e T a s
 |.leaf .normal s=>tS P d c e T a s
 |.leaf _ _=>V
 |.br b x y=>match kG P d c e T a x,kG P d c e T a y with
  |some f,U g=>U (.br b f g)
  |_,_=>V
 |.need p x=>match kG P d c e T a x with
  |some f=>U (.need p f)
  |none=>V
 |.two p x y=>match kG P d c e T a x,kG P d c e T a y with
  |some f,U g=>U (.need (p->f.ok/\f.get=g.get) g)
  |_,_=>V
def xH{l:List ResultVar}{k:TypeId}{T:Ty}{g:List Ty}:{t:Tr} -> {f:Fr (List T.q×aa g)}->kG P l k e T g t=U f->f.ok->t.sat λx s=>(x=.ret\/x=.normal)/\∃ n,tS P l k e T g s=U (Fr.needL n (.val f.get))/\az n
 |.leaf x s,f,h,a=>by
  have key:tS P l k e T g s=U f->∃ n,tS P l k e T g s=U (Fr.needL n (.val f.get))/\az n:=λh=>by
   have u:=h;unfold tS at h;split at h<;>try trivial
   split at h<;>try trivial
   split at h<;>try trivial
   split at h<;>try trivial
   split at h<;>try trivial
   split at h<;>try trivial
   split at h<;>try trivial
   cases h;refine⟨_,?_,(yu _ a).1⟩;rw[yq];exact u
  cases x with
  |exit i=>simp[kG]at h
  |panic i=>simp[kG]at h
  |val i=>simp[kG]at h
  |jump i=>simp[kG]at h
  |normal=>exact⟨.inr rfl,key h⟩
  |ret=>exact⟨.inl rfl,key h⟩
 |.br b x y,f,h,a=>by
  simp only[kG]at h;split at h<;>try trivial
  rename_i r w d m;cases h;refine⟨λc=>?_,λc=>?_⟩;have:=xH d (a.1 c);simpa only[Fr.get,c,if_true]using this;have:=xH m (a.2 c);simpa only[Fr.get,c,ub3,ufx]using this
 |.need p x,f,h,a=>by
  simp only[kG]at h;split at h<;>try trivial
  rename_i r d;cases h;have:=xH d a.2;exact⟨a.1,this⟩
 |.two p x y,f,h,a=>by
  simp only[kG]at h;split at h<;>try trivial
  rename_i r w d m;cases h;have v:=xH m a.2;refine⟨λo=>?_,v⟩;have:=xH d (a.1 o).1
  rwa [(a.1 o).2]at this
def Ph(P:Program)(C:Cx)(i:Nat->St->Option Tr)(a:Func)(g d e:TypeId)(T:Ty)(b:List PT)(f:List Ty)(l:List T.q)(h:ap b):Option (Fr (List T.q×aa f)):=
 match a.body with
 |some c=>if (a.name == "runtime.NumGoroutine")=Y/\b.length+1<=a.ntmps then match cQ P C 0 i c 0 (vM a.ntmps g d e T l (gk b h))with
   |some t=>kG P a.results.toList d e T f t
   |none=>V
  else V
 |none=>V
def Gl{C:Cx}(hC:CxOK P C){Λ:Nat->St->Option Tr}{fn:Func}{pt bt:TypeId}{T:Ty}{ps:List PT}{rs:List Ty}{fr:List T.q->ap ps->Fr (List T.q×aa rs)}(x0:ap ps)(hf:P.funcs[f]?= U fn)(hΛ:∀ c E,fn.body=U c->co P E Λ c 0)(hrun:∀ l xs,Ph P C Λ fn pt bt e T ps rs l xs=U (fr l xs))(hT:T.flat=true:=by rfl)(hTs:rs.all Ty.flat=true:=by rfl)(m:e<cJ:=by decide):
  SoundHt P f ⟨pt,bt,e,T,ps,rs,λl xs=>(fr l xs).get,λl xs=>[(fr l xs).ok]⟩:=by
 have h0:=hrun [] x0;unfold Ph at h0;split at h0<;>try trivial
 rename_i c hb;split at h0<;>try trivial
 rename_i hc;refine⟨m,hT,hTs,enters hf hb hc.1,λw F l xs b s r rows hbd S hbF K hnF hrows hcell hr hok=>ufh hf hb ?_⟩;have N:=hrun l xs;unfold Ph at N;simp only[hb,hc,ufw,if_true]at N;split at N<;>try trivial
 rename_i t ht;have hlen:r.length=ps.length:=v9 hr;have hone:=nj K;have hblt:b<w.heap.size:=(uaf.1 S).1;have hFb:∀ k,F k->(k<w.heap.size/\k≠b/\s.ownBlock≠U k):=λk B=>⟨hbd k B,λh=>hbF (h ▸ B),λh=>(hnF k h).1 B⟩;have hps:dm P w (λk=>k<w.heap.size/\k≠b/\s.ownBlock≠U k) ps xs r:=dm.mono hFb (λ_ _=>rfl) hr;have z:∀ R:Nat->Value->Prop,R (9999) (.pointer (U ⟨b,0,V⟩))->bI P w (λk=>k<w.heap.size/\k≠b/\s.ownBlock≠U k) R (AV.c (.ifp pt (9999))::gk ps xs) (.iface pt (.pointer (U ⟨b,0,V⟩))::r):=λR hR=>⟨⟨rfl,b,hR,rfl⟩,pK hps⟩;have A:9999≠bu 0:=by unfold bu;omega
 have O:I P ⟨w,λk=>k<w.heap.size/\k≠b/\s.ownBlock≠U k,λ_=>.pointer (U ⟨b,0,V⟩),[],0,ufj _⟩ (vM fn.ntmps pt bt e T l (gk ps xs)) { tmps:=(Value.iface pt (.pointer (U ⟨b,0,V⟩))::r).toArray++Array.replicate (fn.ntmps-(Value.iface pt (.pointer (U ⟨b,0,V⟩))::r).length) undef,defers:=[] } w:=by
  have hm1:(vM fn.ntmps pt bt e T l (gk ps xs)).mem (9999)=U (.box bt [.own (bu 0)]):=by simp only[vM,if_true]
  have hm0:(vM fn.ntmps pt bt e T l (gk ps xs)).mem (bu 0)=U (.arr e T l):=by simp only[vM,if_true,uf1 A.symm]
  have M:∀ i o,(vM fn.ntmps pt bt e T l (gk ps xs)).mem i=U o->(i=9999/\o=.box bt [.own (bu 0)])\/(i=bu 0/\o=.arr e T l):=λi o ho=>by have H:(if i=9999 then U (Ob.box bt [.own (bu 0)])else if i=bu 0 then U (.arr e T l)else V)=U o:=ho;split at H;rename_i x;cases H;exact .inl ⟨x,rfl⟩;split at H;rename_i x;cases H;exact .inr ⟨x,rfl⟩;cases H
  have hnm:=qg K;refine⟨_,λi=>if i=9999 then .pointer (U ⟨b,0,V⟩)else s,?_,rfl,⟨λ_=>undef,⟨λ_ h=>h,λ_ _=>rfl,λ_ _ h=>h.elim,λk B=>absurd B (Nat.not_lt_zero k),rfl,rfl,rfl,ufd _,λk B=>B.1,λk B=>.inl B⟩⟩,⟨λid o ho=>?_,λi j oi oj k hij L hj D hkj=>?_⟩,λt=>?_,λt g want v ht=>?_,λt=>?_⟩;show _=fn.ntmps;simp only[ucp,ucq,Array.size_replicate,uda];omega;rcases M id o ho with ⟨rfl,rfl⟩|⟨rfl,rfl⟩
  refine⟨b,#[s],uf0 rfl,S,λh=>h.2.1 rfl,ufj _,rfl,⟨s,rfl,hone,?_⟩,uT⟩;simp only[bx];unfold av;rw[hm0];exact(uf1 A.symm).symm;refine .inl ⟨m,rows,?_,λg hg h=>?_,hrows.flat hT,hcell⟩;show w.ownsRow 0 e T.size (if bu 0=9999 then _ else s) _ _;rw[uf1 A.symm];exact K;have hg':(if bu 0=9999 then Value.pointer (U ⟨b,0,V⟩)else s).ownBlock=U g:=hg;rw[uf1 A.symm]at hg';exact h.2.2 hg';have key:cg w (.box bt [.own (bu 0)]) (if 9999=9999 then .pointer (U ⟨b,0,V⟩)else s) k->¬ cg w (.arr e T l) (if bu 0=9999 then .pointer (U ⟨b,0,V⟩)else s) k:=by rw[uf0 rfl,uf1 A.symm];rintro⟨a,x,h2⟩ h3;cases x;exact(hnF k ((oa m hnm).1 h3)).2 h2.symm
  rcases M i oi L with ⟨rfl,rfl⟩|⟨rfl,rfl⟩
  rcases M j oj hj with ⟨rfl,rfl⟩|⟨rfl,rfl⟩
  exact hij rfl;exact key D hkj;rcases M j oj hj with ⟨rfl,rfl⟩|⟨rfl,rfl⟩
  exact key hkj D;exact hij rfl;have hg:((Value.iface pt (.pointer (U ⟨b,0,V⟩))::r).toArray++Array.replicate (fn.ntmps-(Value.iface pt (.pointer (U ⟨b,0,V⟩))::r).length) undef).getD t undef=(Value.iface pt (.pointer (U ⟨b,0,V⟩))::r).getD t undef:=by
   simp only[uac,uah];rcases uer t (Value.iface pt (.pointer (U ⟨b,0,V⟩))::r).length with m|hge
   rw[uai (by simpa using m)];simp;rw[uad (by simpa using hge),ua4 hge];simp only[uas];split<;>rfl
  show fw P w _ _ _ ((AV.c (.ifp pt (9999))::gk ps xs).getD t .dead) (((Value.iface pt (.pointer (U ⟨b,0,V⟩))::r).toArray++Array.replicate (fn.ntmps-(Value.iface pt (.pointer (U ⟨b,0,V⟩))::r).length) undef).getD t undef);rw[hg];refine zj (qn (z _ ?_) t);unfold av;rw[hm1];exact(uf0 rfl).symm;exfalso;have:=qn (z (λ_ _=>True) trivial) t;have ht':(AV.c (.ifp pt (9999))::gk ps xs).getD t .dead=.maybe g want v:=ht;rw[ht']at this;exact this;show aK P w _ _ (if t=0 then .c (.ptr (9999) 0)else .dead) _;split;refine⟨rfl,b,?_,rfl⟩;unfold av;rw[hm1];exact(uf0 rfl).symm;trivial
 have hwp:=iG hC c 0 (hΛ c _ hb) ht (xH N hok) O;have hsz:((Value.iface pt (.pointer (U ⟨b,0,V⟩))::r).toArray).size=(Value.iface pt (.pointer (U ⟨b,0,V⟩))::r).length:=by simp
 rw[hsz];refine wp_mono hwp ?_;rintro ex a' w' ⟨xe,st,rfl,⟨F',Q,L⟩,hxe,n,d,hnn⟩;have W:a'.defers=[]/\∃ u,(results fn a'.tmps).run P w'=.ok u w'/\RF w ⟨pt,bt,e,T,ps,rs,λl xs=>(fr l xs).get,λl xs=>[(fr l xs).ok]⟩ b s (fr l xs).get (.returned u) w':=by
  unfold tS at d;split at d<;>try trivial
  rename_i i hgs;split at d<;>try trivial
  rename_i bt' k p;split at d<;>try trivial
  rename_i e' t' l' G;split at d<;>try trivial
  rename_i hty;split at d<;>try trivial
  rename_i hee;split at d<;>try trivial
  rename_i vs' n' hres;split at d<;>try trivial
  rename_i y hdec;injection d with d
  obtain⟨hn',hy⟩:=yr d hnn;subst hty;obtain⟨rfl,rfl⟩:=hee;obtain⟨us,hran,hreps⟩:=qo L hres hn';obtain⟨γ0,x⟩:=L.step;obtain⟨b2,arr,g1,g2,g3,g4,g5,g6⟩:=L.mem.ob i _ p;have hb2:b2=b:=by
   have h2:=L.gh 0;rw[hgs]at h2;obtain⟨_,b3,h3,h4⟩:=h2;have h5:Value.pointer (U ⟨b3,0,V⟩)=Q i:=by simpa[av,p]using h3
   have h4':Value.pointer (U ⟨b,0,V⟩)=.pointer (U ⟨b3,0,V⟩):=h4;cases h4';rw[g1]at h5;cases h5;rfl
  subst hb2;obtain⟨⟨sv,z1,z2,z3⟩,_⟩:=g6;have hsv:sv=Q k:=fV G (by simp) z3;subst hsv;have fU:arr = #[Q k]:=by
   refine uci λj=>?_;cases j with
   |zero=>simpa using z1
   |succ j=>have:arr.size=1:=g5;rw[ua1 (by omega),ua1 (by simp)]
  subst fU;obtain⟨rows2,q1,q2,q3,q4⟩:=iT.of (L.mem.ob k _ G) m;have D:k≠i:=by rintro rfl;rw[G]at p;cases p
  refine⟨L.df,_,sf hran,_,Q k,rows2,rfl,x.os,x.tape,x.output,x.size,λk B hne hno=>x.hw k ⟨B,hne,hno⟩,g2,?_,λg hg=>⟨?_,λhe=>L.mem.apart k i _ _ g D G p (.inl hg) ⟨_,g1,he.symm⟩⟩,?_,q4,z2,?_⟩;rw[<- hy];exact uR q1 (λ_ _=>ufj _);rcases uer g w.heap.size with hgl|hgl
  by_cases hso:s.ownBlock=U g;exact .inl hso;exfalso;by_cases hgb:g=b2;exact L.mem.apart k i _ _ g D G p (.inl hg) ⟨_,g1,hgb.symm⟩;exact q2 g hg (x.hF g ⟨hgl,hgb,hso⟩);exact .inr hgl;rw[<- hy];exact q3.flat hT;rw[<- hy];exact(zk (nY hdec hreps)).flat hTs
 rcases hxe with rfl|rfl
 exact W;exact W
def Ff{a:Ht}(h:SoundHt P f a)(g:List a.T.q->ap a.ps->List a.T.q×aa a.rs)(ok:List a.T.q->ap a.ps->List Prop)(t:∀ w F l xs vs,dm P w F a.ps xs vs->l.length<=maxLen->(∀ x∈l,Wf a.T x)->az (ok l xs)->az (a.ok l xs)/\a.f l xs=g l xs):SoundHt P f ⟨a.pt,a.bt,a.e,a.T,a.ps,a.rs,g,ok⟩:=by refine⟨h.lt,h.flat,h.flats,h.enters,λw F l xs b s vs d p v u m r k y c i=>?_⟩;obtain⟨n,o⟩:=t w F l xs vs c (Zh m) (qak k) i;have:=h.calls w F l xs b s vs d p v u m r k y c n;rw[o]at this;exact this
end
end Go.Ab
namespace Go.Proofs.YtdokapnnagbehaaGreat
open Go Go.Ab Go.RowKit Go.Proofs Tryz
open Go.Ab.Fr renaming val->Jv,need->Jd,br->Jb
abbrev i64:Ty:=.int .i64
abbrev u64:Ty:=.int .u64
abbrev aP:Ty:=.sl i64
abbrev cK:Ty:=.pair i64 (.pair i64 .unit)
abbrev bG:Ty:=.pair aP (.pair aP .unit)
abbrev eV:Ty:=.pair i64 (.pair i64 (.pair i64 (.pair i64 .unit)))
abbrev ar:Ty:=.pair i64 (.pair i64 (.pair i64 (.pair i64 (.pair i64 .unit))))
abbrev aF:Ty:=.pair cK (.pair .bool (.pair eV (.pair (.sl ar) (.pair i64 .unit))))
def Cn:Nat->St->Option Tr:=λ_ _=>V
def C0:Cx:=⟨⟨λ_=>V,λ_=>V⟩,λ_=>V,λ_ _ _ _=>V⟩
def aH:prog.follows .mixedOrders=true:=by kernel_rfl
def vZ:CxOK prog C0:=⟨aH,⟨λ_ _ h=>(nomatch h),λ_ _ h=>(nomatch h)⟩,λ_ _ h=>(nomatch h),λ_ _ _ _ _ h=>(nomatch h)⟩
def oz{E:Env}:(c:Code)->(k:Nat)->co prog E Cn c k
 |.seq a b,k=>⟨oz a k,oz b _⟩
 |.cond _ a b,k=>⟨oz a k,oz b _⟩
 |.block _ c,k=>oz c k
 |.loop _,_=>λ_ _ h=>nomatch h
 |.skip,_=>trivial
 |.ret,_=>trivial
 |.exit _,_=>trivial
 |.region _ _ _,_=>trivial
 |.label _,_=>trivial
 |.goto _,_=>trivial
 |.scope c,k=>oz c k
 |.rangeFunc _ _ _ _,_=>trivial
 |.refuse _,_=>trivial
def plain{C:Cx}(b:CxOK prog C){fn:Func}{ps:List PT}{rs:List Ty}{fr:ap ps->Fr (aa rs)}(h:ap ps)(d:prog.funcs[f]?= U fn)(a:∀ xs,oP prog C Cn fn ps rs xs=U (fr xs))(g:ap ps->aa rs)(ok:ap ps->List Prop)(e:∀ w F xs vs,dm prog w F ps xs vs->az (ok xs)->(fr xs).ok/\(fr xs).get=g xs):ag prog f ⟨ps,rs,g,ok⟩:=
 conv (cF b h d (λc E _=>oz c 0) a) g ok e
def kO(v:Int):Bool:=J (v >= -4000000000000000000)&&J (v<=4000000000000000000)
def Kk:Ct:=⟨[.d i64],[.bool],λx=>(kO x.1,()),λ_=>[]⟩
def zgk:ag prog 216 Kk:=
 plain (ps:=[.d i64]) (rs:=[.bool]) vZ (fn:=f216) (fr:=λx=>Jv (bif J (x.1 >= -4000000000000000000)then J (x.1<=4000000000000000000)else Y,())) (0,()) (by kernel_rfl) (λx=>by kernel_rfl) _ _
  (λ_ _ x _ _ _=>⟨uT,by simp only[Fr.get,kO];cases J (x.1 >= -4000000000000000000)<;>rfl⟩)
def fp(s:cK.q):Bool:=J (s.1>=1)&&(J (s.1<s.2.1)&&J (s.2.1<=292195))
def mw(s:cK.q):Bool:=J (s.1>=1)&&(J (s.1<=s.2.1)&&J (s.2.1<=292195))
def qme:Ct:=⟨[.d cK],[.bool],λx=>(fp x.1,()),λ_=>[]⟩
def lg:Ct:=⟨[.d cK],[.bool],λx=>(mw x.1,()),λ_=>[]⟩
def PK(a b c:Bool):(bif bif a then b else Y then c else Y)=(a&&(b&&c)):=by cases a<;>cases b<;>rfl
def qx7:ag prog 197 qme:=
 plain (ps:=[.d cK]) (rs:=[.bool]) vZ (fn:=f197) (fr:=λx=>Jv (bif bif J (x.1.1>=1)then J (x.1.1<x.1.2.1)else Y then J (x.1.2.1<=292195)else Y,())) ((0,0,()),()) (by kernel_rfl) (λx=>by kernel_rfl) _ _
  (λ_ _ x _ _ _=>⟨uT,by simp only[Fr.get,fp,PK]⟩)
def OQ:ag prog 100 lg:=
 plain (ps:=[.d cK]) (rs:=[.bool]) vZ (fn:=f100) (fr:=λx=>Jv (bif bif J (x.1.1>=1)then J (x.1.1<=x.1.2.1)else Y then J (x.1.2.1<=292195)else Y,())) ((0,0,()),()) (by kernel_rfl) (λx=>by kernel_rfl) _ _
  (λ_ _ x _ _ _=>⟨uT,by simp only[Fr.get,mw,PK]⟩)
def pT(s:aF.q)(e:Int):Bool:=J (s.1.1>=e)&&(J (s.1.1<s.1.2.1)&&(J (s.1.2.1<=292195)&&(J (s.2.2.2.2.1>=0)&&J (s.2.2.2.2.1<=4000000000000000000))))
def t3:Ct:=⟨[.d aF,.d i64],[.bool],λx=>(pT x.1 x.2.1,()),λ_=>[]⟩
def Mn(a b c d e:Bool):(bif bif bif bif a then b else Y then c else Y then d else Y then e else Y)=(a&&(b&&(c&&(d&&e)))):=by cases a<;>cases b<;>cases c<;>cases d<;>rfl
def qx8:ag prog 152 t3:=
 plain (ps:=[.d aF,.d i64]) (rs:=[.bool]) vZ (fn:=f152) (fr:=λx=>Jv (bif bif bif bif J (x.1.1.1>=x.2.1)then J (x.1.1.1<x.1.1.2.1)else Y then J (x.1.1.2.1<=292195)else Y then J (x.1.2.2.2.2.1>=0)else Y then J (x.1.2.2.2.2.1<=4000000000000000000)else Y,()))
  (aF.j,0,()) (by kernel_rfl) (λx=>by kernel_rfl) _ _ (λ_ _ x _ _ _=>⟨uT,by simp only[Fr.get,pT,Mn]⟩)
def la:Ct:=⟨[.d i64],[.bool],λ_=>(Y,()),λ_=>[]⟩
def Yk:ag prog 242 la:=
 plain (ps:=[.d i64]) (rs:=[.bool]) vZ (fn:=f242) (fr:=λx=>Jv (x.1 != x.1,())) (0,()) (by kernel_rfl) (λx=>by kernel_rfl) _ _ (λ_ _ x _ _ _=>⟨uT,by simp[Fr.get]⟩)
def NW:ag prog 202 la:=
 plain (ps:=[.d i64]) (rs:=[.bool]) vZ (fn:=f202) (fr:=λx=>Jv (x.1 != x.1,())) (0,()) (by kernel_rfl) (λx=>by kernel_rfl) _ _ (λ_ _ x _ _ _=>⟨uT,by simp[Fr.get]⟩)
def Γ1:FuncId->Option Ct:=λf=>if f=242 then U la else if f=202 then U la else V
def C1:Cx:=⟨Γ1,λ_=>V,λ_ _ _ _=>V⟩
def Ol{b:FuncId->Option Ct}(h:∀ f a,b f=U a->ag prog f a):CxOK prog ⟨b,λ_=>V,λ_ _ _ _=>V⟩:=
 ⟨aH,⟨h,λ_ _ h=>(nomatch h)⟩,λ_ _ h=>(nomatch h),λ_ _ _ _ _ h=>(nomatch h)⟩
def qem:CxOK prog C1:=Ol λf b h=>by simp only[Γ1]at h;split at h;rename_i a;subst a;cases h;exact Yk;split at h;rename_i a;subst a;cases h;exact NW;cases h
def A6:Ct:=⟨[.d i64,.d i64],[.bool],λx=>(J (x.1<x.2.1),()),λ_=>[]⟩
def X8:ag prog 213 A6:=
 plain (ps:=[.d i64,.d i64]) (rs:=[.bool]) qem (fn:=f213) (fr:=λx=>Jv (bif bif (la.f (x.1,())).1 then !(la.f (x.2.1,())).1 else Y then Z else J (x.1<x.2.1),())) (0,0,()) (by kernel_rfl) (λx=>by kernel_rfl) _ _
  (λ_ _ x _ _ _=>⟨uT,rfl⟩)
abbrev eK:Ty:=.sl aF
def qO(a b:Bool):(bif a then b else Y)=(a&&b):=by cases a<;>rfl
def cV{n:Int}(h : -9223372036854775808<=n/\n<=9223372036854775807):I6.wrap n=n:=IntWalk.i64_in _ h
def gg:Pc:=⟨[.d i64],[],λ_=>(),λx=>!(x.1==0),λx=>⟨47,.i64,x.1⟩,λ_=>[]⟩
def NU:lM prog 149 gg:=by
 refine⟨enters (fn:=f149) (by kernel_rfl) rfl rfl,λw F o p g k _=>?_⟩;obtain⟨v,m,rfl,l,i⟩:=k;cases i;obtain⟨n,_⟩:=o;have e:v=.int .i64 n:=by have h:aK prog w F (λ_ _=>True) (eR i64 n) v:=iH l;exact h.2.1
 subst e;by_cases c:n=0
 ·subst c
  go_enter func149,ntmps149
  go_wp2
  go_end0
  refine .inl ⟨rfl,.tuple #[],F,rfl,ufn _ _,λ_ h=>h,λb h=>⟨.inl h,g b h⟩,#[],rfl,rfl⟩
 ·have d:(n==0)=false:=by simpa using c
  have f:(n != 0)=true:=by simpa using c
  have a:gg.bad (n,())=true:=by show(!(n==0))=Z;rw[d];rfl
  go_enter func149,ntmps149
  go_wp2
  exact⟨rfl,.inr ⟨a,rfl,ufn _ _⟩⟩
def hN(a:Int):Int:=U6.wrap ((Bvo U6.bits a &&& Bvo U6.bits 4294967295).toNat:Int)
def bS(a:Int):Int:=a.fdiv (2 ^ min (Int.toNat 32) U6.bits)
def eF{n:Int}(h:0<=n/\n<=18446744073709551615):U6.wrap n=n:=IntWalk.u64_in _ h
def GG(h:0<=a/\a<=18446744073709551615):hN a=a%4294967296:=by
 obtain⟨n,rfl⟩:∃ n:Nat,a=n:=⟨a.toNat,by omega⟩;unfold hN;have b:(Bvo U6.bits (n:Int) &&& Bvo U6.bits 4294967295).toNat=n%4294967296:=by
  have c:(Bvo U6.bits (n:Int)).toNat=n:=by rw[BitVec.toNat_ofInt];show((n:Int)%((2 ^ 64:Nat):Int)).toNat=n;omega
  have d:(Bvo U6.bits (4294967295:Int)).toNat=2 ^ 32-1:=by decide
  rw[BitVec.toNat_and,c,d,Nat.and_two_pow_sub_one_eq_mod]
 rw[b,eF (by omega)];omega
def Nf:bS a=a/4294967296:=by
 unfold bS;have:(2:Int) ^ min (Int.toNat 32) U6.bits=4294967296:=by decide
 rw[this,uag _ (by decide)]
def yl(x y:Int):Int:=U6.wrap (U6.wrap (bS x*hN y)+bS (U6.wrap (hN x*hN y)))
def qw8(x:ap [.d u64,.d u64]):Fr (aa [u64,u64]):=
 let b:=yl x.1 x.2.1;let a:=¬ (32:Int)<0;Jd a (Jd a (Jd a (Jd a (Jd a
  (Jv (U6.wrap (U6.wrap (U6.wrap (bS x.1*bS x.2.1)+bS b)+bS (U6.wrap (hN b+U6.wrap (hN x.1*bS x.2.1)))),
   U6.wrap (x.1*x.2.1),()))))))
def pu:Ct:=⟨[.d u64,.d u64],[u64,u64],λx=>(x.1*x.2.1/18446744073709551616,x.1*x.2.1%18446744073709551616,()),λ_=>[]⟩
def GY{b n:Int}(d:0<=a/\a<=n)(c:0<=b/\b<=n):0<=a*b/\a*b<=n*n:=
 ⟨uec d.1 c.1,Int.mul_le_mul d.2 c.2 c.1 (by omega)⟩
def zgp(b a d c:Int):(b*4294967296+a)*(d*4294967296+c)=b*d*18446744073709551616+(b*c+a*d)*4294967296+a*c:=by grind
def zgo(m:0<=x/\x<=18446744073709551615)(o:0<=y/\y<=18446744073709551615):
  U6.wrap (U6.wrap (U6.wrap (bS x*bS y)+bS (yl x y))+bS (U6.wrap (hN (yl x y)+U6.wrap (hN x*bS y))))=x*y/18446744073709551616:=by
 have ex:x=x/4294967296*4294967296+x%4294967296:=by omega
 have l:y=y/4294967296*4294967296+y%4294967296:=by omega
 have k:=zgp (x/4294967296) (x%4294967296) (y/4294967296) (y%4294967296);rw[<- ex,<- l]at k;rw[k];unfold yl;rw[GG m,GG o];simp only[Nf];have f:0<=x/4294967296/\x/4294967296<=4294967295:=by omega
 have g:0<=x%4294967296/\x%4294967296<=4294967295:=by omega
 have h:0<=y/4294967296/\y/4294967296<=4294967295:=by omega
 have i:0<=y%4294967296/\y%4294967296<=4294967295:=by omega
 have t:=GY f h;have s:=GY f i;have r:=GY g h;have p:=GY g i;clear k ex l f g h i;generalize x/4294967296*(y/4294967296)=e at *;generalize x/4294967296*(y%4294967296)=c at *;generalize x%4294967296*(y/4294967296)=d at *;generalize x%4294967296*(y%4294967296)=b at *;rw[eF (n:=e) (by omega),eF (n:=c) (by omega),eF (n:=d) (by omega),eF (n:=b) (by omega),eF (n:=c+b/4294967296) (by omega),GG (a:=c+b/4294967296) (by omega),
  eF (n:=(c+b/4294967296)%4294967296+d) (by omega)]
 rw[eF (n:=e+(c+b/4294967296)/4294967296) (by omega),eF (by omega)];omega
def s6{n:Int}(h:bJ w F u64 n v):0<=n/\n<=18446744073709551615:=h.2.2.2
def xP{n:Int}(h:bJ w F i64 n v): -9223372036854775808<=n/\n<=9223372036854775807:=h.2.2.2
def NT:ag prog 220 pu:=
 flat (ps:=[.d u64,.d u64]) (rs:=[u64,u64]) (aQ (cs:=[]) (ps:=[]) aH trivial trivial) (fn:=f220) (fr:=qw8) (0,0,()) (by kernel_rfl) (λx=>by kernel_rfl) _ _
  (λw F x o h _=>by
   obtain⟨a,b,u⟩:=x;obtain⟨m,k,rfl,f,n,l,rfl,g,_⟩:=h;have c:=s6 f;have e:=s6 g;refine⟨⟨by decide,by decide,by decide,by decide,by decide,uT⟩,?_⟩;show(U6.wrap (U6.wrap (U6.wrap (bS a*bS b)+bS (yl a b))+bS (U6.wrap (hN (yl a b)+U6.wrap (hN a*bS b)))),U6.wrap (a*b),())=(a*b/18446744073709551616,a*b%18446744073709551616,());have i:U6.wrap (a*b)=a*b%18446744073709551616:=by rw[IntKind.wrap_u64]
   rw[zgo c e,i])
def My(x:ap [.d u64,.d u64,.d u64]):Fr (aa [u64,u64]):=
 let a:=x.2.2.1;Jb (a==0) (Jd False (Jv (0,0,())))
  (Jb (J (a<=x.1)) (Jd False (Jv (0,0,())))
   (Jb (x.1==0) (Jd (a≠0) (Jd (a≠0) (Jv (U6.wrap (x.2.1.tdiv a),x.2.1.tmod a,()))))
    (Jd False (Jv (0,0,())))))
def Ez:Ct:=⟨[.d u64,.d u64,.d u64],[u64,u64],λx=>(x.2.1/x.2.2.1,x.2.1%x.2.2.1,()),λx=>[x.1=0,0<x.2.2.1]⟩
def qqq{a:Int}(d:0<=a/\a<=18446744073709551615)(h:0<y):(My (0,a,y,())).ok/\(My (0,a,y,())).get=(a/y,a%y,()):=by
 have e:(y==0)=false:=by simp;omega
 have f:J (y<=(0:Int))=false:=by simp;omega
 have g:y≠0:=by omega
 refine⟨⟨λc=>?_,λ_=>⟨λc=>?_,λ_=>⟨λ_=>⟨g,g,uT⟩,λc=>by cases c⟩⟩⟩,?_⟩;have b:(y==0)=true:=c;rw[e]at b;cases b;have b:J (y<=(0:Int))=true:=c;rw[f]at b;cases b;show(if (y==0)=Z then ((0:Int),(0:Int),())else if J (y<=(0:Int))=Z then ((0:Int),(0:Int),())else (U6.wrap (a.tdiv y),a.tmod y,()))=(a/y,a%y,());rw[e,f];simp only[ub3,ufx];rw[IntWalk.u64_quo a y ⟨d.1,d.2,by omega⟩,IntWalk.rem_in a y d.1]
def qqp:ag prog 221 Ez:=
 flat (ps:=[.d u64,.d u64,.d u64]) (rs:=[u64,u64]) (aQ (cs:=[]) (ps:=[]) aH trivial trivial) (fn:=f221) (fr:=My) (0,0,0,()) (by kernel_rfl) (λx=>by kernel_rfl) _ _
  (λw F x t g b=>by obtain⟨f,o,y,u⟩:=x;obtain⟨p,i,rfl,m,r,k,rfl,c,s,l,rfl,n,_⟩:=g;obtain⟨e,h⟩:=b;have a:f=0:=e;subst a;exact qqq (s6 c) h)
def Ec:FuncId->Option (Func×(Nat->St->Option Tr)):=cR [(219,(f219,bK))]
def Ed:FuncId->Option (Func×(Nat->St->Option Tr)):=cR [(200,(f200,bK)),(199,(f199,bK))]
abbrev Ej:List (FuncId×Ct):=[(220,pu),(221,Ez)]
def J7:kj prog Ej:=⟨NT,qqp,uT⟩
def Q0:Cx:=cx Ej []
def Q1:Cx:=dI Ej [] (iJ prog Q0 Ec)
def CN3:Cx:=dI Ej [] (iJ prog Q1 Ed)
def qfq:CxOK prog Q0:=aQ aH J7 trivial
def RQ:∀ f fn Λ,Ec f=some (fn,Λ)->prog.funcs[f]?= some fn/\∀ c E',fn.body=some c->co prog E' Λ c 0:=λf fn Λ h=>by
 simp only[Ec,cR]at h;split at h;rename_i hf;subst hf;cases h;exact⟨by kernel_rfl,λc E' _=>bm c 0⟩;cases h
def qfr:CxOK prog Q1:=dP aH J7 trivial (jt qfq RQ)
def RR:∀ f fn d,Ed f=U (fn,d)->prog.funcs[f]?= U fn/\∀ c a,fn.body=U c->co prog a d c 0:=λf fn d h=>by simp only[Ed,cR]at h;split at h;rename_i b;subst b;cases h;exact⟨by kernel_rfl,λc a _=>bm c 0⟩;split at h;rename_i b;subst b;cases h;exact⟨by kernel_rfl,λc a _=>bm c 0⟩;cases h
def qft:CxOK prog CN3:=dP aH J7 trivial (jt qfr RR)
def pM(q:Int):Fr (aa [i64,i64]):=Jb (J (q>4000000000000000000)) (Jv (0,5,())) (Jv (I6.wrap q,0,()))
def rq(q r c:Int):Fr (aa [i64,i64]):=
 Jb (J (q>4000000000000000000)) (Jv (0,5,()))
  (Jd ((r==U6.wrap (c-r))=Z->J (r>U6.wrap (c-r))=Y->(2:Int)≠0)
   (Jb (bif J (r>U6.wrap (c-r))then Z else bif r==U6.wrap (c-r)then q.tmod 2==1 else Y) (pM (U6.wrap (q+1))) (pM q)))
def Ux(h l c:Int):Fr (aa [i64,i64]):=
 Jb (decide (h>=c)) (Jv (0,5,())) (Jd (h=0) (Jd (0<c) (rq (Ez.f (h,l,c,())).1 (Ez.f (h,l,c,())).2.1 c)))
def FP(x:ap [.d i64,.d i64,.d i64]):Fr (aa [i64,i64]):=
 let a:=pu.f (U6.wrap x.1,U6.wrap x.2.1,());Jb (bif bif J (x.1<0)then Z else J (x.2.1<0)then Z else J (x.2.2.1<0)) (Jv (0,1,()))
  (Jb (x.2.2.1==0) (Jv (0,6,()))
   (Ux a.1 a.2.1 (U6.wrap x.2.2.1)))
def lY(p c:Int):Int:=if p%c>c-p%c\/(p%c=c-p%c/\p/c%2=1)then p/c+1 else p/c
def du(a b c:Int):Int×Int:=if a<0\/b<0\/c<0 then (0,1)else if c=0 then (0,6)else if lY (a*b) c>4000000000000000000 then (0,5)else (lY (a*b) c,0)
def Sr(a b c:Bool):(bif bif a then Z else b then Z else c)=(a || (b || c)):=by cases a<;>cases b<;>rfl
def Uy{q:Int}(h:0<=q):(pM q).ok/\(pM q).get=if q>4000000000000000000 then (0,5,())else (q,0,()):=by refine⟨⟨λ_=>uT,λ_=>uT⟩,?_⟩;show(if J (q>4000000000000000000)=Z then ((0:Int),(5:Int),())else (I6.wrap q,(0:Int),()))=_;by_cases a:q>4000000000000000000;rw[uf0 (by simpa using a),uf0 a];have b:I6.wrap q=q:=cV (by omega);rw[uf1 (by simpa using a),uf1 a,b]
def U0{q c:Int}(o:0<=r/\r<c)(n:c<=9223372036854775807)(k:0<=q):
  (rq q r c).ok/\(rq q r c).get=if (if r>c-r\/(r=c-r/\q%2=1)then q+1 else q)>4000000000000000000 then (0,5,())else ((if r>c-r\/(r=c-r/\q%2=1)then q+1 else q),0,()):=by
 have m:U6.wrap (c-r)=c-r:=eF (by omega);have l:q.tmod 2=q%2:=Int.tmod_eq_emod_of_nonneg k;unfold rq;rw[m,l];by_cases g:q>4000000000000000000;have b:J (q>4000000000000000000)=true:=by simpa using g
 refine⟨⟨λ_=>uT,λi=>by rw[b]at i;cases i⟩,?_⟩;show(if J (q>4000000000000000000)=Z then ((0:Int),(5:Int),())else _)=_;rw[b,uf0 rfl,uf0];split<;>omega
 have b:J (q>4000000000000000000)=false:=by simpa using g
 have a:(bif J (r>c-r)then Z else bif r==c-r then q%2==1 else Y)=J (r>c-r\/(r=c-r/\q%2=1)):=by rw[udy];simp
 rw[a];have d:U6.wrap (q+1)=q+1:=eF (by omega);rw[d];have e:=Uy (q:=q+1) (by omega);have f:=Uy k;refine⟨⟨λ_=>uT,λ_=>⟨λ_ _=>by decide,λ_=>e.1,λ_=>f.1⟩⟩,?_⟩;show(if J (q>4000000000000000000)=Z then ((0:Int),(5:Int),())else if J (r>c-r\/(r=c-r/\q%2=1))=Z then (pM (q+1)).get else (pM q).get)=_;rw[b,uf1 (by decide),e.2,f.2];by_cases h:r>c-r\/(r=c-r/\q%2=1);simp only[h,decide_true,if_true];simp only[h,decide_false,ufx,ub3]
def qse{b c:Int}(w : -9223372036854775808<=a/\a<=9223372036854775807)(x : -9223372036854775808<=b/\b<=9223372036854775807)(v : -9223372036854775808<=c/\c<=9223372036854775807)(y:0<=a->0<=b->a*b<18446744073709551616):(FP (a,b,c,())).ok/\(FP (a,b,c,())).get=((du a b c).1,(du a b c).2,()):=by
 unfold FP;simp only[Sr];by_cases i:a<0\/b<0\/c<0;have n:(J (a<0) || (J (b<0) || J (c<0)))=true:=by simpa using i
 rw[n];refine⟨⟨λ_=>uT,λd=>by cases d⟩,?_⟩;unfold du;rw[uf0 i];rfl;have n:(J (a<0) || (J (b<0) || J (c<0)))=false:=by simpa using i
 rw[n];have k:0<=a:=by omega
 have l:0<=b:=by omega
 have m:0<=c:=by omega
 have g:=uec k l;rw[show U6.wrap a=a from eF (by omega),show U6.wrap b=b from eF (by omega),show U6.wrap c=c from eF (by omega)];have t:(pu.f (a,b,())).1=0:=by show a*b/18446744073709551616=0;omega
 have u:(pu.f (a,b,())).2.1=a*b:=by show a*b%18446744073709551616=a*b;omega
 rw[t,u];unfold du;rw[uf1 i];by_cases p:c=0;subst p;refine⟨⟨λd=>(by cases d),λ_=>⟨λ_=>uT,λd=>by cases d⟩⟩,rfl⟩;have s:(c==0)=false:=by simpa using p
 rw[uf1 p,s];have e:0<c:=by omega
 have o:J ((0:Int)>=c)=false:=by simpa using e
 have h:=U0 (r:=a*b%c) ⟨Int.emod_nonneg _ (by omega),Int.emod_lt_of_pos _ e⟩ v.2 (udl g m);unfold Ux;rw[o];refine⟨⟨λd=>(by cases d),λ_=>⟨λd=>(by cases d),λ_=>⟨λd=>(by cases d),λ_=>⟨rfl,e,h.1⟩⟩⟩⟩,?_⟩;show(rq (a*b/c) (a*b%c) c).get=_;rw[h.2];unfold lY;generalize (if a*b%c>c-a*b%c\/a*b%c=c-a*b%c/\a*b/c%2=1 then a*b/c+1 else a*b/c)=z;split<;>rfl
def tz:Ct:=⟨[.d i64,.d i64,.d i64],[i64,i64],λx=>((du x.1 x.2.1 x.2.2.1).1,(du x.1 x.2.1 x.2.2.1).2,()),λx=>[0<=x.1->0<=x.2.1->x.1*x.2.1<18446744073709551616]⟩
def qsd:ag prog 150 tz:=
 flat (ps:=[.d i64,.d i64,.d i64]) (rs:=[i64,i64]) qft (fn:=f150) (fr:=FP) (0,0,0,()) (by kernel_rfl) (λx=>by kernel_rfl) _ _
  (λw F x r i e=>by obtain⟨a,b,c,u⟩:=x;obtain⟨n,k,rfl,f,o,l,rfl,g,p,m,rfl,h,_⟩:=i;exact qse (xP f) (xP g) (xP h) e)
def vV:Fr α->Fr α
 |.br Z x _=>vV x
 |.br Y _ y=>vV y
 |.need p x=>.need p (vV x)
 |.val v=>.val v
def IA:{f:Fr α}->(vV f).ok->f.ok/\f.get=(vV f).get
 |.br Z x _,h=>by have:=IA (f:=x) h;exact⟨⟨λ_=>this.1,λa=>(by cases a)⟩,this.2⟩
 |.br Y _ y,h=>by have:=IA (f:=y) h;exact⟨⟨λa=>(by cases a),λ_=>this.1⟩,this.2⟩
 |.need _ x,h=>by have:=IA h.2;exact⟨⟨h.1,this.1⟩,this.2⟩
 |.val _,_=>⟨uT,rfl⟩
def zsc{f g:Fr α}(h:vV f=g)(a:g.ok):f.ok/\f.get=g.get:=by subst h;exact IA a
def dz{ps:List PT}{rs:List Ty}{fr:ap ps->Fr (aa rs)}(h:ag P f (bg ps rs fr))(g:ap ps->aa rs)(ok:ap ps->List Prop)(a:∀ w F xs vs,dm P w F ps xs vs->az (ok xs)->(fr xs).ok/\(fr xs).get=g xs):ag P f ⟨ps,rs,g,ok⟩:=
 conv h g ok a
def qw6(x:ap [.d u64]):Fr (aa [i64]):=(oP prog (cx [] []) bK f243 [.d u64] [i64] x).getD (Jd False (Jv (0,())))
def qw7:vV (qw6 (10000,()))=Jd (¬ (8:Int)<0) (Jd (0<=(39:Int)/\(39:Int)<((256:Nat):Int)) (Jv (14,()))):=by kernel_rfl
def Kg:Ct:=⟨[.d u64],[i64],λ_=>(14,()),λx=>[x.1=10000]⟩
def zcr:ag prog 243 Kg:=
 dz (aT (aQ (cs:=[]) (ps:=[]) aH trivial trivial) f243) _ _
  (λw F x c _ a=>by obtain⟨n,_⟩:=x;have b:=a;subst b;exact zsc qw7 ⟨by decide,⟨by decide,by decide⟩,uT⟩)
def SJ:Ct:=⟨[.d u64],[i64],λ_=>(50,()),λx=>[x.1=10000]⟩
def zf5:ag prog 235 SJ:=
 conv (aT (aQ (cs:=[(243,Kg)]) (ps:=[]) aH ⟨zcr,uT⟩ trivial) f235 (fr:=λx=>Jd (x.1=10000) (Jv (I6.wrap (64-(Kg.f (x.1,())).1),()))) (ps:=[.d u64])) _ _
  (λw F x b _ a=>⟨⟨a,uT⟩,rfl⟩)
abbrev dU:PT:=.d u64
def qF:LS:=⟨[(2,dU),(8,dU),(9,dU),(10,dU),(11,dU),(13,dU),(14,dU),(15,dU),(16,dU)],[]⟩
def qH:LS:=⟨[(2,dU),(8,dU),(9,dU),(10,dU),(13,dU),(14,dU),(15,dU),(16,dU),(17,dU),(18,dU)],[]⟩
def yD:Pt:=⟨135,0,qF,qF,⟨[],[]⟩⟩
def yE:Pt:=⟨135,2,qH,qH,⟨[],[]⟩⟩
def kP(q a r u:Int):Bool:=bif J (q>=4294967296)then Z else J (U6.wrap (q*a)>U6.wrap (U6.wrap (4294967296*r)+u))
def U4(x:qF.X):Fr yD.Out:=
 match x with
 |((y,s,a,b,c,d,e,q,r,_),_)=>Jb (kP q b r d)
  (Jb (J (U6.wrap (r+a)>=4294967296))
   (Jv (Rd.out ((y,s,a,b,c,d,e,U6.wrap (q-1),U6.wrap (r+a),()),())))
   (Jv (Rd.next ((y,s,a,b,c,d,e,U6.wrap (q-1),U6.wrap (r+a),()),()))))
  (Jv (Rd.out ((y,s,a,b,c,d,e,q,r,()),())))
def U5(x:qH.X):Fr yE.Out:=
 match x with
 |((y,s,a,b,d,e,q,r,u,v,_),_)=>Jb (kP v b r e)
  (Jb (J (U6.wrap (r+a)>=4294967296))
   (Jv (Rd.out ((y,s,a,b,d,e,q,U6.wrap (r+a),u,U6.wrap (v-1),()),())))
   (Jv (Rd.next ((y,s,a,b,d,e,q,U6.wrap (r+a),u,U6.wrap (v-1),()),()))))
  (Jv (Rd.out ((y,s,a,b,d,e,q,r,u,v,()),())))
def FD0(x:qF.X):Fr yD.Out:=Jd (kP x.1.2.2.2.2.2.2.2.1 x.1.2.2.2.1 x.1.2.2.2.2.2.2.2.2.1 x.1.2.2.2.2.2.1=Y) (Jv (.out x))
def FD2(x:qH.X):Fr yE.Out:=Jd (kP x.1.2.2.2.2.2.2.2.2.2.1 x.1.2.2.2.1 x.1.2.2.2.2.2.2.2.1 x.1.2.2.2.2.2.1=Y) (Jv (.out x))
def CD:Cx:=cx [(235,SJ)] []
def IH:CxOK prog CD:=aQ aH ⟨zf5,uT⟩ trivial
def zmo:af prog (au f221 0) qF yD U4:=af.of_run IH (bs:=0) rfl rfl rfl (λ_=>bm _ 0) (λx=>by kernel_rfl)
def zmp:af prog (au f221 1) qH yE U5:=af.of_run IH (bs:=0) rfl rfl rfl (λ_=>bm _ 0) (λx=>by kernel_rfl)
def qq8:af prog (.loop (au f221 0)) qF yD FD0:=
 af.loop zmo (μ:=λ_=>0)
  (by rintro⟨⟨y,s,a,b,c,d,e,q,r,_⟩,_⟩ f Q g;exact⟨λh=>(by rw[show kP q b r d=Y from f]at h;cases h),λ_=>g.2⟩)
  (λx Q h=>h.1)
def qq9:af prog (.loop (au f221 1)) qH yE FD2:=
 af.loop zmp (μ:=λ_=>0)
  (by rintro⟨⟨y,s,a,b,d,e,q,r,u,v,_⟩,_⟩ c Q f;exact⟨λh=>(by rw[show kP v b r e=Y from c]at h;cases h),λ_=>f.2⟩)
  (λx Q h=>h.1)
abbrev wU(n:Int):Int:=U6.wrap n
def fM(a:Int):Int:=wU (a*2 ^ min (wU 50).toNat U6.bits)
def nW(a b:Int):Int:=wU ((Bvo U6.bits (fM a) ||| Bvo U6.bits (b.fdiv (2 ^ min (wU (64-wU 50)).toNat U6.bits))).toNat:Int)
def dQ(u y:Int):Int:=wU (u.tdiv (bS (fM y)))
def dR(u y:Int):Int:=wU (u-wU (dQ u y*bS (fM y)))
def pF(b a y:Int):Int:=wU (wU (wU (nW b a*4294967296)+bS (fM a))-wU (dQ (nW b a) y*fM y))
def qw2(f e y:Int):Fr (aa [u64,u64]):=
 let k:=¬ (32:Int)<0;let h:=hN (fM y);let g:=bS (fM y)≠0;let d:=fM e;let c:=nW f e;let b:=¬ wU 50<0;let a:=pF f e y;Jd (y=10000) (Jd b (Jd k (Jd b (Jd (¬ wU (64-wU 50)<0) (Jd b (Jd k
  (Jd g
   (Jd (kP (dQ c y) h (dR c y) (bS d)=Y)
    (Jd g
     (Jd (kP (dQ a y) h (dR a y) (hN d)=Y)
      (Jd b
       (Jv (wU (wU (dQ c y*4294967296)+dQ a y),
        (wU (wU (wU (pF f e y*4294967296)+hN d)-wU (dQ a y*fM y))).fdiv (2 ^ min (wU 50).toNat U6.bits),())))))))))))))
def Bu(x:ap [dU,dU,dU]):Fr (aa [u64,u64]):=
 let a:=x.2.2.1;Jb (a==0) (Jd False (Jv (0,0,())))
  (Jb (J (a<=x.1)) (Jd False (Jv (0,0,())))
   (Jb (x.1==0) (Jd (a≠0) (Jd (a≠0) (Jv (U6.wrap (x.2.1.tdiv a),x.2.1.tmod a,()))))
    (qw2 x.1 x.2.1 a)))
def aN{b:Bool}{x y:Fr α}{v:α}(a:b=Y)(h:y.ok/\y.get=v):(Jb b x y).ok/\(Jb b x y).get=v:=by subst a;exact⟨⟨λh=>(by cases h),λ_=>h.1⟩,h.2⟩
def aV{b:Bool}{x y:Fr α}{v:α}(a:b=Z)(h:x.ok/\x.get=v):(Jb b x y).ok/\(Jb b x y).get=v:=by subst a;exact⟨⟨λ_=>h.1,λh=>(by cases h)⟩,h.2⟩
def aw{p:Prop}{x:Fr α}{v:α}(a:p)(h:x.ok/\x.get=v):(Jd p x).ok/\(Jd p x).get=v:=⟨⟨a,h.1⟩,h.2⟩
def qqr:ag prog 221 (bg [dU,dU,dU] [u64,u64] Bu):=
 oc IH qq8 qq9
def qbb:fM a=wU (a*1125899906842624):=by
 have b:wU 50=50:=by decide
 have c:min (50:Int).toNat U6.bits=50:=by decide
 unfold fM;rfl
def zia{b:Int}(g:0<=a)(h:0<=b)(k:b<1125899906842624)(l:a*1125899906842624<18446744073709551616):
  wU ((Bvo U6.bits (a*1125899906842624) ||| Bvo U6.bits b).toNat:Int)=a*1125899906842624+b:=by
 obtain⟨m,rfl⟩:∃ m:Nat,a=m:=⟨a.toNat,by omega⟩;obtain⟨n,rfl⟩:∃ n:Nat,b=n:=⟨b.toNat,by omega⟩;have c:(Bvo U6.bits ((m:Int)*1125899906842624)).toNat=m*1125899906842624:=by show(((m:Int)*1125899906842624)%((2 ^ 64:Nat):Int)).toNat=m*1125899906842624;omega
 have d:(Bvo U6.bits (n:Int)).toNat=n:=by show((n:Int)%((2 ^ 64:Nat):Int)).toNat=n;omega
 have f:(m*1125899906842624 ||| n)=m*1125899906842624+n:=by
  have:=Nat.shiftLeft_add_eq_or_of_lt (i:=50) (b:=n) (by omega) m;rw[Nat.shiftLeft_eq]at this;have e:(2:Nat) ^ 50=1125899906842624:=by decide
  exact this.symm
 rw[BitVec.toNat_or,c,d,f];show U6.wrap _=_;rw[eF (by omega)];omega
def qqo{k e g f d b a h i c:Int}(z:0<=k/\k<10000)(A:0<=e/\e<=18446744073709551615)(t:d=k*1125899906842624+e/16384)(r:b=e*1125899906842624%18446744073709551616)(x:a=b/4294967296)(w:h=b%4294967296)(u:g=d/2621440000)(y:i=d-g*2621440000)(s:c=i*4294967296+a)(gW:f=c/2621440000):
  h=0/\0<=a/\a<4294967296/\0<=g/\g<4294967296/\0<=i/\i<2621440000/\0<=f/\f<4294967296/\g*4294967296+f=(k*18446744073709551616+e)/10000/\(c-f*2621440000)*4294967296/1125899906842624=(k*18446744073709551616+e)%10000:=by
 have v:a=(e%16384)*262144:=by omega
 have p:h=0:=by omega
 have l:0<=a/\a<4294967296:=by omega
 have m:0<=g/\g<4294967296:=by omega
 have n:0<=i/\i<2621440000:=by omega
 have o:0<=f/\f<4294967296:=by omega
 refine⟨p,l.1,l.2,m.1,m.2,n.1,n.2,o.1,o.2,?_,?_⟩;omega;omega
def Yh{q u:Int}(c:0<=q/\q<4294967296):kP q 0 r u=false:=by
 unfold kP;have a:J (q>=4294967296)=false:=by simp;omega
 rw[a,Int.mul_zero];have b:U6.wrap 0=0:=by decide
 have:0<=U6.wrap (U6.wrap (4294967296*r)+u):=by rw[IntKind.wrap_u64];omega
 simp;omega
def TX{u:Int}(h:0<=u/\u<18446744073709551616):wU (u.tdiv 2621440000)=u/2621440000:=by rw[Int.tdiv_eq_ediv_of_nonneg h.1];exact eF (by omega)
def g1L{a b:Int}(d:0<=a/\a<4294967296)(c:0<=b/\b<4294967296):wU (wU (a*4294967296)+b)=a*4294967296+b:=by rw[show wU (a*4294967296)=a*4294967296 from eF (by omega)];exact eF (by omega)
def g2L{u a:Int}(b:a=u/2621440000)(c:0<=u/\u<18446744073709551616):wU (wU (wU (u*4294967296)+0)-wU (a*11258999068426240000))=(u-a*2621440000)*4294967296:=by simp only[IntKind.wrap_u64];omega
def qrl{u a b:Int}(h:0<=u-a*2621440000/\u-a*2621440000<2621440000)(c:0<=b/\b<4294967296):wU (wU (wU (u*4294967296)+b)-wU (a*11258999068426240000))=(u-a*2621440000)*4294967296+b:=by simp only[IntKind.wrap_u64];omega
def zq6{a:Int}(h:0<=r/\r<2621440000)(b:0<=a/\a<4294967296):0<=r*4294967296+a/\r*4294967296+a<18446744073709551616:=by omega
def zq7{a b:Int}(c:0<=a/\a<10000)(d:0<=b/\b<=18446744073709551615):0<=a*1125899906842624+b/16384/\a*1125899906842624+b/16384<18446744073709551616:=by omega
def qqn{b a:Int}(H:b≠0)(u:0<=b/\b<10000)(v:0<=a/\a<=18446744073709551615):
  (Bu (b,a,10000,())).ok/\(Bu (b,a,10000,())).get=((b*18446744073709551616+a)/10000,(b*18446744073709551616+a)%10000,()):=by
 have E:fM 10000=11258999068426240000:=by decide
 have d:bS (fM 10000)=2621440000:=by decide
 have f:hN (fM 10000)=0:=by decide
 have D:fM b=b*1125899906842624:=by rw[qbb];exact eF (by omega)
 have t:nW b a=b*1125899906842624+a/16384:=by
  unfold nW;have C:a.fdiv (2 ^ min (wU (64-wU 50)).toNat U6.bits)=a/16384:=by
   have:(2:Int) ^ min (wU (64-wU 50)).toNat U6.bits=16384:=by decide
   rw[this,uag _ (by decide)]
  rw[C,D];exact zia (by omega) (by omega) (by omega) (by omega)
 have s:fM a=a*1125899906842624%18446744073709551616:=by rw[qbb];exact IntKind.wrap_u64 _
 have K:0<=fM a/\fM a<=18446744073709551615:=by rw[s];omega
 have m:bS (fM a)=fM a/4294967296:=Nf;have l:=GG K;have n:dQ (nW b a) 10000=nW b a/2621440000:=by unfold dQ;rw[d,t];exact TX (zq7 u v)
 obtain⟨L,w,x,y,z,A,B,g,h,r,e⟩:=qqo u v t s m l n rfl rfl rfl;have i:pF b a 10000=(nW b a-dQ (nW b a) 10000*2621440000)*4294967296+bS (fM a):=by unfold pF;exact qrl ⟨A,B⟩ ⟨w,x⟩
 have c:=zq6 ⟨A,B⟩ ⟨w,x⟩;rw[<- i]at g h r e c;have gW:dQ (pF b a 10000) 10000=pF b a 10000/2621440000:=by unfold dQ;exact TX c
 rw[<- gW]at g h r e;have F:wU (wU (dQ (nW b a) 10000*4294967296)+dQ (pF b a 10000) 10000)=(b*18446744073709551616+a)/10000:=by rw[<- r];exact g1L ⟨y,z⟩ ⟨g,h⟩
 have G:(wU (wU (wU (pF b a 10000*4294967296)+hN (fM a))-wU (dQ (pF b a 10000) 10000*fM 10000))).fdiv (2 ^ min (wU 50).toNat U6.bits)=(b*18446744073709551616+a)%10000:=by
  have k:(2:Int) ^ min (wU 50).toNat U6.bits=1125899906842624:=by decide
  rw[k,E,L,uag _ (by decide),<- e,g2L gW c]
 have p:¬ (10000:Int)<=b:=by omega
 have o:(b==0)=false:=by simpa using H
 refine aN rfl (aN (udw p) (aN o ?_));refine aw rfl (aw (by decide) (aw (by decide) (aw (by decide) (aw (by decide) (aw (by decide) (aw (by decide) (aw ?_ (aw ?_ (aw ?_ (aw ?_ (aw (by decide) ⟨uT,?_⟩)))))))))));rw[d];decide;rw[f];exact Yh ⟨y,z⟩;rw[d];decide;rw[f];exact Yh ⟨g,h⟩;exact ufz F (ufz G rfl)
def E0:Ct:=⟨[dU,dU,dU],[u64,u64],λx=>((x.1*18446744073709551616+x.2.1)/x.2.2.1,(x.1*18446744073709551616+x.2.1)%x.2.2.1,()),λx=>[(x.1=0/\0<x.2.2.1)\/(x.2.2.1=10000/\x.1<10000)]⟩
def qql{a:Int}(b:0<=a/\a<=18446744073709551615)(f:0<y):(Bu (0,a,y,())).ok/\(Bu (0,a,y,())).get=((0*18446744073709551616+a)/y,(0*18446744073709551616+a)%y,()):=by
 rw[Int.zero_mul,Int.zero_add];have d:(y==0)=false:=by simp;omega
 have e:¬ y<=(0:Int):=by omega
 have c:y≠0:=by omega
 refine aN d (aN (udw e) (aV rfl (aw c (aw c ⟨uT,?_⟩))));exact ufz (IntWalk.u64_quo a y ⟨b.1,b.2,by omega⟩) (ufz (IntWalk.rem_in a y b.1) rfl)
def qqm: ag prog 221 E0 :=
  dz qqr _ _ (λw F x vs hr hok => by
    obtain⟨hi, lo, y, _⟩ := x
    obtain⟨v1, vs1, rfl, h1, v2, vs2, rfl, h2, v3, vs3, rfl, h3, _⟩ := hr
    have b1 := s6 h1
    have b2 := s6 h2
    have hok' : (hi = 0 /\ 0 < y) \/ (y = 10000 /\ hi < 10000) := hok
    have hcase : (hi = 0 /\ 0 < y) \/ (hi ≠ 0 /\ y = 10000 /\ hi < 10000) := by
      by_cases hz : hi = 0
      · exact .inl ⟨hz, by rcases hok' with h | h
                           · exact h.2
                           · rw[h.1];decide⟩
      · rcases hok' with h | h
        · exact absurd h.1 hz
        · exact .inr ⟨hz, h⟩
    rcases hcase with ⟨rfl, hy⟩ | ⟨h0, rfl, hlt⟩
    · exact qql b2 hy
    · exact qqn h0 ⟨b1.1, hlt⟩ b2)
abbrev Ek:List (FuncId×Ct):=[(220,pu),(221,E0)]
def J8:kj prog Ek:=⟨NT,qqm,uT⟩
def QZ:Cx:=cx Ek []
def Ra:Cx:=dI Ek [] (iJ prog QZ Ec)
def CW3:Cx:=dI Ek [] (iJ prog Ra Ed)
def qiv:CxOK prog QZ:=aQ aH J8 trivial
def qiw:CxOK prog Ra:=dP aH J8 trivial (jt qiv RQ)
def qiy:CxOK prog CW3:=dP aH J8 trivial (jt qiw RR)
def Fq(h l c:Int):Fr (aa [i64,i64]):=
 Jb (J (h>=c)) (Jv (0,5,())) (Jd ((h=0/\0<c)\/(c=10000/\h<10000)) (rq (E0.f (h,l,c,())).1 (E0.f (h,l,c,())).2.1 c))
def FS(x:ap [.d i64,.d i64,.d i64]):Fr (aa [i64,i64]):=
 let a:=pu.f (U6.wrap x.1,U6.wrap x.2.1,());Jb (bif bif J (x.1<0)then Z else J (x.2.1<0)then Z else J (x.2.2.1<0)) (Jv (0,1,()))
  (Jb (x.2.2.1==0) (Jv (0,6,()))
   (Fq a.1 a.2.1 (U6.wrap x.2.2.1)))
def qr6{c:Int}(m:0<=p)(g:0<c)(i:c<=9223372036854775807)(h:p<18446744073709551616\/c=10000):
  (Fq (p/18446744073709551616) (p%18446744073709551616) c).ok/\(Fq (p/18446744073709551616) (p%18446744073709551616) c).get=if lY p c>4000000000000000000 then (0,5,())else (lY p c,0,()):=by
 have e:p/18446744073709551616*18446744073709551616+p%18446744073709551616=p:=by omega
 have k:=Int.emod_nonneg p (b:=c) (by omega);have l:=Int.emod_lt_of_pos p g;have n:=udl m (uev g);by_cases d:p/18446744073709551616>=c;refine aV (ueb d) ⟨uT,?_⟩;rcases h with h|h
 omega;subst h;have:lY p 10000>4000000000000000000:=by unfold lY;split<;>omega
 rw[uf0 this];rfl;have a:(p/18446744073709551616=0/\0<c)\/(c=10000/\p/18446744073709551616<10000):=by
  rcases h with h|h
  exact .inl ⟨by omega,g⟩;exact .inr ⟨h,by omega⟩
 refine aN (udw d) (aw a ?_);show(rq ((p/18446744073709551616*18446744073709551616+p%18446744073709551616)/c) ((p/18446744073709551616*18446744073709551616+p%18446744073709551616)%c) c).ok/\(rq ((p/18446744073709551616*18446744073709551616+p%18446744073709551616)/c) ((p/18446744073709551616*18446744073709551616+p%18446744073709551616)%c) c).get=_;rw[e];have f:=U0 ⟨k,l⟩ i n;refine⟨f.1,?_⟩;rw[f.2];rfl
def qsc{b c:Int}(n : -9223372036854775808<=a/\a<=9223372036854775807)(o : -9223372036854775808<=b/\b<=9223372036854775807)(l : -9223372036854775808<=c/\c<=9223372036854775807)(m:0<=a->0<=b->a*b<18446744073709551616\/c=10000):(FS (a,b,c,())).ok/\(FS (a,b,c,())).get=((du a b c).1,(du a b c).2,()):=by
 unfold FS;simp only[Sr];by_cases h:a<0\/b<0\/c<0;have i:(J (a<0) || (J (b<0) || J (c<0)))=true:=by simpa using h
 refine aV i ⟨uT,?_⟩;unfold du;rw[uf0 h];rfl;have i:(J (a<0) || (J (b<0) || J (c<0)))=false:=by simpa using h
 have d:0<=a:=by omega
 have f:0<=b:=by omega
 have e:=uec d f;refine aN i ?_;rw[show U6.wrap a=a from eF (by omega),show U6.wrap b=b from eF (by omega),show U6.wrap c=c from eF (by omega)];unfold du;rw[uf1 h];by_cases k:c=0;refine aV (by simpa using k) ⟨uT,?_⟩;rw[uf0 k];rfl;refine aN (by simpa using k) ?_;have g:=qr6 e (by omega) l.2 (m d f);refine⟨g.1,?_⟩;show(Fq (a*b/18446744073709551616) (a*b%18446744073709551616) c).get=_;rw[g.2];split<;>rfl
def JW:Ct:=⟨[.d i64,.d i64,.d i64],[i64,i64],λx=>((du x.1 x.2.1 x.2.2.1).1,(du x.1 x.2.1 x.2.2.1).2,()),λx=>[0<=x.1->0<=x.2.1->x.1*x.2.1<18446744073709551616\/x.2.2.1=10000]⟩
def qsb:ag prog 150 JW:=
 flat (ps:=[.d i64,.d i64,.d i64]) (rs:=[i64,i64]) qiy (fn:=f150) (fr:=FS) (0,0,0,()) (by kernel_rfl) (λx=>by kernel_rfl) _ _
  (λw F x r i e=>by obtain⟨a,b,c,u⟩:=x;obtain⟨n,k,rfl,f,o,l,rfl,g,p,m,rfl,h,_⟩:=i;exact qsc (xP f) (xP g) (xP h) e)
def iq(m b:Int):Int×Int:=du m b 10000
def kv:Ct:=⟨[.d i64,.d i64],[i64,i64],λx=>((iq x.1 x.2.1).1,(iq x.1 x.2.1).2,()),λ_=>[]⟩
def CW4:Cx:=cx [(150,JW)] []
def qi0:CxOK prog CW4:=aQ aH ⟨qsb,uT⟩ trivial
def Aw:ag prog 95 kv:=
 flat (ps:=[.d i64,.d i64]) (rs:=[i64,i64]) qi0 (fn:=f95) (fr:=λx=>Jd (0<=x.1->0<=x.2.1->x.1*x.2.1<18446744073709551616\/(10000:Int)=10000) (Jv (JW.f (x.1,x.2.1,10000,())))) (0,0,()) (by kernel_rfl) (λx=>by kernel_rfl) _ _
  (λw F x c b a=>⟨⟨λ_ _=>.inr rfl,uT⟩,rfl⟩)
def PI:ByteArray:=⟨(0::1::(Lrp 2 2++(Lrp 4 3++(Lrp 8 4++(Lrp 16 5++(Lrp 32 6++(Lrp 64 7++Lrp 128 8))))))).toArray⟩
def mB(m:Nat):Nat:=(PI.data.getD m 0).toNat
def uC(x n:Int):Fr (aa [i64]):=Jd (0<=IntKind.u8.wrap x/\IntKind.u8.wrap x<(PI.size:Int)) (Jv (I6.wrap (n+I6.wrap (mB (IntKind.u8.wrap x).toNat:Int)),()))
def oQ(k:Nat)(x:Int):Int:=x.fdiv (2 ^ min (Int.toNat k) U6.bits)
def N7(x n:Int):Fr (aa [i64]):=Jb (J (x>=256)) (Jd (¬ (8:Int)<0) (uC (oQ 8 x) (I6.wrap (n+8)))) (uC x n)
def GC(x n:Int):Fr (aa [i64]):=Jb (J (x>=65536)) (Jd (¬ (16:Int)<0) (N7 (oQ 16 x) (I6.wrap (n+16)))) (N7 x n)
def Ce(x:ap [.d u64]):Fr (aa [i64]):=Jb (J (x.1>=4294967296)) (Jd (¬ (32:Int)<0) (GC (oQ 32 x.1) 32)) (GC x.1 0)
def zn0(h:0<=x):oQ 8 x=x/2 ^ 8:=by unfold oQ;rw[uag _ (by decide)];rfl
def zny(h:0<=x):oQ 16 x=x/2 ^ 16:=by unfold oQ;rw[uag _ (by decide)];rfl
def znz(h:0<=x):oQ 32 x=x/2 ^ 32:=by unfold oQ;rw[uag _ (by decide)];rfl
def qD(x n K:Int)(f:Fr (aa [i64])):Prop:=f.ok/\∃ k:Nat,(f.get).1=n+k/\1<=k/\(k:Int)<=K/\(2:Int) ^ (k-1)<=x/\x<2 ^ k
def zpv:(PI.size:Int)=256:=by decide +kernel
def zpw:∀ x:Fin 256,x.val≠0->1<=mB x.val/\mB x.val<=8/\2 ^ (mB x.val-1)<=x.val/\x.val<2 ^ mB x.val:=by decide +kernel
def X4{n:Int}(g:1<=x/\x<256)(f:0<=n/\n<=1000):qD x n 8 (uC x n):=by
 obtain⟨m,rfl⟩:∃ m:Nat,x=m:=⟨x.toNat,by omega⟩;have e:IntKind.u8.wrap (m:Int)=m:=by show(m:Int)%((2 ^ 8:Nat):Int)=m;omega
 obtain⟨a,d,b,c⟩:1<=mB m/\mB m<=8/\2 ^ (mB m-1)<=m/\m<2 ^ mB m:=zpw ⟨m,by omega⟩ (show m≠0 by omega);refine⟨⟨?_,uT⟩,_,?_,a,by omega,by exact_mod_cast b,by exact_mod_cast c⟩;rw[e];rw[zpv];omega;show I6.wrap (n+I6.wrap (mB (IntKind.u8.wrap (m:Int)).toNat:Int))=_;rw[e,uc0];rw[show I6.wrap (mB m:Int)=(mB m:Int) from cV (by omega)];exact cV (by omega)
def zn1{k j:Nat}(f:1<=k)(d:(2:Int) ^ (k-1)<=x/2 ^ j)(e:x/2 ^ j<2 ^ k):(2:Int) ^ (j+k-1)<=x/\x<2 ^ (j+k):=by
 have a:(0:Int)<2 ^ j:=Int.pow_pos (by decide);have b:(2:Int) ^ (j+k-1)=2 ^ (k-1)*2 ^ j:=by rw[<- Int.pow_add];congr 1;omega
 have c:(2:Int) ^ (j+k)=2 ^ k*2 ^ j:=by rw[<- Int.pow_add];congr 1;omega
 rw[b,c];exact⟨(Int.le_ediv_iff_mul_le a).1 d,(Int.ediv_lt_iff_lt_mul a).1 e⟩
def N8{n K:Int}{j:Nat}{b:Bool}{f g:Fr (aa [i64])}{p:Prop}(u:p)(s:b=Z->qD (x/2 ^ j) (n+j) K f)(t:b=Y->qD x n K g):qD x n (K+j) (Jb b (Jd p f) g):=by
 cases l:b with
 |true=>obtain⟨i,k,a,c,m,d,e⟩:=s l;obtain⟨o,r⟩:=zn1 c d e;exact⟨⟨λ_=>⟨u,i⟩,λh=>(by cases h)⟩,j+k,a.trans (Int.add_assoc _ _ _),by omega,by omega,o,r⟩
 |false=>obtain⟨i,k,a,c,m,d,e⟩:=t l;exact⟨⟨λh=>(by cases h),λ_=>i⟩,k,a,c,by omega,d,e⟩
def X5{n:Int}(c:1<=x/\x<65536)(b:0<=n/\n<=900):qD x n (8+(8:Nat)) (N7 x n):=
 N8 (j:=8) (by decide) (λh=>by
  have a:x>=256:=by simpa using h
  rw[zn0 (by omega),show I6.wrap (n+8)=n+8 from cV (by omega)];exact X4 ⟨by omega,by omega⟩ ⟨by omega,by omega⟩) (λh=>by
  have a:¬ x>=256:=by simpa using h
  exact X4 ⟨by omega,by omega⟩ ⟨by omega,by omega⟩)
def X6{n:Int}(c:1<=x/\x<4294967296)(b:0<=n/\n<=800):qD x n (8+(8:Nat)+(16:Nat)) (GC x n):=
 N8 (j:=16) (by decide) (λh=>by
  have a:x>=65536:=by simpa using h
  rw[zny (by omega),show I6.wrap (n+16)=n+16 from cV (by omega)];exact X5 ⟨by omega,by omega⟩ ⟨by omega,by omega⟩) (λh=>by
  have a:¬ x>=65536:=by simpa using h
  exact X5 ⟨by omega,by omega⟩ ⟨by omega,by omega⟩)
def X7(b:1<=x/\x<18446744073709551616):qD x 0 (8+(8:Nat)+(16:Nat)+(32:Nat)) (Ce (x,())):=
 N8 (j:=32) (by decide) (λh=>by
  have a:x>=4294967296:=by simpa using h
  show qD (x/2 ^ 32) _ _ (GC (oQ 32 x) 32);rw[znz (by omega)];exact X6 ⟨by omega,by omega⟩ ⟨by omega,by omega⟩) (λh=>by
  have a:¬ x>=4294967296:=by simpa using h
  exact X6 ⟨by omega,by omega⟩ ⟨by omega,by omega⟩)
def Kh:Ct:=⟨[.d u64],[i64],λx=>(Ce x).get,λx=>[1<=x.1]⟩
def zcn:ag prog 243 Kh:=
 dz (aT (aQ (cs:=[]) (ps:=[]) aH trivial trivial) f243 (fr:=Ce)) _ _
  (λw F x h d b=>by obtain⟨n,_⟩:=x;obtain⟨g,e,rfl,c,_⟩:=d;have f:=s6 c;have a:1<=n:=b;exact⟨(X7 ⟨a,by omega⟩).1,rfl⟩)
def t5:Ct:=⟨[.d u64],[i64],λx=>(I6.wrap (64-(Ce x).get.1),()),λx=>[1<=x.1]⟩
def zf3:ag prog 235 t5:=
 conv (aT (aQ (cs:=[(243,Kh)]) (ps:=[]) aH ⟨zcn,uT⟩ trivial) f235 (fr:=λx=>Jd (1<=x.1) (Jv (I6.wrap (64-(Kh.f (x.1,())).1),()))) (ps:=[.d u64])) _ _
  (λw F x b _ a=>⟨⟨a,uT⟩,rfl⟩)
def ly(a b d q r:Int):Int×Int:=
 if kP q b r d=Z then
  if h:U6.wrap (r+a)<4294967296/\r<U6.wrap (r+a)then ly a b d (U6.wrap (q-1)) (U6.wrap (r+a))
  else (U6.wrap (q-1),U6.wrap (r+a))
 else (q,r)
termination_by (4294967296-r).toNat
decreasing_by omega
abbrev ph(a r:Int):Prop:=(1<=a/\a<4294967296)/\0<=r/\r<4294967296
def FG0(x:qF.X):Fr yD.Out:=
 match x with
 |((y,s,a,b,c,d,e,q,r,_),_)=>Jd (ph a r) (Jv (Rd.out ((y,s,a,b,c,d,e,(ly a b d q r).1,(ly a b d q r).2,()),())))
def FG2(x:qH.X):Fr yE.Out:=
 match x with
 |((y,s,a,b,d,e,q,r,u,v,_),_)=>Jd (ph a r) (Jv (Rd.out ((y,s,a,b,d,e,q,(ly a b e v r).2,u,(ly a b e v r).1,()),())))
def CDG:Cx:=cx [(235,t5)] []
def IG:CxOK prog CDG:=aQ aH ⟨zf3,uT⟩ trivial
def Xc{b d q:Int}(h:ph a r)(f:kP q b r d=Z)(c:J (U6.wrap (r+a)>=4294967296)=Y):
  ph a (U6.wrap (r+a))/\(4294967296-U6.wrap (r+a)).toNat<(4294967296-r).toNat/\ly a b d q r=ly a b d (U6.wrap (q-1)) (U6.wrap (r+a)):=by
 have e:U6.wrap (r+a)=r+a:=eF (by omega);have g:¬ (r+a>=4294967296):=by rw[e]at c;simpa using c
 refine⟨?_,?_,?_⟩;rw[e];omega;rw[e];omega;rw[ly,uf0 f,dif_pos (by rw[e];omega)]
def Xb{b d q:Int}(e:kP q b r d=Z)(c:J (U6.wrap (r+a)>=4294967296)=Z):ly a b d q r=(U6.wrap (q-1),U6.wrap (r+a)):=by
 have f:U6.wrap (r+a)>=4294967296:=by simpa using c
 rw[ly,uf0 e,dif_neg (by omega)]
def Xa{b d q:Int}(c:kP q b r d=Y):ly a b d q r=(q,r):=by rw[ly,uf1 (by rw[c];decide)]
def qra:af prog (.loop (au f221 0)) qF yD FG0:=
 af.loop (af.of_run IG (bs:=0) (f:=U4) rfl rfl rfl (λ_=>bm _ 0) (λx=>by kernel_rfl)) (inv:=λx=>ph x.1.2.2.1 x.1.2.2.2.2.2.2.2.2.1) (μ:=λx=>(4294967296-x.1.2.2.2.2.2.2.2.2.1).toNat)
  (by rintro⟨⟨y,s,a,b,c,d,e,q,r,_⟩,_⟩ i Q g;have g:=g.2;refine⟨λh=>⟨λk=>?_,λk=>?_⟩,λh=>?_⟩;rw[Xb h k]at g;exact g;obtain⟨l,m,n⟩:=Xc i h k;rw[n]at g;exact⟨l,m,l,g⟩;rw[Xa h]at g;exact g)
  (λx Q h=>h.1)
def qrb:af prog (.loop (au f221 1)) qH yE FG2:=
 af.loop (af.of_run IG (bs:=0) (f:=U5) rfl rfl rfl (λ_=>bm _ 0) (λx=>by kernel_rfl)) (inv:=λx=>ph x.1.2.2.1 x.1.2.2.2.2.2.2.2.1) (μ:=λx=>(4294967296-x.1.2.2.2.2.2.2.2.1).toNat)
  (by rintro⟨⟨y,s,a,b,d,e,q,r,u,v,_⟩,_⟩ g Q c;have c:=c.2;refine⟨λh=>⟨λi=>?_,λi=>?_⟩,λh=>?_⟩;rw[Xb h i]at c;exact c;obtain⟨k,l,m⟩:=Xc g h i;rw[m]at c;exact⟨k,l,k,c⟩;rw[Xa h]at c;exact c)
  (λx Q h=>h.1)
def oR(s a:Int):Int:=wU (a*2 ^ min s.toNat U6.bits)
def qdf(s a b:Int):Int:=wU ((Bvo U6.bits (oR s a) ||| Bvo U6.bits (b.fdiv (2 ^ min (wU (64-s)).toNat U6.bits))).toNat:Int)
def qG(u y:Int):Int:=wU (u.tdiv (bS y))
def rG(u y:Int):Int:=wU (u-wU (qG u y*bS y))
def GV(u y d:Int):Int×Int:=ly (bS y) (hN y) d (qG u y) (rG u y)
def Iw(u y l:Int):Int:=wU (wU (wU (u*4294967296)+bS l)-wU ((GV u y (bS l)).1*y))
def Vr(s u l y:Int)(z:Fr (aa [u64,u64])):Fr (aa [u64,u64]):=
 let a:=¬ (32:Int)<0;Jd (¬ s<0) (Jd a (Jd (¬ s<0) (Jd (¬ wU (64-s)<0) (Jd (¬ s<0) (Jd a
  (Jd (bS y≠0) (Jd (ph (bS y) (rG u y)) (Jd (bS y≠0) (Jd (ph (bS y) (rG (Iw u y l) y)) (Jd (¬ s<0) z))))))))))
def zG(s u l y:Int):aa [u64,u64]:=
 (wU (wU ((GV u y (bS l)).1*4294967296)+(GV (Iw u y l) y (hN l)).1),
  (wU (wU (wU (Iw u y l*4294967296)+hN l)-wU ((GV (Iw u y l) y (hN l)).1*y))).fdiv (2 ^ min s.toNat U6.bits),())
def Mz(x:ap [dU,dU,dU]):Fr (aa [u64,u64]):=
 let b:=x.2.2.1;let a:=wU (t5.f (b,())).1;let d:=oR a x.2.1;let c:=qdf a x.1 x.2.1;Jb (b==0) (Jd False (Jv (0,0,())))
  (Jb (J (b<=x.1)) (Jd False (Jv (0,0,())))
   (Jb (x.1==0) (Jd (b≠0) (Jd (b≠0) (Jv (U6.wrap (x.2.1.tdiv b),x.2.1.tmod b,()))))
    (Jd (1<=b) (Vr a c d (oR a b)
     (Jv (zG a c d (oR a b)))))))
def qqk:ag prog 221 (bg [dU,dU,dU] [u64,u64] Mz):=
 oc IG qra qrb
def Qd(x:Int):0<=wU x/\wU x<18446744073709551616:=by show 0<=U6.wrap x/\U6.wrap x<_;rw[IntKind.wrap_u64];omega
def zj9{u:Int}(a:0<=u/\u<18446744073709551616)(f:1<=bS y):rG u y=u%bS y:=by
 have e:qG u y=u/bS y:=by unfold qG;rw[Int.tdiv_eq_ediv_of_nonneg a.1];exact eF ⟨udl a.1 (by omega),by have:=Int.ediv_le_self (bS y) a.1;omega⟩
 have c:=Int.mul_ediv_add_emod u (bS y);have b:=Int.emod_nonneg u (show bS y≠0 by omega);have d:=uec (show 0<=bS y by omega) (udl a.1 (show 0<=bS y by omega));unfold rG;rw[e,show wU (u/bS y*bS y)=u/bS y*bS y from eF (by rw[ue2];omega)];rw[show u-u/bS y*bS y=u%bS y by rw[ue2];omega];exact eF (by omega)
def Xd{u:Int}(b:0<=u/\u<18446744073709551616)(a:1<=bS y/\bS y<4294967296):ph (bS y) (rG u y):=by refine⟨a,?_⟩;rw[zj9 b a.1];have c:=Int.emod_nonneg u (show bS y≠0 by omega);have d:=Int.emod_lt_of_pos u (show 0<bS y by omega);omega
def zf4(e:1<=y/\y<18446744073709551616):∃ s:Nat,s<=63/\wU (t5.f (y,())).1=s/\(9223372036854775808:Int)<=y*2 ^ s/\y*2 ^ s<18446744073709551616:=by
 obtain⟨_,k,a,g,i,c,d⟩:=X7 e;have b:k<=64:=by omega
 refine⟨64-k,by omega,?_,?_,?_⟩;show wU (I6.wrap (64-(Ce (y,())).get.1))=_;rw[a,show I6.wrap (64-(0+(k:Int)))=64-(0+(k:Int)) from cV (by omega)];rw[show wU (64-(0+(k:Int)))=64-(0+(k:Int)) from eF (by omega)];omega;have h:=Int.mul_le_mul_of_nonneg_right c (show(0:Int)<=2 ^ (64-k) from uev (Int.pow_pos (by decide)));rw[<- Int.pow_add,show k-1+(64-k)=63 by omega]at h;exact h;have h:=Int.mul_lt_mul_of_pos_right d (show(0:Int)<2 ^ (64-k) from Int.pow_pos (by decide));rw[<- Int.pow_add,show k+(64-k)=64 by omega]at h;exact h
def qqj{a c:Int}(l:0<=a)(m:y<=18446744073709551615)(d:a<y):(Mz (a,c,y,())).ok:=by
 obtain⟨s,n,k,o,p⟩:=zf4 (y:=y) ⟨by omega,by omega⟩;refine⟨λh=>?_,λ_=>⟨λh=>?_,λ_=>⟨λ_=>⟨?_,?_,uT⟩,λ_=>⟨?_,?_⟩⟩⟩⟩;have:y=0:=by simpa using h
 omega;have:y<=a:=by simpa using h
 omega;show y≠0;omega;show y≠0;omega;show 1<=y;omega;show(Vr (wU (t5.f (y,())).1) (qdf (wU (t5.f (y,())).1) a c) _ (oR (wU (t5.f (y,())).1) y) _).ok;rw[k];have g:oR (s:Int) y=y*2 ^ s:=by unfold oR;rw[uc0,show min s U6.bits=s from udq (by show s<=64;omega)];exact eF (by omega)
 have e:1<=bS (oR (s:Int) y)/\bS (oR (s:Int) y)<4294967296:=by rw[Nf,g];omega
 have i:=Qd ((Bvo U6.bits (oR s a) ||| Bvo U6.bits (c.fdiv (2 ^ min (wU (64-(s:Int))).toNat U6.bits))).toNat:Int);have b:¬ wU (64-(s:Int))<0:=by have:=Qd (64-(s:Int));omega
 exact⟨by omega,by decide,by omega,b,by omega,by decide,by omega,Xd i e,by omega,Xd (Qd _) e,by omega,uT⟩
def JU:Ct:=⟨[dU,dU,dU],[u64,u64],λx=>(Mz x).get,λx=>[x.1<x.2.2.1]⟩
def qqi:ag prog 221 JU:=
 dz qqk _ _ (λw F x o d a=>by obtain⟨i,k,y,_⟩:=x;obtain⟨l,e,rfl,b,m,f,rfl,h,n,g,rfl,c,_⟩:=d;exact⟨qqj (s6 b).1 (s6 c).2 a,rfl⟩)
def XdN:FuncId->Option (Func×(Nat->St->Option Tr)):=cR [(237,(f237,bK))]
def XdO:FuncId->Option (Func×(Nat->St->Option Tr)):=cR [(200,(f200,bK)),(225,(f225,bK))]
def XdR:FuncId->Option (Func×(Nat->St->Option Tr)):=cR [(204,(f204,bK)),(224,(f224,bK))]
abbrev Ei:List (FuncId×Ct):=[(220,pu),(221,JU)]
def J6:kj prog Ei:=⟨NT,qqi,uT⟩
def QW:Cx:=cx Ei []
def QX:Cx:=dI Ei [] (iJ prog QW XdN)
def qir:Cx:=dI Ei [] (iJ prog QX XdO)
def qip:CxOK prog QW:=aQ aH J6 trivial
def sP:∀ f fn a,cR (α:=Func×(Nat->St->Option Tr)) [] f=U (fn,a)->prog.funcs[f]?= U fn/\∀ c b,fn.body=U c->co prog b a c 0:=λ_ _ _ h=>(nomatch h)
def nD{g:FuncId}{d:Func}{r:List (FuncId×(Func×(Nat->St->Option Tr)))}(i:prog.funcs[g]?= U d)(k:∀ f fn a,cR r f=U (fn,a)->prog.funcs[f]?= U fn/\∀ c b,fn.body=U c->co prog b a c 0):
  ∀ f fn a,cR ((g,(d,bK))::r) f=U (fn,a)->prog.funcs[f]?= U fn/\∀ c b,fn.body=U c->co prog b a c 0:=λf fn a h=>by
 simp only[cR]at h;split at h;rename_i e;subst e;cases h;exact⟨i,λc b _=>bm c 0⟩;exact k f fn a h
def qiq:CxOK prog QX:=dP aH J6 trivial (jt qip (nD (by kernel_rfl) sP))
def qis:CxOK prog qir:=dP aH J6 trivial (jt qiq (nD (by kernel_rfl) (nD (by kernel_rfl) sP)))
def qpd{a:List PT}{c:List Ty}{fr:ap a->Fr (aa c)}(h:ag P f (bg a c fr))(ok:ap a->List Prop)(d:∀ w F xs vs,dm P w F a xs vs->az (ok xs)->(fr xs).ok):ag P f ⟨a,c,λx=>(fr x).get,ok⟩:=
 dz h _ ok (λw F xs vs e b=>⟨d w F xs vs e b,rfl⟩)
def iV(A:σ->Prop)(B:ρ->Prop):σ ⊕ ρ->Prop
 |.inl s=>A s
 |.inr y=>B y
def Y3{step:Int->T->σ->Fr (σ ⊕ ρ)}(I:Nat->σ->Prop)(Q:ρ->Prop)(a:List T)(h:∀ (i:Nat) e s,a[i]?= U e->I i s->(step (i:Int) e s).s7 (iV (I (i+1)) Q)):
  (l:List T)->(i:Nat)->a.drop i=l->(s:σ)->I i s->eI step (i:Int) l s/\iV (I (i+l.length)) Q (bC step (i:Int) l s)
 |[],_,_,_,c=>⟨uT,c⟩
 |e::r,i,g,s,c=>by
  have k:a[i]?= U e:=by have:=ufy (·[0]?) g;simpa using this
  have m:a.drop (i+1)=r:=by have:=ufy (List.drop 1) g;simpa[List.drop_drop]using this
  obtain⟨d,b⟩:=dt (h i e s k c);unfold eI bC;cases f:(step (i:Int) e s).get with
  |inl n=>rw[f]at b;have:=Y3 I Q a h r (i+1) m n b;rw[show i+(e::r).length=i+1+r.length by simp;omega];exact⟨⟨d,this.1⟩,this.2⟩
  |inr y=>rw[f]at b;exact⟨⟨d,uT⟩,b⟩
def o5{step:Int->T->σ->Fr (σ ⊕ ρ)}(I:Nat->σ->Prop)(Q:ρ->Prop)(l:List T)(h:∀ (i:Nat) e s,l[i]?= U e->I i s->(step (i:Int) e s).s7 (iV (I (i+1)) Q))(s:σ)(a:I 0 s):
  eI step 0 l s/\iV (I l.length) Q (bC step 0 l s):=by
 have:=Y3 I Q l h l 0 rfl s a
 rwa [uez]at this
def Y2{step:Int->T->σ->Fr σ}(I:Nat->σ->Prop)(a:List T)(h:∀ (i:Nat) e s,a[i]?= U e->I i s->(step (i:Int) e s).s7 (λm=>I (i+1) m)):
  (l:List T)->(i:Nat)->a.drop i=l->(s:σ)->I i s->bY step (i:Int) l s/\I (i+l.length) (bw step (i:Int) l s)
 |[],_,_,_,b=>⟨uT,b⟩
 |e::r,i,c,s,b=>by
  have g:a[i]?= U e:=by have:=ufy (·[0]?) c;simpa using this
  have k:a.drop (i+1)=r:=by have:=ufy (List.drop 1) c;simpa[List.drop_drop]using this
  obtain⟨d,f⟩:=dt (h i e s g b);have:=Y2 I a h r (i+1) k _ f;unfold bY bw;rw[show i+(e::r).length=i+1+r.length by simp;omega];exact⟨⟨d,this.1⟩,this.2⟩
def dK{step:Int->T->σ->Fr σ}(I:Nat->σ->Prop)(l:List T)(h:∀ (i:Nat) e s,l[i]?= U e->I i s->(step (i:Int) e s).s7 (λb=>I (i+1) b))(s:σ)(a:I 0 s):bY step 0 l s/\I l.length (bw step 0 l s):=by
 have:=Y2 I l h l 0 rfl s a
 rwa [uez]at this
def iS(p q:Prop)(g:σ ⊕ ρ)(d:σ)(a:ρ)(k:σ->Fr α)(r:ρ->Fr α):Fr α:=.need p (.need q (.br (dV g) (k (fq d g)) (r (e9 a g))))
def cT(p q:Prop)(g:σ)(k:σ->Fr α):Fr α:=.need p (.need q (k g))
def I8{p q:Prop}{g:σ ⊕ ρ}{d:σ}{b:ρ}{k:σ->Fr α}{r:ρ->Fr α}{Q:α->Prop}{A:σ->Prop}{B:ρ->Prop}(e:p)(h:q/\iV A B g)(c:∀ s,A s->(k s).s7 Q)(f:∀ y,B y->(r y).s7 Q):(iS p q g d b k r).s7 Q:=by
 refine⟨e,h.1,?_⟩;have a:=h.2;cases g with
 |inl s=>exact⟨λ_=>c s a,λh=>(by cases h)⟩
 |inr y=>exact⟨λh=>(by cases h),λ_=>f y a⟩
def ii{p q:Prop}{g:σ}{k:σ->Fr α}{Q:α->Prop}{A:σ->Prop}(b:p)(h:q/\A g)(a:∀ s,A s->(k s).s7 Q):(cT p q g k).s7 Q:=⟨b,h.1,a g h.2⟩
def dnT(q:Int):Fr (aa [i64,i64]):=Jb (J (q>4000000000000000000)) (Jv (0,5,())) (Jb Y (pM (U6.wrap (q+1))) (pM q))
def TS(h l c:Int):Fr (aa [i64,i64]):=Jb (J (h>=c)) (Jv (0,5,())) (Jd (h<c) (dnT (JU.f (h,l,c,())).1))
def Vs(x:ap [.d i64,.d i64,.d i64]):Fr (aa [i64,i64]):=
 let a:=pu.f (U6.wrap x.1,U6.wrap x.2.1,());Jb (bif bif J (x.1<0)then Z else J (x.2.1<0)then Z else J (x.2.2.1<0)) (Jv (0,1,()))
  (Jb (x.2.2.1==0) (Jv (0,6,()))
   (TS a.1 a.2.1 (U6.wrap x.2.2.1)))
def Uz(q:Int):(pM q).ok:=⟨λ_=>uT,λ_=>uT⟩
def qqs(h l c:Int):(TS h l c).ok:=⟨λ_=>uT,λa=>⟨by have:=uch a;omega,λ_=>uT,λ_=>⟨λ_=>Uz _,λ_=>Uz _⟩⟩⟩
def JV:Ct:=⟨[.d i64,.d i64,.d i64],[i64,i64],λx=>(Vs x).get,λ_=>[]⟩
def qre:ag prog 205 JV:=
 qpd (aT qis f205 (fr:=Vs)) _ (λ_ _ _ _ _ _=>⟨λ_=>uT,λ_=>⟨λ_=>uT,λ_=>qqs _ _ _⟩⟩)
def IP:Cx:=dI [(205,JV)] [] (iJ prog (cx [] []) XdR)
def Ag:CxOK prog IP:=dP aH ⟨qre,uT⟩ trivial (jt (aQ (cs:=[]) (ps:=[]) aH trivial trivial) (nD (by kernel_rfl) (nD (by kernel_rfl) sP)))
abbrev rW:Pt:=⟨105,0,⟨[(35,.d i64),(34,.d i64),(33,.d aP),(0,.d i64),(7,.d .bool)],[.o 8 3 i64,.x 280001 3 i64,.g 6 224 [280001]]⟩,⟨[(7,.d .bool),(0,.d i64)],[.o 8 3 i64]⟩,⟨[(4,.d aP),(5,.d i64)],[]⟩⟩
def zF(k:Int×(List Int)×Int)(b:Prop)(i:Int)(e:i64.q)(s:Bool×(List Int)×Int):Fr ((Bool×(List Int)×Int) ⊕ rW.R.X):=
 Jd b (Jb (J (e<0)) (Jb (1==1) (Jv (.inr (([],1,()),()))) (Jd (s.2.1.length + [0].length<=maxLen/\(s.2.1.length + [0].length)*8<=140737488355328) (Jv (.inl (bif s.1 then Z else 1==5,s.2.1++[0],s.2.2))))) (Jb (bif J (I6.wrap (s.2.2+e)>4000000000000000000)then Z else J (I6.wrap (s.2.2+e)<0)) (Jb (5==1) (Jv (.inr (([],5,()),()))) (Jd (s.2.1.length + [0].length<=maxLen/\(s.2.1.length + [0].length)*8<=140737488355328) (Jv (.inl (bif s.1 then Z else 5==5,s.2.1++[0],4000000000000000001))))) (Jb (0==1) (Jv (.inr (([],0,()),()))) (Jd (s.2.1.length + [I6.wrap (s.2.2+e)].length<=maxLen/\(s.2.1.length + [I6.wrap (s.2.2+e)].length)*8<=140737488355328) (Jv (.inl (bif s.1 then Z else 0==5,s.2.1++[I6.wrap (s.2.2+e)],I6.wrap (s.2.2+e))))))))
def R3:rW.M.X->Fr rW.Out:=FK (λx=>(x.1.1,(x.1.2.1,x.1.2.2.1,x.1.2.2.2.1),(x.1.2.2.2.2.1,x.2.1,x.2.2.1))) (λk=>k.1) (λk=>k.2.1) zF (λk s=>((s.1,k.2.2,()),s.2.1,())) (λ_ y=>Rd.back y) (Y,[],0) (aY _,cf _)
def zez:af prog (.loop (au f174 0)) rW.M rW R3:=
 lG Ag (λi k s=>((i,k.1,k.2.1,k.2.2,s.1,()),s.2.1,s.2.2,())) i64.j
def qyo:=λk s=>bC (zF k True) 0 k.2.1 s
def zhh:=λk s=>eI (zF k True) 0 k.2.1 s
def zs0(a:Gm):St->Option Tr:=rW.han a rW.M R3
abbrev yU:Pt:=⟨105,3,⟨[(84,.d i64),(83,.d i64),(0,.d i64),(13,.d i64),(15,.d i64)],[.o 82 3 i64,.o 14 3 i64]⟩,⟨[],[.o 14 3 i64]⟩,⟨[],[]⟩⟩
def Dn(k:Int×Int×Int×(List Int))(b:Prop)(i:Int)(e:i64.q)(s:Int×(List Int)):Fr (Int×(List Int)):=
 let a:=JV.f (k.2.1,e,k.2.2.1,());Jd b (Jd (Int.toNat i<k.2.2.2.length) (Jd (0<=i/\i<(s.2.length:Int)) (Jd (Int.toNat i<s.2.length) (Jv (a.1,s.2.set (Int.toNat i) (I6.wrap (a.1-s.1)))))))
def R4:yU.M.X->Fr yU.Out:=FG (λx=>(x.1.1,(x.1.2.1,x.1.2.2.1,x.1.2.2.2.1,x.2.1),(x.1.2.2.2.2.1,x.2.2.1))) (λk=>k.1) (λk=>k.2.2.2) Dn (λk s=>((),s.2,()))
def ze0:af prog (.loop (au f174 1)) yU.M yU R4:=
 cX Ag (λi k s=>((i,k.1,k.2.1,k.2.2.1,s.1,()),k.2.2.2,s.2,())) i64.j
def qyp:=λk s=>bw (Dn k True) 0 k.2.2.2 s
def zhi:=λk s=>bY (Dn k True) 0 k.2.2.2 s
def zs1(a:Gm):St->Option Tr:=yU.han a yU.M R4
open Go.Shelf
def Bl(x:ap [.d i64,.d aP]):Fr (aa [aP,i64]):=
 Jb (bif J (x.1<0)then Z else J (((List.length x.2.1):Int)>2000)) (Jv ([],1,())) (Jd ((0:Int)<=0/\0<=((List.length x.2.1):Int)/\((List.length x.2.1):Int)<=(maxLen:Int)/\((List.length x.2.1):Int)*(8:Int)<=140737488355328) (iS (InK (((List.length x.2.1):Int)) 0 (List.length x.2.1)) (zhh (((List.length x.2.1):Int),x.2.1,x.1) (J (x.1>4000000000000000000),Lrp (Int.toNat 0) 0,0)) (qyo (((List.length x.2.1):Int),x.2.1,x.1) (J (x.1>4000000000000000000),Lrp (Int.toNat 0) 0,0)) (Y,[],0) (aY _,cf _) (λa=>Jb a.1 (Jv ([],5,())) (Jd (((a.2.1.length:Int)==0)=Y->0<=I6.wrap ((a.2.1.length:Int)-1)/\I6.wrap ((a.2.1.length:Int)-1)<(a.2.1.length:Int)) (Jd (((a.2.1.length:Int)==0)=Y->(I6.wrap ((a.2.1.length:Int)-1)).toNat<a.2.1.length) (Jb (bif (a.2.1.length:Int)==0 then Z else a.2.1.getD (I6.wrap ((a.2.1.length:Int)-1)).toNat i64.j==0) (Jv ([],6,())) (Jd (0<=I6.wrap ((a.2.1.length:Int)-1)/\I6.wrap ((a.2.1.length:Int)-1)<(a.2.1.length:Int)) (Jd ((I6.wrap ((a.2.1.length:Int)-1)).toNat<a.2.1.length) (Jd (0<=(a.2.1.length:Int)/\(a.2.1.length:Int)<=(a.2.1.length:Int)/\(a.2.1.length:Int)<=(maxLen:Int)/\(a.2.1.length:Int)*(8:Int)<=140737488355328) (cT (InK ((a.2.1.length:Int)) 0 a.2.1.length) (zhi ((a.2.1.length:Int),x.1,a.2.1.getD (I6.wrap ((a.2.1.length:Int)-1)).toNat i64.j,a.2.1) (0,Lrp ((a.2.1.length:Int)).toNat 0)) (qyp ((a.2.1.length:Int),x.1,a.2.1.getD (I6.wrap ((a.2.1.length:Int)-1)).toNat i64.j,a.2.1) (0,Lrp ((a.2.1.length:Int)).toNat 0)) (λb=>Jv (b.2,0,())))))))))) (λc=>Jv c.1)))
def qu1:ag prog 174 ⟨[.d i64,.d aP],[aP,i64],λxs=>(Bl xs).get,λxs=>[(Bl xs).ok]⟩:=
 cF Ag (Λ:=(λk=>if k=0 then zs0 IP.Γ else zs1 IP.Γ)) (fn:=f174) (aY [.d i64,.d aP]) (by kernel_rfl) (λc E a=>GA a (by kernel_rfl) (b0:=au f174 0) (b1:=au f174 1) (by kernel_rfl) (by kernel_rfl) (af.han Ag rfl zez) (af.han Ag rfl ze0)) (λx=>by kernel_rfl)
def fI:1000000<=maxLen:=by decide
def eU{l:Nat}(h:l<=1000000000):InK (l:Int) 0 l:=⟨rfl,by decide,ub4 _,by omega⟩
def yj{l:Nat}(h:l<=1000000):0<=(l:Int)/\(l:Int)<=(l:Int)/\(l:Int)<=(maxLen:Int)/\(l:Int)*(8:Int)<=140737488355328:=by have:=fI;omega
def zoe(a:Int)(l:List Int)(k:l.length<=2000)(b:Bool):
  eI (zF ((l.length:Int),l,a) True) 0 l (b,[],0)/\iV (λs=>s.2.1.length=l.length) (λy=>y.1.1=[]) (bC (zF ((l.length:Int),l,a) True) 0 l (b,[],0)):=
 o5 (step:=zF ((l.length:Int),l,a) True) (λ(i:Nat) (s:Bool×List Int×Int)=>s.2.1.length=i) (λ(y:rW.R.X)=>y.1.1=[]) l (λi e s g f=>by
  have h:i<l.length:=(uak.1 g).1;have m:=fI;have d:∀ z:Int,s.2.1.length + [z].length<=maxLen/\(s.2.1.length + [z].length)*8<=140737488355328:=λz=>by rw[f,ua7];omega
  have c:∀ z:Int,(s.2.1++[z]).length=i+1:=λz=>by rw[ub6,f];rfl
  exact⟨uT,λ_=>⟨λ_=>rfl,λ_=>⟨d 0,c 0⟩⟩,λ_=>⟨λ_=>⟨λ_=>rfl,λ_=>⟨d 0,c 0⟩⟩,λ_=>⟨λ_=>rfl,λ_=>⟨d (I6.wrap (s.2.2+e)),c (I6.wrap (s.2.2+e))⟩⟩⟩⟩) _ rfl
def zof(k:Int×Int×Int×List Int)(s:Int×List Int)(a:s.2.length=k.2.2.2.length):
  bY (Dn k True) 0 k.2.2.2 s/\(bw (Dn k True) 0 k.2.2.2 s).2.length=k.2.2.2.length:=
 dK (λ_ (s:Int×List Int)=>s.2.length=k.2.2.2.length) k.2.2.2 (λi e s c a=>by have b:i<k.2.2.2.length:=(uak.1 c).1;refine⟨uT,?_,⟨?_,?_⟩,?_,?_⟩;rw[uc0];exact b;exact ub4 i;rw[a];exact Int.ofNat_lt.2 b;rw[uc0,a];exact b;show(List.set _ _ _).length=_;rw[udp];exact a) s a
def qbn(a:Int)(l:List Int):(Bl (a,l,())).s7 (λy=>y.1=[]\/y.1.length=l.length):=by
 unfold Bl;dsimp only;refine⟨λ_=>.inl rfl,λr=>?_⟩;have t:l.length<=2000:=by
  by_cases h:(l.length:Int)>2000;have e:J ((l.length:Int)>2000)=true:=ueb h;have b:(bif J (a<0)then Z else J ((l.length:Int)>2000))=false:=r;rw[e]at b;cases p:J (a<0)<;>rw[p]at b<;>cases b
  omega
 have v:=fI;refine⟨⟨by decide,(yj (by omega)).1,(yj (by omega)).2.2⟩,I8 (eU (by omega)) (zoe a l t _) (λs c=>⟨λ_=>.inl rfl,λ_=>?_⟩) (λy u=>.inl u)⟩;have c:s.2.1.length=l.length:=c;have k:(s.2.1.length:Int)≠0->I6.wrap ((s.2.1.length:Int)-1)=(s.2.1.length:Int)-1:=λ_=>cV (by omega);have f:(s.2.1.length:Int)≠0->0<=I6.wrap ((s.2.1.length:Int)-1)/\I6.wrap ((s.2.1.length:Int)-1)<(s.2.1.length:Int):=λh=>by rw[k h];omega
 have g:(s.2.1.length:Int)≠0->(I6.wrap ((s.2.1.length:Int)-1)).toNat<s.2.1.length:=λh=>by rw[k h];omega
 have m:((s.2.1.length:Int)==0)=Y->(s.2.1.length:Int)≠0:=λh=>by simpa using h
 refine⟨λh=>f (m h),λh=>g (m h),λ_=>.inl rfl,λh=>?_⟩;have i:(s.2.1.length:Int)≠0:=λe=>by
  have o:((s.2.1.length:Int)==0)=true:=by simpa using e
  have b:(bif (s.2.1.length:Int)==0 then Z else s.2.1.getD (I6.wrap ((s.2.1.length:Int)-1)).toNat i64.j==0)=false:=h;rw[o]at b;cases b
 refine⟨f i,g i,yj (by omega),ii (A:=λ(n:Int×List Int)=>n.2.length=s.2.1.length) (eU (by omega)) (zof _ _ ?_) (λn d=>.inr (d.trans c))⟩;show(Lrp _ _).length=_;rw[ubc,uc0]
def AB:Ct:=⟨[.d i64,.d aP],[aP,i64],λx=>(Bl x).get,λ_=>[]⟩
def zoh:ag prog 174 AB:=
 conv qu1 _ _ (λ_ _ x _ _ _=>⟨(dt (qbn x.1 x.2.1)).1,rfl⟩)
def zog(a:Int)(l:List Int):(AB.f (a,l,())).1=[]\/(AB.f (a,l,())).1.length=l.length:=(dt (qbn a l)).2
def eP:Code->Nat->Option Code
 |.loop c,0=>U c
 |.seq a b,k=>if k<cD a then eP a k else eP b (k-cD a)
 |.cond _ a b,k=>if k<cD a then eP a k else eP b (k-cD a)
 |.block _ c,k=>eP c k
 |.scope c,k=>eP c k
 |_,_=>V
def yh(f:Func)(k:Nat):Code:=(f.body.bind (eP · k)).getD .skip
def Qi:FuncId->Option Ct:=λf=>if f=242 then U la else if f=213 then U A6 else V
def C2:Cx:=⟨Qi,λ_=>V,λ_ _ _ _=>V⟩
def IB:CxOK prog C2:=Ol λf b h=>by simp only[Qi]at h;split at h;rename_i a;subst a;cases h;exact Yk;split at h;rename_i a;subst a;cases h;exact X8;cases h
def ce(l:List Int)(x:Int):Nat:=l.countP λy=>J (y<x)
def qoz(f:∀ k y,k<i->l[k]?= U y->y<x)(g:∀ k y,i<=k->l[k]?= U y->¬ y<x)(h:i<=l.length):ce l x=i:=by
 unfold ce;rw[<- uba i l,List.countP_append];have d:(l.take i).countP (λy=>J (y<x))=(l.take i).length:=by rw[List.countP_eq_length];intro y c;obtain⟨k,a⟩:=ua9.1 c;rw[ub2]at a;split at a;rename_i b;simpa using f k y b a;cases a
 have e:(l.drop i).countP (λy=>J (y<x))=0:=by rw[List.countP_eq_zero];intro y c;obtain⟨k,a⟩:=ua9.1 c;rw[ub1]at a;simpa using g (i+k) y (by omega) a
 rw[d,e,uc6];omega
abbrev nm:Pt:=⟨54,0,⟨[(0,.d aP),(1,.d i64),(6,.d i64),(7,.d i64),(8,.d i64)],[]⟩,⟨[(0,.d aP),(1,.d i64),(6,.d i64),(7,.d i64)],[]⟩,⟨[],[]⟩⟩
def bc(i j:Int):Int:=I6.wrap ((U6.wrap (I6.wrap (i+j))).fdiv (2 ^ min (Int.toNat 1) U6.bits))
def Ms(x:nm.M.X):Fr nm.Out:=
 let b:=x.1.2;let a:=b.2.2;Jb (J (a.1<a.2.1))
  (Jd (¬ (1:Int)<0)
   (Jd (0<=bc a.1 a.2.1/\bc a.1 a.2.1<x.1.1.length)
    (Jb (A6.f (x.1.1.getD (bc a.1 a.2.1).toNat i64.j,b.1,())).1
     (Jv (Rd.next ((x.1.1,b.1,b.2.1,I6.wrap (bc a.1 a.2.1+1),a.2.1,()),())))
     (Jv (Rd.next ((x.1.1,b.1,b.2.1,a.1,bc a.1 a.2.1,()),()))))))
  (Jv (Rd.out ((x.1.1,b.1,b.2.1,a.1,()),())))
def zmh:af prog (yh f234 0) nm.M nm Ms:=
 af.of_run IB (bs:=0) (Λ:=Cn) rfl rfl rfl (λE=>oz _ 0) (λx=>by kernel_rfl)
def zgh{i j:Int}(d:0<=i)(c:i<=j)(e:j<=9223372036854775807):bc i j=(i+j)/2:=by
 unfold bc;have a:U6.wrap (I6.wrap (i+j))=i+j:=by rw[udg,IntKind.wrap_u64];omega
 have b:(2:Int) ^ min (Int.toNat 1) U6.bits=2:=by decide
 rw[a,b,uag _ (by decide),IntWalk.i64_in _ (by omega)]
structure InvB (l:List Int) (x i j:Int):Prop where
 lo:0<=i
 le:i<=j
 hi:j<=l.length
 big:(l.length:Int)<=9223372036854775807
 up:l.Pairwise (· < ·)
 below:∀ (k:Nat) (y:Int),(k:Int)<i->l[k]?= some y->y<x
 above:∀ (k:Nat) (y:Int),j<=k->l[k]?= some y->¬ y<x
def FB(x:nm.M.X):Fr nm.Out:=
 Jd (InvB x.1.1 x.1.2.1 x.1.2.2.2.1 x.1.2.2.2.2.1) (Jv (Rd.out ((x.1.1,x.1.2.1,x.1.2.2.1,(ce x.1.1 x.1.2.1:Int),()),())))
def PW(h:l.Pairwise (· < ·)){a:Nat}{z:Int}(c:a<b)(f:l[a]?= U y)(g:l[b]?= U z):y<z:=by obtain⟨d,rfl⟩:=uak.1 f;obtain⟨e,rfl⟩:=uak.1 g;exact(uan.1 h) a b d e c
def zbs (l:List Int) (x n i j:Int) (m:InvB l x i j) (Q:nm.Out->Prop) (g:Q (Rd.out ((l,x,n,(ce l x:Int),()),()))) :
  (Ms ((l,x,n,i,j,()),())).s7 λ
   |.next f=>InvB f.1.1 f.1.2.1 f.1.2.2.2.1 f.1.2.2.2.2.1/\(f.1.2.2.2.2.1-f.1.2.2.2.1).toNat<(j-i).toNat/\(FB f).s7 Q
   |.out y=>Q (.out y)
   |.back z=>Q (.back z)
   |.pan p=>Q (.pan p):=by
 obtain⟨u,C,D,v,s,w,A⟩:=m;simp only[Ms,Fr.s7,ucu,uav];refine⟨λb=>?_,λb=>?_⟩;have b:i<j:=b;have F:=zgh u C (by omega);have o:0<=(i+j)/2/\(i+j)/2<l.length:=by omega
 rw[F];refine⟨by omega,o,?_⟩;obtain⟨y,c⟩:∃ y,l[((i+j)/2).toNat]?= U y:=by
  have:((i+j)/2).toNat<l.length:=by omega
  exact⟨_,uaq this⟩
 have h:l.getD ((i+j)/2).toNat i64.j=y:=by rw[uah,c];rfl
 rw[h];show(J (y<x)=Z->_)/\(J (y<x)=Y->_);simp only[ucu,uav];refine⟨λa=>?_,λa=>?_⟩;have a:=a;have G:I6.wrap ((i+j)/2+1)=(i+j)/2+1:=IntWalk.i64_in _ (by omega);rw[G];have r:InvB l x ((i+j)/2+1) j:=⟨by omega,by omega,D,v,s,λk z t e=>by
  by_cases d:k<((i+j)/2).toNat;exact ue3 (PW s d e c) a;have:k=((i+j)/2).toNat:=by omega
  subst this;rw[c]at e;cases e;exact a,A⟩
 exact⟨r,by show(j-((i+j)/2+1)).toNat<(j-i).toNat;omega,r,g⟩;have a:=a;have r:InvB l x i ((i+j)/2):=⟨u,by omega,by omega,v,s,w,λk z t e=>by
  by_cases d:((i+j)/2).toNat<k;have:=PW s d c e;omega;have:k=((i+j)/2).toNat:=by omega
  subst this;rw[c]at e;cases e;exact a⟩
 exact⟨r,by show((i+j)/2-i).toNat<(j-i).toNat;omega,r,g⟩;have b:¬ i<j:=b;have B:i=j:=by omega
 have E:ce l x=i.toNat:=qoz (λk y t c=>w k y (by omega) c) (λk y t c=>A k y (by omega) c) (by omega);rw[E]at g;have:((i.toNat:Nat):Int)=i:=by omega
 rw[this]at g;exact g
def loopB:af prog (.loop (yh f234 0)) nm.M nm FB:=by refine af.loop zmh (μ:=λx=>(x.1.2.2.2.2.1-x.1.2.2.2.1).toNat) ?_ (λx Q h=>h.1);rintro⟨⟨l,x,n,i,j,_⟩,_⟩ a Q b;exact zbs l x n i j a Q b.2
def qR:{c:Code} -> {k:Nat} -> {b:Code}->eP c k=U b->k<cD c
 |.loop _,0,_,_=>udv
 |.loop _,_+1,_,h=>by simp[eP]at h
 |.seq x y,k,b,h=>by simp only[eP]at h;simp only[cD];split at h;omega;have:=qR h;omega
 |.cond _ x y,k,b,h=>by simp only[eP]at h;simp only[cD];split at h;omega;have:=qR h;omega
 |.block _ c,k,b,h=>qR (c:=c) h
 |.scope c,k,b,h=>qR (c:=c) h
 |.skip,_,_,h=>by simp[eP]at h
 |.region _ _ _,_,_,h=>by simp[eP]at h
 |.ret,_,_,h=>by simp[eP]at h
 |.exit _,_,_,h=>by simp[eP]at h
 |.label _,_,_,h=>by simp[eP]at h
 |.goto _,_,_,h=>by simp[eP]at h
 |.rangeFunc _ _ _ _,_,_,h=>by simp[eP]at h
 |.refuse _,_,_,h=>by simp[eP]at h
def rI{E:Env}{Λ:Nat->St->Option Tr}:(c:Code)->(k:Nat)->(∀ i b,eP c i=U b->km prog E b (Λ (k+i)))->co prog E Λ c k
 |.loop b,k,h=>h 0 b rfl
 |.seq x y,k,h=>⟨rI x k λi b a=>h i b (by simp only[eP];rw[uf0 (qR a)];exact a),rI y _ λi b a=>by
   have:=h (cD x+i) b (by simp only[eP];rw[uf1 (by omega),uax];exact a)
   rwa [<- uei]at this⟩
 |.cond _ x y,k,h=>⟨rI x k λi b a=>h i b (by simp only[eP];rw[uf0 (qR a)];exact a),rI y _ λi b a=>by
   have:=h (cD x+i) b (by simp only[eP];rw[uf1 (by omega),uax];exact a)
   rwa [<- uei]at this⟩
 |.block _ c,k,h=>rI c k h
 |.skip,_,_=>trivial
 |.ret,_,_=>trivial
 |.exit _,_,_=>trivial
 |.region _ _ _,_,_=>trivial
 |.label _,_,_=>trivial
 |.goto _,_,_=>trivial
 |.scope c,k,h=>rI c k h
 |.rangeFunc _ _ _ _,_,_=>trivial
 |.refuse _,_,_=>trivial
def Xv{E:Env}{Λ:Nat->St->Option Tr}{fn:Func}{c b:Code}(f:fn.body=U c)(e:(fn.body.map cD)=U 1)(d:fn.body.bind (eP · 0)=U b)(h:km prog E b (Λ 0)):co prog E Λ c 0:=by
 refine rI c 0 λi k a=>?_;have l:=qR a;rw[f]at e d;simp at e;have g:i=0:=by omega
 subst g;simp at d;rw[d]at a;cases a;exact h
def ΛB:Nat->St->Option Tr:=λ_=>nm.han Qi nm.M FB
def MD(x:ap [.d aP,.d i64]):Fr (aa [i64,.bool]):=
 let a:=(ce x.1 x.2.1:Int);let b:=Int.toNat a;Jd (InvB x.1 x.2.1 0 x.1.length)
  (Jd (J (a<x.1.length)=Z->0<=a/\a<x.1.length)
  (Jd ((x.1.getD b i64.j==x.2.1)=Y->J (a<x.1.length)=Z->0<=a/\a<x.1.length)
   (Jv
    (a,
     bif J (a<x.1.length)then
      bif x.1.getD b i64.j==x.2.1 then Z
      else
       bif (la.f (x.1.getD b i64.j,())).1 then (la.f (x.2.1,())).1 else Y
     else Y,
     ()))))
def zmd:ag prog 234 (bg [.d aP,.d i64] [i64,.bool] MD):=
 cF IB (Λ:=ΛB) (fn:=f234) ([],0,()) (by kernel_rfl) (λc E a=>Xv a (by kernel_rfl) (b:=yh f234 0) (by kernel_rfl) (af.han IB rfl loopB)) (λe=>by kernel_rfl)
def Tu:{l:List Int}->l.Pairwise (· < ·)->(∀ k y,k<ce l x->l[k]?= U y->y<x)/\∀ k y,ce l x<=k->l[k]?= U y->¬ y<x
 |[],_=>⟨λk y _ h=>by simp at h,λk y _ h=>by simp at h⟩
 |a::r,h=>by
  obtain⟨c,f⟩:=uca.1 h;obtain⟨i,m⟩:=Tu f;by_cases d:a<x;have n:ce (a::r) x=ce r x+1:=by simp[ce,d]
  refine⟨λk y e b=>?_,λk y e b=>?_⟩;cases k with
  |zero=>simp at b;omega
  |succ k=>exact i k y (by omega) (by simpa using b)
  cases k with
  |zero=>omega
  |succ k=>exact m k y (by omega) (by simpa using b)
  have o:ce (a::r) x=0:=by
   unfold ce;rw[List.countP_eq_zero];intro y b;rcases uej.1 b with rfl|b
   simpa using d;have:=c y b;simp;omega
  refine⟨λk y e _=>by omega,λk y _ b=>?_⟩;cases k with
  |zero=>simp at b;omega
  |succ k=>have g:=ubg (by simpa using b);have:=c y g;omega
def Tt(h:l.Pairwise (· < ·)):x∈l↔l[ce l x]?= U x:=by obtain⟨d,e⟩:=Tu h;constructor;intro i;obtain⟨k,a⟩:=ua9.1 i;by_cases b:k<ce l x;have:=d k x b a;omega;by_cases f:k=ce l x;rw[<- f];exact a;have g:=(uak.1 a).1;have c:l[ce l x]?= U (l[ce l x]'(by omega)):=uaq (by omega);have m:=PW h (by omega) c a;have n:=e _ _ (ufd _) c;omega;exact λa=>ubg a
def qo0(l:List Int)(x:Int):ce l x<=l.length:=List.countP_le_length
def zal(h:l.Pairwise (· < ·))(b:(l.length:Int)<=9223372036854775807):InvB l x 0 l.length:=
 ⟨ufe _,by omega,ufe _,b,h,λk y a _=>by omega,λk y a c=>by have:=(uak.1 c).1;omega⟩
def qxd(h:l.Pairwise (· < ·))(hl:(l.length:Int)<=9223372036854775807):(MD (l,x,())).ok/\(MD (l,x,())).get=((ce l x:Int),l.contains x,()):=by
 refine⟨⟨zal h hl,λhd=>?_,λ_ hd=>?_,uT⟩,?_⟩
 ·have hd':(ce l x:Int)<l.length:=by simpa using hd
  exact⟨by omega,hd'⟩
 ·have hd':(ce l x:Int)<l.length:=by simpa using hd
  exact⟨by omega,hd'⟩
 ·show((ce l x:Int),(bif decide ((ce l x:Int)<l.length)then bif l.getD (ce l x) i64.j==x then true else (bif false then false else false)else false),())=_;have hb:(bif decide ((ce l x:Int)<l.length)then bif l.getD (ce l x) i64.j==x then true else (bif false then false else false)else false)=l.contains x:=by
   have hm:=Tt (x:=x) h;by_cases hlt:ce l x<l.length
   ·have h1:decide ((ce l x:Int)<l.length)=true:=by simpa using hlt
    have hg:=uaq hlt;have hd:l.getD (ce l x) i64.j=l[ce l x]'hlt:=by rw[uah,hg];rfl
    rw[h1,hd];by_cases he:l[ce l x]'hlt=x
    ·have:=hm.2 (by rw[hg,he]);simp[he,this]
    ·have:¬ x∈l:=λhx=>he (by have:=hm.1 hx;rw[hg]at this;simpa using this);simp[he,this]
   ·have h1:decide ((ce l x:Int)<l.length)=false:=by simpa using hlt
    have:¬ x∈l:=λhx=>by
     have:=hm.1 hx;rw[ua4 (by omega)]at this;cases this
    rw[h1];simp[this]
  rw[hb]
def Kq:Ct:=⟨[.d aP,.d i64],[i64,.bool],λx=>((ce x.1 x.2.1:Int),x.1.contains x.2.1,()),λx=>[x.1.Pairwise (· < ·)]⟩
def zme:ag prog 234 Kq:=
 conv zmd _ _ λw F g h d b=>by
  obtain⟨l,x,_⟩:=g;obtain⟨v,f,rfl,e,_⟩:=d;have c:=aG.wf e.2.2;have a:(l.length:Int)<=9223372036854775807:=by have:=c.1;simp only[maxLen]at this;omega
  exact qxd b a
def xk(l:List Int)(x:Int):Nat:=l.countP λy=>J (y<=x)
def Ts{x:Int}:{l:List Int}->l.Pairwise (· < ·)->xk l x=ce l x+(if l.contains x then 1 else 0)
 |[],_=>rfl
 |a::r,h=>by
  obtain⟨e,f⟩:=uca.1 h;have o:=Ts (x:=x) f;have c:a=x->¬ x∈r:=λp n=>by have:=e x n;omega
  unfold xk ce at *;rw[List.countP_cons,List.countP_cons,o];rcases Int.lt_trichotomy a x with b|d|m
  have:¬ x=a:=by omega
  simp[b,uev b,this];omega;subst d;have:=c rfl;simp[this];have g:¬ a<=x:=by omega
  have i:¬ a<x:=by omega
  have k:¬ x=a:=by omega
  simp[g,i,k]
def eG(f:bG.q)(d:Int):Int:=match xk f.1 d with
 |0=>0
 |k+1=>f.2.1.getD k 0
def Qj:FuncId->Option Ct:=λf=>if f=234 then U Kq else if f=216 then U Kk else V
def C3:Cx:=⟨Qj,λ_=>V,λ_ _ _ _=>V⟩
def DH:CxOK prog C3:=Ol λf b h=>by simp only[Qj]at h;split at h;rename_i a;subst a;cases h;exact zme;split at h;rename_i a;subst a;cases h;exact zgk;cases h
def ME(x:ap [.d bG,.d i64]):Fr (aa [i64]):=
 let r:=Kq.f (x.1.1,x.2.1,())
 Jd (x.1.1.Pairwise (· < ·))
  (Jb (!r.2.1)
   (Jb (J (I6.wrap (r.1-1)<0)) (Jv (0,()))
    (Jd (0<=I6.wrap (r.1-1)/\I6.wrap (r.1-1)<x.1.2.1.length) (Jv (x.1.2.1.getD (I6.wrap (r.1-1)).toNat i64.j,()))))
   (Jb (J (r.1<0)) (Jv (0,()))
    (Jd (0<=r.1/\r.1<x.1.2.1.length) (Jv (x.1.2.1.getD r.1.toNat i64.j,())))))
def zro:ag prog 218 (bg [.d bG,.d i64] [i64] ME):=
 cF DH (Λ:=Cn) (fn:=f218) (([],[],()),0,()) (by kernel_rfl) (λc E _=>oz c 0) (λa=>by kernel_rfl)
def qxg{at_ val:List Int}{d:Int}(h:at_.Pairwise (· < ·))(u:(at_.length:Int)<=9223372036854775807)(n:at_.length=val.length):
  (ME ((at_,val,()),d,())).ok/\(ME ((at_,val,()),d,())).get=(eG (at_,val,()) d,()):=by
 have r:=qo0 at_ d;have e:=Ts (x:=d) h;have f:=Tt (x:=d) h;by_cases i:d∈at_;have b:at_.contains d=true:=by simpa using i
 have s:ce at_ d<at_.length:=(uak.1 (f.1 i)).1;have l:eG (at_,val,()) d=val.getD (ce at_ d) 0:=by unfold eG;simp only[e,b,if_true]
 refine⟨⟨h,λc=>?_,λ_=>⟨λc=>?_,λ_=>⟨⟨by show(0:Int)<=(ce at_ d:Int);omega,by show(ce at_ d:Int)<val.length;omega⟩,uT⟩⟩⟩,?_⟩;have a:(!at_.contains d)=true:=c;rw[b]at a;cases a;trivial;show(if (!at_.contains d)=Z then _ else if J ((ce at_ d:Int)<0)=Z then ((0:Int),())else (val.getD (Int.toNat (ce at_ d:Int)) i64.j,()))=_;have g:J ((ce at_ d:Int)<0)=false:=by simp
 rw[b,g,l];rfl;have b:at_.contains d=false:=by simpa using i
 have m:I6.wrap ((ce at_ d:Int)-1)=(ce at_ d:Int)-1:=IntWalk.i64_in _ (by omega);have l:eG (at_,val,()) d=(match ce at_ d with|0=>0|k+1=>val.getD k 0):=by unfold eG;simp only[e,b,ub3,ufx,ue0]
 refine⟨⟨h,λ_=>⟨λ_=>uT,λc=>?_⟩,λc=>?_⟩,?_⟩;have a:J (I6.wrap ((ce at_ d:Int)-1)<0)=false:=c;rw[m]at a;have p:¬ ((ce at_ d:Int)-1<0):=by simpa using a
 refine⟨?_,uT⟩;show 0<=I6.wrap ((ce at_ d:Int)-1)/\I6.wrap ((ce at_ d:Int)-1)<val.length;rw[m];omega;have a:(!at_.contains d)=false:=c;rw[b]at a;cases a;show(if (!at_.contains d)=Z then (if J (I6.wrap ((ce at_ d:Int)-1)<0)=Z then ((0:Int),())else (val.getD (I6.wrap ((ce at_ d:Int)-1)).toNat i64.j,()))else _)=_;rw[b,m,l];cases t:ce at_ d with
 |zero=>rfl
 |succ k=>
  have g:J (((k+1:Nat):Int)-1<0)=false:=by simp
  have o:(((k+1:Nat):Int)-1).toNat=k:=by omega
  rw[g,o];rfl
def qmm:Ct:=⟨[.d bG,.d i64],[i64],λx=>(eG x.1 x.2.1,()),λx=>[x.1.1.Pairwise (· < ·),x.1.1.length=x.1.2.1.length]⟩
def zrp:ag prog 218 qmm:=
 conv zro _ _ λw F h i e b=>by
  obtain⟨⟨at_,val,_⟩,d,_⟩:=h;obtain⟨v,g,rfl,f,_⟩:=e;have c:=aG.wf f.2.2;have a:(at_.length:Int)<=9223372036854775807:=by have:=c.1.1;simp only[maxLen]at this;omega
  exact qxg b.1 a b.2
def iN:List Int->List Int->Int->Int->Bool
 |d::l,v::r,a,last=>(J (a<d)&&(J (d<=292194)&&(!(v==last)&&kO v)))&&iN l r d v
 |_,_,_,_=>Z
abbrev mq:Pt:=⟨48,0,⟨[(18,.d i64),(17,.d i64),(16,.d aP),(3,.d i64),(4,.d i64)],[.x 1 219 bG,.r 1 1 0]⟩,⟨[],[]⟩,⟨[(2,.d .bool)],[]⟩⟩
def Vu(x:mq.M.X):Fr mq.Out:=
 let b:=x.2.1.2.1;let a:=x.1.2.2;Jb (J (x.1.1<x.1.2.1))
  (Jd (0<=x.1.1/\x.1.1<a.1.length)
   (Jd (0<=x.1.1/\x.1.1<b.length)
    (Jb
     (bif bif bif J (a.1.getD x.1.1.toNat i64.j<=a.2.1)then Z else J (a.1.getD x.1.1.toNat i64.j>292194)then Z
       else b.getD x.1.1.toNat i64.j==a.2.2.1 then Z
      else !(Kk.f (b.getD x.1.1.toNat i64.j,())).1)
     (Jv (Rd.back ((Y,()),())))
     (Jv (Rd.next ((I6.wrap (x.1.1+1),x.1.2.1,a.1,a.1.getD x.1.1.toNat i64.j,b.getD x.1.1.toNat i64.j,()),(x.2.1.1,b,()),()))))))
  (Jv (Rd.out ((),())))
def zmu:af prog (yh f196 0) mq.M mq Vu:=
 af.of_run DH (bs:=0) (Λ:=Cn) rfl rfl rfl (λE=>oz _ 0) (λx=>by kernel_rfl)
def zgz{b:Bool}(h:(!b)=Z):b=false:=by cases b<;>first|rfl|cases h
def zgw{b:Bool}(h:(!b)=Y):b=true:=by cases b<;>first|rfl|cases h
structure InvR (i n:Int) (l at_ val:List Int):Prop where
 same:l=at_
 len:n=l.length
 both:at_.length=val.length
 lo:0<=i
 hi:i<=n
 big:(l.length:Int)<=9223372036854775807
def FR(x:mq.M.X):Fr mq.Out:=
 Jd (InvR x.1.1 x.1.2.1 x.1.2.2.1 x.2.1.1 x.2.1.2.1)
  (Jb (iN (x.1.2.2.1.drop x.1.1.toNat) (x.2.1.2.1.drop x.1.1.toNat) x.1.2.2.2.1 x.1.2.2.2.2.1) (Jv (Rd.out ((),()))) (Jv (Rd.back ((Y,()),()))))
def zb7 (i n:Int) (l:List Int) (d v:Int) (at_ val:List Int) (g:InvR i n l at_ val) (Q:mq.Out->Prop)
  (a:(Jb (iN (l.drop i.toNat) (val.drop i.toNat) d v) (Jv (Rd.out ((),()))) (Jv (Rd.back ((Y,()),()))):Fr mq.Out).s7 Q) :
  (Vu ((i,n,l,d,v,()),(at_,val,()),())).s7 λ
   |.next b=>InvR b.1.1 b.1.2.1 b.1.2.2.1 b.2.1.1 b.2.1.2.1/\(b.1.2.1-b.1.1).toNat<(n-i).toNat/\(FR b).s7 Q
   |.out y=>Q (.out y)
   |.back z=>Q (.back z)
   |.pan p=>Q (.pan p):=by
 obtain⟨rfl,rfl,F,s,L,G⟩:=g;refine⟨λo=>?_,λo=>?_⟩;have f:i<l.length:=by simpa using o
 have k:i.toNat<l.length:=by omega
 have u:i.toNat<val.length:=by omega
 have B:=ual k;have C:=ual u;have D:l.getD i.toNat i64.j=l[i.toNat]:=by rw[uah,uaq k];rfl
 have E:val.getD i.toNat i64.j=val[i.toNat]:=by rw[uah,uaq u];rfl
 rw[B,C]at a;generalize M:l[i.toNat]=x at *;generalize N:val[i.toNat]=y at *;have K:I6.wrap (i+1)=i+1:=IntWalk.i64_in _ (by omega);have H:(i+1).toNat=i.toNat+1:=by omega
 refine⟨⟨s,f⟩,⟨s,by show i<(val.length:Int);omega⟩,?_⟩;show((bif bif bif J (l.getD i.toNat i64.j<=d)then Z else J (l.getD i.toNat i64.j>292194)then Z else val.getD i.toNat i64.j==v then Z else !(kO (val.getD i.toNat i64.j)))=Z->Q (Rd.back ((Y,()),()))) /\
  ((bif bif bif J (l.getD i.toNat i64.j<=d)then Z else J (l.getD i.toNat i64.j>292194)then Z else val.getD i.toNat i64.j==v then Z else !(kO (val.getD i.toNat i64.j)))=Y ->
   InvR (I6.wrap (i+1)) l.length l l val/\((l.length:Int)-I6.wrap (i+1)).toNat<((l.length:Int)-i).toNat /\
    (FR ((I6.wrap (i+1),(l.length:Int),l,l.getD i.toNat i64.j,val.getD i.toNat i64.j,()),(l,val,()),())).s7 Q)
 rw[D,E,K];have e:(bif bif bif J (x<=d)then Z else J (x>292194)then Z else y==v then Z else !(kO y))=!(J (d<x)&&(J (x<=292194)&&(!(y==v)&&kO y))):=by
  have w:J (x<=d)=!J (d<x):=by by_cases h:x<=d<;>simp[h]<;>omega
  have A:J (x>292194)=!J (x<=292194):=by by_cases h:x<=292194<;>simp[h]<;>omega
  rw[w,A];cases J (d<x)<;>cases J (x<=292194)<;>cases (y==v)<;>cases kO y<;>rfl
 rw[e];have r:iN (x::l.drop (i.toNat+1)) (y::val.drop (i.toNat+1)) d v=((J (d<x)&&(J (x<=292194)&&(!(y==v)&&kO y)))&&iN (l.drop (i.toNat+1)) (val.drop (i.toNat+1)) x y):=rfl;rw[r]at a;refine⟨λm=>?_,λm=>?_⟩;have c:=zgz m;rw[c]at a;exact a.2 rfl;have c:=zgw m;rw[c,uem]at a;have t:InvR (i+1) l.length l l val:=⟨rfl,rfl,F,by omega,by omega,G⟩;refine⟨t,by omega,t,?_⟩;rw[H];exact a;have f:¬ i<l.length:=by simpa using o
 have k:l.drop i.toNat=[]:=ua2 (by omega);rw[k]at a;exact a.1 rfl
def zdi:af prog (.loop (yh f196 0)) mq.M mq FR:=by refine af.loop zmu (μ:=λx=>(x.1.2.1-x.1.1).toNat) ?_ (λx Q h=>h.1);rintro⟨⟨i,n,l,d,v,_⟩,⟨at_,val,_⟩,_⟩ a Q b;exact zb7 i n l d v at_ val a Q b.2
def ΛR:Nat->St->Option Tr:=λ_=>mq.han Qj mq.M FR
def qxc(x:ap [.d bG]):Fr (aa [.bool]):=
 let a:=Int.toNat 0;Jb ((x.1.1.length:Int) != (x.1.2.1.length:Int)) (Jv (Y,()))
  (Jd (InvR 0 x.1.1.length x.1.1 x.1.1 x.1.2.1)
   (Jb (iN (x.1.1.drop a) (x.1.2.1.drop a) 0 0) (Jv (Z,())) (Jv (Y,()))))
def zll:ag prog 196 (bg [.d bG] [.bool] qxc):=
 cF DH (Λ:=ΛR) (fn:=f196) (([],[],()),()) (by kernel_rfl) (λc E a=>Xv a (by kernel_rfl) (b:=yh f196 0) (by kernel_rfl) (af.han DH rfl zdi)) (λe=>by kernel_rfl)
def my(f:bG.q):Bool:=J (f.1.length=f.2.1.length)&&iN f.1 f.2.1 0 0
def qmj:Ct:=⟨[.d bG],[.bool],λx=>(my x.1,()),λ_=>[]⟩
def zlm:ag prog 196 qmj:=
 conv zll _ _ λw F k l g _=>by
  obtain⟨⟨at_,val,_⟩,_⟩:=k;obtain⟨v,i,rfl,h,_⟩:=g;have e:=aG.wf h.2.2;have c:(at_.length:Int)<=9223372036854775807:=by have:=e.1.1;simp only[maxLen]at this;omega
  by_cases d:at_.length=val.length;have a:((at_.length:Int) != (val.length:Int))=false:=by simp[d]
  refine⟨⟨λf=>?_,λ_=>⟨⟨rfl,rfl,d,ufe _,by omega,c⟩,⟨λ_=>uT,λ_=>uT⟩⟩⟩,?_⟩;trivial;show(if ((at_.length:Int) != (val.length:Int))=Z then (Y,())else if iN at_ val 0 0=Z then (Z,())else (Y,()))=(J (at_.length=val.length)&&iN at_ val 0 0,());rw[a,ueb d];cases iN at_ val 0 0<;>rfl
  have a:((at_.length:Int) != (val.length:Int))=true:=by simp;omega
  refine⟨⟨λ_=>uT,λf=>?_⟩,?_⟩;have b:=f;rw[a]at b;cases b;show(if ((at_.length:Int) != (val.length:Int))=Z then (Y,())else _)=(J (at_.length=val.length)&&iN at_ val 0 0,());rw[a,udw d];rfl
section
attribute [local go_sem] Oper.semAt_some
def Ps(h:aG w F aP l (λ_ u=>u=v)):
  ∃ A c,v=.slice A l.length c/\l.length<=c/\c<=maxLen/\(0<l.length->∃ b off,A=U ⟨b,off,V⟩/\F b/\∀ (i:Nat) (x:Int),l[i]?= U x->w.cell? ⟨b,off+i,V⟩=U (.int .i64 x) /\ -9223372036854775808<=x/\x<=9223372036854775807):=by
 obtain⟨A,c,rfl,p,r,n⟩:=h;refine⟨A,c,rfl,p,r,λz=>?_⟩;obtain⟨e,rfl,t,y,_⟩:=n 0 l[0] (uaq z);have o:e.spot=none:=by
  have a:w.cell? (e.add (0*i64.size+0))=U (.int .i64 l[0]):=y;have m:e.add (0*i64.size+0)=e:=by simp[Addr.add]
  rw[m]at a;unfold World.cell? at a;split at a;split at a;cases a;rename_i f;cases g:e.spot with
  |none=>rfl
  |some _=>rw[g]at f;exact absurd rfl f
  cases a
 obtain⟨b,off,D⟩:=e;simp only at o;subst o;refine⟨b,off,rfl,t,λi x C=>?_⟩;obtain⟨e,s,_,k,B⟩:=n i x C;cases s;have d:w.cell? ((⟨b,off,V⟩:Addr).add (i*1+0))=U (.int .i64 x):=k;have m:(⟨b,off,V⟩:Addr).add (i*1+0)=⟨b,off+i,V⟩:=by
  unfold Addr.add;split;have:i=0:=by omega
  subst this;rfl;simp
 rw[m]at d;exact⟨d,B⟩
def gq(f:bG.q)(e:Int):List Int->Int->List (Int×Int×Int)
 |[],a=>[(a,e,eG f a)]
 |d::l,a=>if d<=a\/e<=d then gq f e l a else (a,d,eG f a)::gq f e l d
def cU(a c d:Nat)(W b:World):Prop:=Below a W b/\b.heap[c]?= W.heap[c]? /\ b.heap[d]?= W.heap[d]?
def cU.refl(a b c:Nat)(W:World):cU a b c W W:=⟨ufn _ _,rfl,rfl⟩
def cU.trans{a b c:Nat}{A B C:World}(h:cU a b c A B)(k:cU a b c B C):cU a b c A C:=⟨h.1.trans k.1,k.2.1.trans h.2.1,k.2.2.trans h.2.2⟩
def cU.below{a b c:Nat}(h:Below W.heap.size W W')(d:a<=W.heap.size)(e:b<W.heap.size)(f:c<W.heap.size):cU a b c W W':=⟨h.mono d,h.block _ e,h.block _ f⟩
def Ee{d:β->World->Prop}(b:AbidesFrom B d){s:β}(h:d s W)(a:Below W.heap.size W W'):d s W':=
 b s W W' V h ⟨a.os,a.tape,a.output,a.size,λk c _=>a.block k c⟩ (λr e=>nomatch e)
abbrev Zv(x:Int×Int×Int):Array Value:=#[.agg #[.int .i64 x.1,.int .i64 x.2.1],.int .i64 x.2.2]
def Ea(f:bG.q)(b:Value)(W:World):Prop:=∀ d:Int,-9223372036854775808<=d->d<=9223372036854775807->Calls prog 218 #[b,.int .i64 d] W λe a=>e=.returned (.int .i64 (eG f d))/\Below W.heap.size W a
def zrn{f:bG.q}{c:Value}(r:∀ b,F b->b<W.heap.size)(t:bJ W F bG f c)(o:f.1.Pairwise (· < ·))(p:f.1.length=f.2.1.length):Ea f c W:=λd g i=>by have s:bJ W F i64 d (.int .i64 d):=⟨rfl,⟨λh=>(by cases h),λ⟨w,h⟩=>(by cases h)⟩,rfl,g,i⟩;refine(zrp.2 W F (f,d,()) [c,.int .i64 d] r ⟨c,_,rfl,t,_,[],rfl,s,rfl⟩ ⟨o,p⟩).mono ?_;rintro e n ⟨v,m,rfl,a,_,_,u⟩;have k:aK prog n m (λ_ _=>True) (eR i64 (eG f d)) v:=iH u;have l:v=.int .i64 (eG f d):=k.2.1;exact⟨by rw[l],a⟩
def cn{x:Nat×Nat}(h:W.heap[b]?= U (.cells cs t x))(i:Nat):W.cell? ⟨b,i,V⟩=cs[i]? := by simp[World.cell?,h]
def uM{P:Nat->Prop}(h:∀ j,j<9->P j):P 0/\P 1/\P 2/\P 3/\P 4/\P 5/\P 6/\P 7/\P 8:=⟨h 0 (by decide),h 1 (by decide),h 2 (by decide),h 3 (by decide),h 4 (by decide),h 5 (by decide),h 6 (by decide),h 7 (by decide),h 8 (by decide)⟩
def mG:World->List Obj->World
 |w,[]=>w
 |w,o::l=>mG (w.alloc o) l
def wB:(l:List Obj)->(w:World)->Below w.heap.size w (mG w l)/\(mG w l).heap.size=w.heap.size+l.length/\∀ i o,l[i]?= U o->(mG w l).heap[w.heap.size+i]?= U o
 |[],w=>⟨ufn _ _,rfl,λi o h=>by simp at h⟩
 |a::l,w=>by
  obtain⟨c,d,e⟩:=wB l (w.alloc a);have b:=(ufn _ w).alloc (ufd _) a;refine⟨b.trans (c.mono b.size),by unfold mG;rw[d];simp;omega,λi o h=>?_⟩;cases i with
  |zero=>simp at h;subst h;exact(c.block _ (by simp)).trans (World.alloc_heap_new w _)
  |succ i=>have:=e i o (by simpa using h);rw[udh]at this;rw[<- uei,Nat.add_right_comm];exact this
structure RoundAt (n₀ B1 B2:Nat) (A:Option Addr) (at_:List Int) (va vb:Value) (e0 e1:Int) (f:bG.q) (W:World):Prop where
 b1:W.heap[B1]?= some (.cells #[va,vb] 219 (0,0))
 b2:W.heap[B2]?= some (.cells #[.int .i64 e0,.int .i64 e1] 31 (0,0))
 cells:0<at_.length->∃ b off,A=some ⟨b,off,none⟩/\b<n₀/\∀ (i:Nat) (x:Int),at_[i]?= some x->W.cell? ⟨b,off+i,none⟩=some (.int .i64 x) /\ -9223372036854775808<=x/\x<=9223372036854775807
 vals:Ea f (.agg #[va,vb]) W
section
variable {α:Type} {g:α->Int×Int×Int}
def Yp{g:α->β}{all a:List α}{y:β}{b:List β}(h:a.map g++y::b=all.map g)(d:a <+: all):∃ x,g x=y/\a++[x] <+: all:=by
 obtain⟨t,rfl⟩:=d;rw[udx]at h;have c:=List.append_cancel_left h;cases t with
 |nil=>cases c
 |cons x t=>simp at c;exact⟨x,c.1.symm,t,by simp⟩
def pi(g:α->Int×Int×Int)(f:bG.q)(c:Int)(at_:List Int)(all:List α)(k:Nat)(b:Int)(a:List α):Prop:=a <+: all/\a.map g++gq f c (at_.drop k) b=all.map g
def pi.skip{f:bG.q}{c:Int}{at_:List Int}{all:List α}{k:Nat}{a:Int}{b:List α}(h:pi g f c at_ all k a b){d:Int}(l:at_[k]?= U d)(i:d<=a\/c<=d):pi g f c at_ all (k+1) a b:=by
 obtain⟨m,rfl⟩:=uak.1 l;refine⟨h.1,?_⟩;have e:=h.2;rw[ual m]at e;rw[<- e]
 conv=>rhs;unfold gq
 rw[uf0 i]
def pi.step{f:bG.q}{e:Int}{at_:List Int}{all:List α}{k:Nat}{a:Int}{b:List α}(h:pi g f e at_ all k a b){d:Int}(n:at_[k]?= U d)(m:¬ (d<=a\/e<=d)):
  ∃ x,g x=(a,d,eG f a)/\pi g f e at_ all (k+1) d (b++[x])/\b.length<all.length:=by
 obtain⟨o,rfl⟩:=uak.1 n;have c:=h.2;rw[ual o]at c;unfold gq at c;rw[uf1 m]at c;obtain⟨x,l,i⟩:=Yp c h.1;refine⟨x,l,⟨i,?_⟩,?_⟩;rw[<- c];simp[l];have:=i.length_le;simp at this;omega
def pi.last{f:bG.q}{d:Int}{at_:List Int}{all:List α}{k:Nat}{a:Int}{b:List α}(h:pi g f d at_ all k a b)(e:at_.length<=k):
  ∃ x,g x=(a,d,eG f a)/\b++[x]=all/\b.length<all.length:=by
 have c:=h.2;rw[ua2 e]at c;obtain⟨x,m,l⟩:=Yp c h.1;have i:=ufy List.length c;simp[gq]at i;refine⟨x,m,l.eq_of_length (by simp;omega),by omega⟩
end
def zjk (g:α->Int×Int×Int) (all:List α) (n:Nat) (hn:1<=n) (l B1 B2 n₀:Nat) (A:Option Addr) (c:Nat) (at_:List Int) (vb:Value) (hvb:∃ A' n' c',vb=.slice A' n' c') (e0 e1:Int) (f:bG.q) (hlen:at_.length<=9223372036854775807) (he0 : -9223372036854775808<=e0/\e0<=9223372036854775807)
  (hall:all.map g=gq f e1 at_ e0) (J Jx:List α->World->Prop) (W:World) (hJ:AbidesFrom W.heap.size J) (hn0:n₀<=W.heap.size)
  (hY:∀ pre x W1,J pre W1->pre.length<all.length->YieldAt Fence.wide (n-1) prog l (Zv (g x)) W1 λe W'=>
   (e=.returned (.bool true)/\J (pre++[x]) W'/\cU n₀ B1 B2 W1 W')\/(e=.returned (.bool false)/\Jx (pre++[x]) W'))
  (hat:∀ W',cU n₀ B1 B2 W W'->RoundAt n₀ B1 B2 A at_ (.slice A at_.length c) vb e0 e1 f W') (h0:J [] W) :
  CallsIn Fence.wide n prog 217 #[.func (.yield l) #[] #[],.pointer (some ⟨B2,0,none⟩),.pointer (some ⟨B1,0,none⟩)] W λe W'=>(∃ v,e=.returned v) /\
   ((∃ xs,xs=all/\J xs W')\/(∃ pre,pre <+: all/\Jx pre W')):=by
 obtain⟨A',n',c',rfl⟩:=hvb;have hro:Fence.wide.round=none:=rfl;refine callsIn_of_wp func217 rfl trivial ?_ hro;simp only[ntmps217,ucq,uda,udm,Nat.reduceAdd,Nat.reduceSub,ubn,ubo,ucy,ubx,udn,uc5];have r0:=hat W (cU.refl _ _ _ _);have c10:W.cell? ⟨B1,0,none⟩=some (.slice A at_.length c):=cn r0.b1 0;have c11:W.cell? ⟨B1,1,none⟩=some (.slice A' n' c'):=cn r0.b1 1;have c20:W.cell? ⟨B2,0,none⟩=some (.int .i64 e0):=cn r0.b2 0;have c21:W.cell? ⟨B2,1,none⟩=some (.int .i64 e1):=cn r0.b2 1;have hlen':=hlen
 gi_wp2
 gi_loopw [4,12] (λu i wr=>∃ (k:Nat) (cur:Int) (pre:List α),k<=at_.length/\i=.int .i64 k/\u=.int .i64 cur/\(-9223372036854775808<=cur/\cur<=9223372036854775807)/\pi g f e1 at_ all k cur pre/\J pre wr/\cU n₀ B1 B2 W wr)
  (λ_ i _=>at_.length-(intOf i).toNat)
 case atStart=>exact⟨0,e0,[],ufj _,rfl,rfl,he0,⟨List.nil_prefix,hall.symm⟩,h0,cU.refl _ _ _ _⟩
 case round=>
  obtain⟨k,cur,pre,hk,rfl,rfl,hcur,hrel,hJs,hkp⟩:=hrel;clear c10 c11 c20 c21 r0;have rr:=hat _ hkp;have c10:wr.cell? ⟨B1,0,none⟩=some (.slice A at_.length c):=cn rr.b1 0;have c11:wr.cell? ⟨B1,1,none⟩=some (.slice A' n' c'):=cn rr.b1 1;have c21:wr.cell? ⟨B2,1,none⟩=some (.int .i64 e1):=cn rr.b2 1;by_cases hlt:k<at_.length
  ·obtain⟨b,off,rfl,hb,hcx⟩:=rr.cells (by omega);obtain⟨d,hd⟩:∃ d,at_[k]?= some d:=⟨_,uaq hlt⟩;obtain⟨hcd,hdr⟩:=hcx k d hd;clear hcx;have hb1:B1<wr.heap.size:=(uaf.1 rr.b1).1;have hb2:B2<wr.heap.size:=(uaf.1 rr.b2).1;have hn1:n₀<=wr.heap.size:=ueq hn0 hkp.1.size;by_cases t1:d<=cur
   ·have ht1:decide (d<=cur)=true:=by simpa using t1
    have hn:=hrel.skip hd (.inl t1)
    gi_wp2
    exact⟨⟨k+1,cur,pre,by omega,by simp,rfl,hcur,hn,hJs,hkp⟩,by simp[intOf];omega⟩
   ·have ht1:decide (d<=cur)=false:=by simpa using t1
    by_cases t2:e1<=d
    ·have ht2:decide (d>=e1)=true:=by simpa using t2
     have hn:=hrel.skip hd (.inr t2)
     gi_wp2
     exact⟨⟨k+1,cur,pre,by omega,by simp,rfl,hcur,hn,hJs,hkp⟩,by simp[intOf];omega⟩
    ·have ht2:decide (d>=e1)=false:=by simpa using t2
     obtain⟨x,hgx,hst,hln⟩:=hrel.step hd (by omega)
     gi_wp2
     refine⟨uT,?_⟩;refine(callsIn_wide.2 (rr.vals cur hcur.1 hcur.2)).mono ?_;rintro e w1 ⟨rfl,hbel⟩;have hk1:=hkp.trans (cU.below hbel hn1 hb1 hb2);obtain⟨fn,tmps,assign,body,hy,hR⟩:=hY pre x w1 (Ee hJ hJs hbel) hln;rw[hgx]at hy
     gi_wp2
     refine hR.mono ?_;rintro e W3 (⟨rfl,hJ3,hk3⟩|⟨rfl,hJx3⟩)
     ·gi_wp2
      go_roundw
      case rel=>exact⟨k+1,d,pre++[x],by omega,by simp,rfl,hdr,hst,hJ3,hk1.trans hk3⟩
      case measure=>simp[intOf];omega
     ·gi_wp2
      refine ue4 (ue5 rfl _ _ _) rfl ?_;exact⟨⟨_,rfl⟩,.inr ⟨_,hst.1,hJx3⟩⟩
  ·obtain rfl:k=at_.length:=by omega
   obtain⟨x,hgx,hl,hln⟩:=hrel.last (ufd _);have hb1:B1<wr.heap.size:=(uaf.1 rr.b1).1;have hb2:B2<wr.heap.size:=(uaf.1 rr.b2).1;have hn1:n₀<=wr.heap.size:=ueq hn0 hkp.1.size;have hmx:prog.follows .mixedOrders=true:=by kernel_rfl
   have hkd:cU n₀ B1 B2 W wr.drew:=hkp.trans ⟨⟨rfl,rfl,rfl,ufd _,λ_ _=>rfl⟩,rfl,rfl⟩;have rd:=hat _ hkd;have hJd:J pre wr.drew:=Ee hJ hJs ⟨rfl,rfl,rfl,ufd _,λ_ _=>rfl⟩
   gi_wp2
   gi_region_with_o (first
    |(refine⟨uT,?_⟩;gi_at_call 218;refine(callsIn_wide.2 (rd.vals cur hcur.1 hcur.2)).mono ?_;rintro e w1 ⟨rfl,hbel⟩;have d21:w1.cell? ⟨B2,1,none⟩=some (.int .i64 e1):=cn (hat _ (hkd.trans (cU.below hbel hn1 hb1 hb2))).b2 1;obtain⟨fn,tmps,assign,body,hy,hR⟩:=hY pre x w1 (Ee hJ hJd hbel) hln;rw[hgx]at hy)
    |(refine(hR.mono (R':=λe W'=>∃ bv,e=.returned (.bool bv)/\(if bv=true then J (pre++[x]) W' else Jx (pre++[x]) W')) (λe W' h=>h.elim (λh=>⟨true,h.1,h.2.1⟩) (λh=>⟨false,h.1,h.2⟩))).mono ?_;rintro e W3 ⟨bv,rfl,hJ3⟩))
   all_goals go_end0
   all_goals (refine⟨⟨_,rfl⟩,?_⟩;cases bv;exact .inr ⟨_,⟨[],by rw[uds];exact hl⟩,hJ3⟩;exact .inl ⟨_,hl,hJ3⟩)
def Yg{v:Int}:kO v=Z ↔ -4000000000000000000<=v/\v<=4000000000000000000:=by simp[kO]
def OU:{l r:List Int} -> {d v:Int}->iN l r d v=Z->l.length=r.length->l.Pairwise (· < ·)/\(∀ x∈l,d<x/\x<=292194)/\∀ y∈r,kO y=Z
 |[],[],_,_,_,_=>⟨List.Pairwise.nil,by simp,by simp⟩
 |[],_::_,_,_,_,e=>by simp at e
 |_::_,[],_,_,_,e=>by simp at e
 |a::l,b::r,d,v,h,e=>by
  simp only[iN,udd,ucu]at h;obtain⟨⟨i,k,s,m⟩,n⟩:=h;obtain⟨o,g,p⟩:=OU n (by simpa using e);refine⟨uca.2 ⟨λx c=>(g x c).1,o⟩,λx c=>?_,λy f=>?_⟩;rcases uej.1 c with rfl|c
  exact⟨i,k⟩;exact⟨ue3 i (g x c).1,(g x c).2⟩;rcases uej.1 f with rfl|f
  exact m;exact p y f
def OR{f:bG.q}(h:my f=Z):f.1.length=f.2.1.length/\f.1.Pairwise (· < ·)/\(∀ x∈f.1,0<x/\x<=292194)/\∀ y∈f.2.1,-4000000000000000000<=y/\y<=4000000000000000000:=by simp only[my,udd,ucu]at h;obtain⟨a,b,c⟩:=OU h.2 h.1;exact⟨h.1,a,b,λy d=>Yg.1 (c y d)⟩
def qds{f:bG.q}(h:∀ y∈f.2.1,-4000000000000000000<=y/\y<=4000000000000000000)(d:Int): -4000000000000000000<=eG f d/\eG f d<=4000000000000000000:=by
 unfold eG;split;omega;rename_i k _;rw[uah];cases a:f.2.1[k]? with
 |none=>simp
 |some y=>have:=h y (ubg a);simpa using this
def sZ(x:Int×Int×Int):Prop:=1<=x.1/\x.1<x.2.1/\x.2.1<=292195 /\ -4000000000000000000<=x.2.2/\x.2.2<=4000000000000000000
def GX{f:bG.q}(h:∀ y∈f.2.1,-4000000000000000000<=y/\y<=4000000000000000000){e:Int}(i:e<=292195):(l:List Int)->(a:Int)->1<=a->a<e->∀ x∈gq f e l a,sZ x
 |[],a,c,g,x,b=>by simp only[gq,ucf]at b;subst b;exact⟨c,g,i,qds h a⟩
 |d::l,a,c,g,x,b=>by
  unfold gq at b;split at b;exact GX h i l a c g x b;rename_i k;rcases uej.1 b with rfl|b
  exact⟨c,by show a<d;omega,by show d<=292195;omega,qds h a⟩;exact GX h i l d (by omega) (by omega) x b
abbrev lK:Type:={ x:Int×Int×Int // sZ x }
def lC(q:Int×Int)(x:Int×Int×Int):Option (Int×Int):=
 if max x.2.2 (-x.2.2)>(4000000000000000000-q.2)/(x.2.1-x.1)then V else U (q.1+(x.2.1-x.1)*x.2.2,q.2+(x.2.1-x.1)*max x.2.2 (-x.2.2))
def fN:List (Int×Int×Int)->Int×Int->Option (Int×Int)
 |[],q=>U q
 |x::l,q=>(lC q x).bind (fN l)
def qb1(l m:List (Int×Int×Int))(q:Int×Int):fN (l++m) q=(fN l q).bind (fN m):=by
 induction l generalizing q with
 |nil=>rfl
 |cons x l a=>
  simp only[uc5,fN];cases lC q x with
  |none=>rfl
  |some b=>exact a b
def Ap(q:Int×Int):Prop:=0<=q.2/\q.2<=4000000000000000000 /\ -q.2<=q.1/\q.1<=q.2
def qb4{q d:Int×Int}{x:Int×Int×Int}(m:sZ x)(h:lC q x=U d)(l:Ap q):Ap d/\(x.2.1-x.1)*max x.2.2 (-x.2.2)<=4000000000000000000-q.2/\0<=(x.2.1-x.1)*max x.2.2 (-x.2.2) /\ -((x.2.1-x.1)*max x.2.2 (-x.2.2))<=(x.2.1-x.1)*x.2.2/\(x.2.1-x.1)*x.2.2<=(x.2.1-x.1)*max x.2.2 (-x.2.2):=by
 obtain⟨u,w,y,z,A⟩:=m;obtain⟨a,b,v⟩:=x;obtain⟨s,t⟩:=q;obtain⟨n,o,p,r⟩:=l;unfold lC at h;split at h;cases h;rename_i B;cases h;simp only at *;have k:0<b-a:=by omega
 have c:max v (-v)<=(4000000000000000000-t)/(b-a):=by omega
 have e:(b-a)*max v (-v)<=4000000000000000000-t:=by have:=(Int.le_ediv_iff_mul_le k).1 c;rw[ue2];exact this
 have f:0<=(b-a)*max v (-v):=uec (by omega) (by omega);have g:(b-a)*v<=(b-a)*max v (-v):=Int.mul_le_mul_of_nonneg_left (by omega) (by omega);have i : -((b-a)*max v (-v))<=(b-a)*v:=by rw[<- Int.mul_neg];exact Int.mul_le_mul_of_nonneg_left (by omega) (by omega)
 refine⟨⟨?_,?_,?_,?_⟩,e,f,i,g⟩<;>simp only<;>omega
def fP(f:bG.q)(s:cK.q):Int×Int:=
 if my f=Z/\fp s=Z then match fN (gq f s.2.1 f.1 s.1) (0,0)with
  |some q=>(q.1,0)
  |none=>(0,5)
 else (0,1)
def EB:Ct:=⟨[.d bG,.d cK],[i64,i64],λx=>((fP x.1 x.2.1).1,(fP x.1 x.2.1).2,()),λ_=>[]⟩
def zjl(n:Nat)(A a:Option Addr)(g b h c:Nat)(d f:Int)(w:World):
  CallsIn Fence.wide n prog 198 #[.agg #[.slice A g b,.slice a h c],.agg #[.int .i64 d,.int .i64 f]] w λe w'=>
   e=.returned (.func (.func 217) #[] #[.pointer (U ⟨w.heap.size+1,0,V⟩),.pointer (U ⟨w.heap.size,0,V⟩)]) /\
   w'=(w.alloc (.cells #[.slice A g b,.slice a h c] 219)).alloc (.cells #[.int .i64 d,.int .i64 f] 31):=by
 refine callsIn_of_wp func198 rfl trivial ?_ rfl;simp only[ntmps198,ucq,uda,udm,Nat.reduceAdd,Nat.reduceSub,ubn,ubo,ucy,ubx,udn,uc5]
 gi_wp2
 go_ret
 exact⟨rfl,rfl⟩
def JE{ps:List PT}{g:ap ps->Bool}{ok:ap ps->List Prop}(h:ag prog f ⟨ps,[.bool],λx=>(g x,()),ok⟩){xs:ap ps}(l:∀ b,F b->b<w.heap.size)(m:dm prog w F ps xs vs)(c:az (ok xs)):
  Calls prog f vs.toArray w λe w'=>e=.returned (.bool (g xs))/\Below w.heap.size w w':=by
 refine(h.2 w F xs vs l m c).mono ?_;rintro e w' ⟨v,k,rfl,a,_,_,n⟩;have d:aK prog w' k (λ_ _=>True) (eR .bool (g xs)) v:=iH n;have i:=d.2;exact⟨by rw[i],a⟩
structure Four (W:World) (z:Nat) (va vb x0 x1 x4 x5:Value):Prop where
 b0:W.heap[z]?= some (.cells #[va,vb] 219 (0,0))
 b1:W.heap[z+1]?= some (.cells #[x0,x1] 31 (0,0))
 b2:Boxed W (z+1+1) 3 x4
 b3:Boxed W (z+1+1+1) 47 x5
def Four.below{z:Nat}{b c d e f g:Value}(h:Four W z b c d e f g)(a:Below m W W')(i:z+3<m):Four W' z b c d e f g:=
 ⟨(a.block _ (by omega)).trans h.b0,(a.block _ (by omega)).trans h.b1,(a.block _ (by omega)).trans h.b2,(a.block _ (by omega)).trans h.b3⟩
def Four.cells{z:Nat}{a b c d e f:Value}(h:Four W z a b c d e f):
  W.cell? ⟨z,0,V⟩=U a/\W.cell? ⟨z,1,V⟩=U b/\W.cell? ⟨z+1,0,V⟩=U c/\W.cell? ⟨z+1,1,V⟩=U d /\
   W.cell? ⟨z+1+1,0,V⟩=U e/\W.frozen? ⟨z+1+1,0,V⟩=Y/\W.cell? ⟨z+1+1+1,0,V⟩=U f/\W.frozen? ⟨z+1+1+1,0,V⟩=false:=
 ⟨cn h.b0 0,cn h.b0 1,cn h.b1 0,cn h.b1 1,h.b2.cell,h.b2.frozen,h.b3.cell,h.b3.frozen⟩
def zpa (f:bG.q) (A l:Option Addr) (r n s o:Nat) (d g:Int) (w:World)
  (t:∀ W,Below w.heap.size w W->Calls prog 196 #[.agg #[.slice A r n,.slice l s o]] W λe w'=>e=.returned (.bool (my f))/\Below W.heap.size W w')
  (z:∀ W,Calls prog 197 #[.agg #[.int .i64 d,.int .i64 g]] W λe w'=>e=.returned (.bool (fp (d,g,())))/\Below W.heap.size W w')
  (p:¬ (my f=Z/\fp (d,g,())=Z)) :
  CallsIn Fence.wide 8 prog 148 #[.agg #[.slice A r n,.slice l s o],.agg #[.int .i64 d,.int .i64 g]] w λe w'=>e=.returned (.tuple #[.int .i64 0,.int .i64 1])/\Below w.heap.size w w':=by
 refine callsIn_of_wp func148 rfl trivial ?_ rfl;simp only[ntmps148,ucq,uda,udm,Nat.reduceAdd,Nat.reduceSub,ubn,ubo,ucy,ubx,udn,uc5];generalize C:my f=x at *;generalize c:fp (d,g,())=y at *;obtain⟨a,k,h⟩:=wB [.cells #[.slice A r n,.slice l s o] 219,.cells #[.int .i64 d,.int .i64 g] 31,.cells #[.int .i64 0] 3,.cells #[.int .i64 0] 47] w;simp only[mG]at a k h;have B:Four _ w.heap.size _ _ _ _ _ _:=⟨h 0 _ rfl,h 1 _ rfl,h 2 _ rfl,h 3 _ rfl⟩;have k:=Nat.lt_of_lt_of_eq (Nat.lt_succ_self (w.heap.size+3)) k.symm;have m:=Lib.hid B;have i:=Lib.hid k;clear h;cases x
 ·gi_wp2_with (refine⟨uT,?_⟩;gi_at_call 196;refine(callsIn_wide.2 (t _ a)).mono ?_;rintro e N ⟨rfl,b⟩;obtain⟨D,E,F,G,u,H,v,K⟩:=(m.out.below b i.out).cells)
  refine⟨uT,?_⟩
  gi_wp2
  refine ue4 (by simp[results,results148,go_sem,u,v]) rfl ⟨rfl,?_⟩;exact(((a.trans (b.mono (by simp;omega))).setCell (by simp;omega) _).setCell (by simp;omega) _)
 ·cases y
  ·gi_wp2_with (first|(refine⟨uT,?_⟩;gi_at_call 196;refine(callsIn_wide.2 (t _ a)).mono ?_;rintro e N ⟨rfl,b⟩;obtain⟨D,E,F,G,u,H,v,K⟩:=(m.out.below b i.out).cells)|(refine⟨uT,?_⟩;gi_at_call 197;refine(callsIn_wide.2 (z _)).mono ?_;rintro e w2 ⟨rfl,c⟩;obtain⟨O,P,Q,R,L,S,M,T⟩:=((m.out.below b i.out).below c (ucb i.out b.size)).cells))
   refine ue4 (by simp[results,results148,go_sem,L,M]) rfl ⟨rfl,?_⟩;exact((((a.trans (b.mono (by simp;omega))).trans (c.mono (ueq (a.trans (b.mono (by simp;omega))).size (ufd _)))).setCell (by simp;omega) _).setCell (by simp;omega) _)
  exact absurd ⟨rfl,rfl⟩ p
def zjm(m:Nat)(Q:1<=m)(f:bG.q)(A s:Option Addr)(t D u:Nat)(h v:Int)(all:List lK)(n:all.map Subtype.val=gq f v f.1 h)(r:f.1.length<=9223372036854775807)(B : -9223372036854775808<=h/\h<=9223372036854775807)(w:World)(e g:Nat)(d:World)(G:Below w.heap.size w d)(o:d.heap[e]?= U (.cells #[.slice A f.1.length t,.slice s D u] 219 (0,0)))(p:d.heap[g]?= U (.cells #[.int .i64 h,.int .i64 v] 31 (0,0)))(a:∀ W,Below w.heap.size w W->0<f.1.length->∃ b off,A=U ⟨b,off,V⟩/\b<w.heap.size/\∀ (i:Nat) (x:Int),f.1[i]?= U x->W.cell? ⟨b,off+i,V⟩=U (.int .i64 x) /\ -9223372036854775808<=x/\x<=9223372036854775807)(c:∀ W,Below w.heap.size w W->Ea f (.agg #[.slice A f.1.length t,.slice s D u]) W):
  SeqStopsK Fence.wide m prog 217 #[.pointer (U ⟨g,0,V⟩),.pointer (U ⟨e,0,V⟩)] (λx:lK=>Zv x.1) (cU w.heap.size e g) (λxs=>xs=all) (λE=>E <+: all) all.length d:=λl R K W z N O P y=>by
 have L:e<d.heap.size:=(uaf.1 o).1;have M:g<d.heap.size:=(uaf.1 p).1;have H:Below w.heap.size w W:=G.trans (z.mono G.size);refine zjk Subtype.val all m Q l e g w.heap.size A t f.1 (.slice s D u) ⟨_,_,_,rfl⟩ h v f r B n R K W N H.size P (λF C=>?_) y;have k:=H.trans C.1;exact⟨C.2.1.trans ((z.block _ L).trans o),C.2.2.trans ((z.block _ M).trans p),a F k,c F k⟩
def qj2(o:Option (Int×Int))(e:Ending):Prop:=match o with
 |some q=>e=.returned (.tuple #[.int .i64 q.1,.int .i64 0])
 |none=>e=.returned (.tuple #[.int .i64 0,.int .i64 5])
structure SumI (w:World) (z0 b4 b5 b6 b7:Nat) (pre:List lK) (W:World) (q:Int×Int):Prop where
 sum:fN (pre.map Subtype.val) (0,0)=some q
 inv:Ap q
 x6:Boxed W b6 3 (.int .i64 q.1)
 x7:Boxed W b7 3 (.int .i64 q.2)
 x4:Boxed W b4 3 (.int .i64 0)
 x5:Boxed W b5 47 (.int .i64 0)
 bel:Below w.heap.size w W
 sz:z0<=W.heap.size
structure SumX (w:World) (b4 b5:Nat) (c:Code) (pre:List lK) (W:World):Prop where
 ret:c=.ret
 sum:fN (pre.map Subtype.val) (0,0)=none
 x4:Boxed W b4 3 (.int .i64 0)
 x5:Boxed W b5 47 (.int .i64 5)
 bel:Below w.heap.size w W
def ku{X f:World}{a:Option Nat}(h:Boxed X b t v)(c:X.grownBy f a)(d:∀ r,a=U r->B<=r/\∃ o:Obj,X.heap[r]?= U o/\o.isCells=Y):Boxed f b t v:=
 boxed_own b t (λ(_:Unit)=>v) () X f a h c (λr e=>(d r e).2)
def zo3{o d f g i:Nat}(l:w.heap.size<=B):OwnFrom B (λc W=>∃ q,SumI w o d f g i c W q):=λc X p n m a b=>by obtain⟨q,h⟩:=m;exact⟨q,h.sum,h.inv,ku h.x6 a b,ku h.x7 a b,ku h.x4 a b,ku h.x5 a b,h.bel.grown a h.bel.size (λk e=>ueq l (b k e).1),ueq h.sz a.size⟩
def zo8{f g:Nat}(i:w.heap.size<=B)(c:Code):OwnFrom B (λa W=>SumX w f g c a W):=λa X m l h b d=>⟨h.ret,h.sum,ku h.x4 b d,ku h.x5 b d,h.bel.grown b h.bel.size (λk e=>ueq i (d k e).1)⟩
def RO(d:Nat)(a:Int×Int×Int->Nat->Act)(x:lK)(c:Act)(W:World):Prop:=∃ b,d<=b/\W.heap[b]?= U (.cells #[.int .i64 x.1.1,.int .i64 x.1.2.1] 31 (0,0))/\c=a x.1 b
def zo2{p:Nat}{a:Int×Int×Int->Nat->Act}(x:lK)(f:Act):OwnFrom B (λ(_:Unit) W=>RO p a x f W):=λ_ X r n m k l=>by obtain⟨b,g,c,h⟩:=m;refine⟨b,g,(k.block b (uaf.1 c).1 (λe=>?_)).trans c,h⟩;obtain⟨_,o,d,i⟩:=l b e.symm;rw[c]at d;cases d;cases i
def XY(v:Int):max v (-v)=if v < -v then -v else v:=by split<;>omega
def qb6{a:List lK}{q:Int×Int}(h:fN (a.map Subtype.val) (0,0)=U q)(x:lK):fN ((a++[x]).map Subtype.val) (0,0)=lC q x.1:=by rw[udx,qb1,h];show(lC q x.1).bind (fN [])=_;cases lC q x.1<;>rfl
def HE(W:World){k:Nat}(v:Value)(h:k≠b):(W.setCell ⟨b,0,V⟩ v).heap[k]?= W.heap[k]? := by by_cases a:k<W.heap.size;exact(grownBy_setCell' W b v).block k a (λe=>h (by cases e;rfl));rw[ua1 (by rw[ucg];omega),ua1 (by omega)]
def qb0{p b c i k:Nat}{e:List lK}{s g h v:Int}(f:SumI w p b c i k e W (s,a))(o:sZ (g,h,v))(n:(4000000000000000000-a)/(h-g)<if v < -v then -v else v)(d:b≠c)(l:w.heap.size<=b)(m:w.heap.size<=c):
  SumX w b c .ret (e++[⟨(g,h,v),o⟩]) ((W.setCell ⟨b,0,V⟩ (.int .i64 0)).setCell ⟨c,0,V⟩ (.int .i64 5)):=by
 refine⟨rfl,?_,(f.x4.set _).other d _,(f.x5.other (Ne.symm d) _).set _,(f.bel.setCell l _).setCell m _⟩;rw[qb6 f.sum];unfold lC;rw[uf0];rw[XY];exact n
def qbz{y k l e f:Nat}{i:List lK}{s b c v m:Int}(d:SumI w y k l e f i W (s,a))(x:sZ (b,c,v))(O:(if v < -v then -v else v)<=(4000000000000000000-a)/(c-b))(D:m=if v < -v then -v else v)(n:k≠e)(o:k≠f)(p:l≠e)(r:l≠f)(g:e≠f)(B:w.heap.size<=e)(C:w.heap.size<=f):
  SumI w y k l e f (i++[⟨(b,c,v),x⟩]) ((W.setCell ⟨e,0,V⟩ (.int .i64 (wrap64 (s+wrap64 ((c-b)*v))))).setCell ⟨f,0,V⟩ (.int .i64 (wrap64 (a+wrap64 ((c-b)*m))))) (s+(c-b)*v,a+(c-b)*max v (-v)):=by
 have u:lC (s,a) (b,c,v)=U (s+(c-b)*v,a+(c-b)*max v (-v)):=by unfold lC;rw[uf1];show ¬ max v (-v)>(4000000000000000000-a)/(c-b);omega
 have t:m=max v (-v):=by rw[XY];exact D
 obtain⟨h,K,L,M,N⟩:=qb4 x u d.inv;obtain⟨E,F,G,H⟩:=d.inv;simp only at K L M N E F G H;subst t;have z:wrap64 (s+wrap64 ((c-b)*v))=s+(c-b)*v:=by rw[IntWalk.wrap64_in ((c-b)*v) (by omega),IntWalk.wrap64_in _ (by omega)]
 have A:wrap64 (a+wrap64 ((c-b)*max v (-v)))=a+(c-b)*max v (-v):=by rw[IntWalk.wrap64_in ((c-b)*max v (-v)) (by omega),IntWalk.wrap64_in _ (by omega)]
 rw[z,A];exact⟨by rw[qb6 d.sum];exact u,h,(d.x6.set _).other g _,(d.x7.other (Ne.symm g) _).set _,(d.x4.other n _).other o _,(d.x5.other p _).other r _,
  (d.bel.setCell B _).setCell C _,by rw[ucg,ucg];exact d.sz⟩
def Xt{a d e:Nat}(W:World)(u v:Value)(k:a<=b)(l:a<=c)(f:d≠b)(g:d≠c)(h:e≠b)(i:e≠c):cU a d e W ((W.setCell ⟨b,0,V⟩ u).setCell ⟨c,0,V⟩ v):=
 ⟨((ufn a W).setCell k _).setCell l _,(HE _ _ g).trans (HE _ _ f),(HE _ _ i).trans (HE _ _ h)⟩
def zpc(f:bG.q)(A z:Option Addr)(F Q G:Nat)(u H:Int)(w:World)(hR:∀ W,Below w.heap.size w W->Calls prog 196 #[.agg #[.slice A f.1.length F,.slice z Q G]] W λe w'=>e=.returned (.bool Z)/\Below W.heap.size W w')(hF:∀ W,Calls prog 197 #[.agg #[.int .i64 u,.int .i64 H]] W λe w'=>e=.returned (.bool Z)/\Below W.heap.size W w')(all:List lK)(hall:all.map Subtype.val=gq f H f.1 u)(hlen:f.1.length<=9223372036854775807)(he0 : -9223372036854775808<=u/\u<=9223372036854775807)(P:∀ W,Below w.heap.size w W->0<f.1.length->∃ b off,A=U ⟨b,off,V⟩/\b<w.heap.size/\∀ (i:Nat) (x:Int),f.1[i]?= U x->W.cell? ⟨b,off+i,V⟩=U (.int .i64 x) /\ -9223372036854775808<=x/\x<=9223372036854775807)(hvals:∀ W,Below w.heap.size w W->Ea f (.agg #[.slice A f.1.length F,.slice z Q G]) W):
  CallsIn Fence.wide 8 prog 148 #[.agg #[.slice A f.1.length F,.slice z Q G],.agg #[.int .i64 u,.int .i64 H]] w λe w'=>qj2 (fN (all.map Subtype.val) (0,0)) e/\Below w.heap.size w w':=by
 refine callsIn_of_wp_marks func148 rfl trivial ?_ rfl;simp only[ntmps148,ucq,uda,udm,Nat.reduceAdd,Nat.reduceSub,ubn,ubo,ucy,ubx,udn,uc5];obtain⟨M,hz,t⟩:=wB [.cells #[.slice A f.1.length F,.slice z Q G] 219,.cells #[.int .i64 u,.int .i64 H] 31,.cells #[.int .i64 0] 3,.cells #[.int .i64 0] 47] w;simp only[mG]at M hz t;have hS:Four _ w.heap.size _ _ _ _ _ _:=⟨t 0 _ rfl,t 1 _ rfl,t 2 _ rfl,t 3 _ rfl⟩;have hz:=Nat.lt_of_lt_of_eq (Nat.lt_succ_self (w.heap.size+3)) hz.symm;have HS:=Lib.hid hS;have HZ:=Lib.hid hz;clear hS hz t
 gi_wp2_with (first|(refine⟨uT,?_⟩;gi_at_call 196;refine(callsIn_wide.2 (hR _ M)).mono ?_;rintro e w1 ⟨rfl,hb⟩;obtain⟨k0,k1,k2,k3,k4,k5,k6,k7⟩:=(HS.out.below hb HZ.out).cells)|(refine⟨uT,?_⟩;gi_at_call 197;refine(callsIn_wide.2 (hF _)).mono ?_;rintro e g ⟨rfl,O⟩;have B:=Lib.hid ((HS.out.below hb HZ.out).below O (ucb HZ.out hb.size));have C:=Lib.hid (ucb (ucb HZ.out hb.size) O.size);have HW3:=Lib.hid (B.out.below (((ufn g.heap.size g).alloc (ufd _) (.cells #[.int .i64 0] 3)).alloc (by simp) (.cells #[.int .i64 0] 3)) C.out);obtain⟨m0,m1,m2,m3,m4,m5,m6,m7⟩:=B.out.cells;obtain⟨n0,n1,n2,n3,n4,n5,n6,n7⟩:=HW3.out.cells)|(refine⟨uT,?_⟩;gi_at_call 198;refine(zjl _ _ _ _ _ _ _ _ _ _).mono ?_;rintro e w3 ⟨rfl,rfl⟩))
 obtain⟨z2,hz2⟩:∃ z2,g.heap.size=z2:=⟨_,rfl⟩;have m:Below w.heap.size w g:=(M.trans (hb.mono (by simp;omega))).trans (O.mono (ueq (by simp;omega) hb.size))
 let L:List Obj:=[.cells #[.int .i64 0] 3,.cells #[.int .i64 0] 3,.cells #[.slice A f.1.length F,.slice z Q G] 219,.cells #[.int .i64 u,.int .i64 H] 31]
 obtain⟨hbW,hsz,t⟩:=wB L g;have hW4:=B.out.below hbW C.out;have hzz:=C.out;show Code.wpIn _ _ _ _ _ _ (mG g L);generalize mG g L=W0 at *;replace hsz:W0.heap.size=g.heap.size+4:=hsz;have r0:=t 0 _ rfl;have r1:=t 1 _ rfl;have r2:=t 2 _ rfl;have q3:=t 3 _ rfl;clear t;clear HW3 B C HS HZ M m0 m1 m2 m3 m4 m5 m6 m7 n0 n1 n2 n3 n4 n5 n6 n7 k0 k1 k2 k3 k4 k5 k6 k7;have y:Below w.heap.size w W0:=m.trans (hbW.mono m.size);clear hbW hb O hz2 m hR hF;have hzw:w.heap.size+3<W0.heap.size:=by omega
 have hsz':g.heap.size+4<=W0.heap.size:=by omega
 clear hsz;refine wpIn_rangeFunc_ownH rfl (by omega) (gf:=217) (lb:=#[.pointer (U ⟨g.heap.size+1+1+1,0,V⟩),.pointer (U ⟨g.heap.size+1+1,0,V⟩)]) rfl trivial (enters_of func217 (by kernel_rfl) rfl)
  (zjm 7 (by omega) f A z F Q G u H all hall hlen he0 w (g.heap.size+1+1) (g.heap.size+1+1+1) W0 y r2 q3 P hvals)
  (λh k=>h.trans k) (λW l o o' hl ho hoc how=>⟨belowK_b (w:=w) (ufd _) W l o o' (by omega) ho hoc how,World.putObj_heap_other (by omega),World.putObj_heap_other (by omega)⟩) (ufn _ _) (λ_=>rfl)
  (λn W=>∃ q,SumI w W0.heap.size (w.heap.size+1+1) (w.heap.size+1+1+1) g.heap.size (g.heap.size+1) n W q)
  (λc n W=>SumX w (w.heap.size+1+1) (w.heap.size+1+1+1) c n W)
  (zo3 (by omega)) (zo8 (by omega)) ⟨(0,0),rfl,⟨by decide,by decide,by decide,by decide⟩,r0,r1,hW4.b2,hW4.b3,y,ufd _⟩
  (RO W0.heap.size (λx Bx=>{ tmps:=#[.agg #[.slice A f.1.length F,.slice z Q G],.agg #[.int .i64 u,.int .i64 H],.pointer (U ⟨w.heap.size,0,V⟩),.pointer (U ⟨w.heap.size+1,0,V⟩),.pointer (U ⟨w.heap.size+1+1,0,V⟩),.pointer (U ⟨w.heap.size+1+1+1,0,V⟩),.pointer (U ⟨g.heap.size,0,V⟩),.pointer (U ⟨g.heap.size+1,0,V⟩),.pointer (U ⟨Bx,0,V⟩),.int .i64 x.2.2,undef,undef,
   .agg #[.slice A f.1.length F,.slice z Q G],.bool Z,.bool Y,.bool Y,.agg #[.int .i64 u,.int .i64 H],.bool Z,.bool Y,.bool Y,.agg #[.slice A f.1.length F,.slice z Q G],.agg #[.int .i64 u,.int .i64 H],.func (.func 217) #[] #[.pointer (U ⟨g.heap.size+1+1+1,0,V⟩),.pointer (U ⟨g.heap.size+1+1,0,V⟩)],
   .agg #[.int .i64 x.1,.int .i64 x.2.1],.int .i64 x.2.2,undef,undef,undef,undef,undef,undef,undef,undef,undef,undef,undef,undef,undef,undef,undef,undef,undef,undef,undef,undef,undef,undef,undef,undef,undef,undef],defers:=[] }))
  zo2 ?assign ?body ?done ?stop
 case assign=>
  rintro l n x W K ⟨q,d⟩ T;obtain⟨⟨R,S,v⟩,hx⟩:=x
  gi_wp2
  have hsz1:=d.sz;exact T _ _ ((KeepsOthers.alloc _ _).from _) (cU.below ((ufn _ W).alloc (ufd _) _) d.bel.size (by omega) (by omega))
   ⟨q,d.sum,d.inv,d.x6.alloc _,d.x7.alloc _,d.x4.alloc _,d.x5.alloc _,d.bel.alloc d.bel.size _,by simp;omega⟩ ⟨W.heap.size,hsz1,World.alloc_heap_new W _,rfl⟩
 case body=>
  rintro l n x a' W hl ⟨r,hr⟩ ⟨q,d⟩ ⟨Bx,hBx,bX,rfl⟩ hlt;obtain⟨⟨R,S,v⟩,hx⟩:=x;obtain⟨s,a⟩:=q;have hx':1<=R/\R<S/\S<=292195 /\ -4000000000000000000<=v/\v<=4000000000000000000:=hx;obtain⟨y1,y2,y3,y4,y5⟩:=hx';have hinv:0<=a/\a<=4000000000000000000 /\ -a<=s/\s<=a:=d.inv;obtain⟨i1,i2,i3,i4⟩:=hinv;have E:W.heap[Bx]?= U (.cells #[.int .i64 R,.int .i64 S] 31 (0,0)):=bX;have cX0:W.cell? ⟨Bx,0,V⟩=U (.int .i64 R):=cn E 0;have cX1:W.cell? ⟨Bx,1,V⟩=U (.int .i64 S):=cn E 1;have c6:W.cell? ⟨g.heap.size,0,V⟩=U (.int .i64 s):=d.x6.cell;have c7:W.cell? ⟨g.heap.size+1,0,V⟩=U (.int .i64 a):=d.x7.cell;have f6:=d.x6.frozen;have f7:=d.x7.frozen;have c4:=d.x4.cell;have f4:=d.x4.frozen;have c5:=d.x5.cell;have f5:=d.x5.frozen;have HB:=Lib.hid E;clear bX E hr
  gi_wp2
  have hc:(4000000000000000000-a)/(S-R)<if v < -v then -v else v:=by assumption
  exact⟨((KeepsOthers.setCell _ _ _).trans (KeepsOthers.setCell _ _ _)).from _,qb0 d hx hc (by omega) (by omega) (by omega)⟩;have hc:(4000000000000000000-a)/(S-R)<if v < -v then -v else v:=by assumption
  exact⟨((KeepsOthers.setCell _ _ _).trans (KeepsOthers.setCell _ _ _)).from _,qb0 d hx hc (by omega) (by omega) (by omega)⟩;have hc:(if v < -v then -v else v)<=(4000000000000000000-a)/(S-R):=by assumption
  have hv:v < -v:=by assumption
  exact⟨((KeepsOthers.setCell _ _ _).trans (KeepsOthers.setCell _ _ _)).from _,Xt W _ _ (by omega) (by omega) (by omega) (by omega) (by omega) (by omega),_,_,
   qbz d hx hc (by rw[uf0 hv]) (by omega) (by omega) (by omega) (by omega) (by omega) (by omega) (by omega)⟩
  have hc:(if v < -v then -v else v)<=(4000000000000000000-a)/(S-R):=by assumption
  have hv:¬ v < -v:=by omega
  exact⟨((KeepsOthers.setCell _ _ _).trans (KeepsOthers.setCell _ _ _)).from _,Xt W _ _ (by omega) (by omega) (by omega) (by omega) (by omega) (by omega),_,_,
   qbz d hx hc (by rw[uf1 hv]) (by omega) (by omega) (by omega) (by omega) (by omega) (by omega) (by omega)⟩
 case done=>
  rintro D zs W hD rfl ⟨q,d⟩ T;have c6:=d.x6.cell;have c4:=d.x4.cell;have f4:=d.x4.frozen;have c5:=d.x5.cell;have f5:=d.x5.frozen
  gi_wp2
  have N:=((KeepsOthers.setCell W ⟨w.heap.size+1+1,0,V⟩ (.int .i64 q.1)).trans (KeepsOthers.setCell _ ⟨w.heap.size+1+1+1,0,V⟩ (.int .i64 0))).same D _ T rfl;have x4':=(d.x4.set (.int .i64 q.1)).other (B':=w.heap.size+1+1+1) (by omega) (.int .i64 0);have x5':=(d.x5.other (B':=w.heap.size+1+1) (by omega) (.int .i64 q.1)).set (.int .i64 0);have d4:=cell_kept x4'.cell (grownBy_putObj' _ D (.deferred V)) (λr e=>by cases e;exact⟨_,N,rfl⟩);have d5:=cell_kept x5'.cell (grownBy_putObj' _ D (.deferred V)) (λr e=>by cases e;exact⟨_,N,rfl⟩);have hbb:=(d.bel.setCell (p:=⟨w.heap.size+1+1,0,V⟩) (by show w.heap.size<=w.heap.size+1+1;omega) (.int .i64 q.1)).setCell (p:=⟨w.heap.size+1+1+1,0,V⟩) (by show w.heap.size<=w.heap.size+1+1+1;omega) (.int .i64 0);refine⟨by simp,.inl ⟨_,_,rfl,run_takeDeferred N,?_⟩⟩;refine⟨.tuple #[.int .i64 q.1,.int .i64 0],?_,?_,hbb.trans (belowK_b (w:=w) (ufd _) _ D _ _ (by omega) N rfl rfl)⟩
  ·simp[results,results148,go_sem,d4,d5]
  rw[d.sum];rfl
 case stop=>
  rintro D c n W hD ⟨r,rfl⟩ h T;obtain rfl:=h.ret;have c4:=h.x4.cell;have f4:=h.x4.frozen;have c5:=h.x5.cell;have f5:=h.x5.frozen
  gi_wp2
  have d4:=cell_kept h.x4.cell (grownBy_putObj' _ D (.deferred V)) (λr e=>by cases e;exact⟨_,T,rfl⟩);have d5:=cell_kept h.x5.cell (grownBy_putObj' _ D (.deferred V)) (λr e=>by cases e;exact⟨_,T,rfl⟩);refine⟨by simp,.inl ⟨_,_,rfl,run_takeDeferred T,?_⟩⟩;refine⟨.tuple #[.int .i64 0,.int .i64 5],?_,?_,h.bel.trans (belowK_b (w:=w) (ufd _) _ D _ _ (by omega) T rfl rfl)⟩
  ·simp[results,results148,go_sem,d4,d5]
  rw[udx,qb1,h.sum];rfl
end
def Sf{a b:Value}(f:cs.size=2)(c:cs[0]?= U a)(d:cs[1]?= U b):cs = #[a,b]:=by
 apply ufs;simp[f];intro i g h;have e:i<2:=by omega
 match i,e with
 |0,_=>have:=uaf.1 c;simpa using this.2
 |1,_=>have:=uaf.1 d;simpa using this.2
def zov{f:bG.q}(h:bJ w F bG f v):∃ a b,v=.agg #[a,b]/\aG w F aP f.1 (λ_ u=>u=a)/\aG w F aP f.2.1 (λ_ u=>u=b):=by
 obtain⟨d,rfl⟩:=h.2.1.1 rfl;have i:d.size=2:=h.1;refine⟨d[0]'(by omega),d[1]'(by omega),?_,?_,?_⟩;congr 1;exact Sf i (uam (by omega)) (uam (by omega));refine aG.mono (λ_ h=>h) (λ_ _=>rfl) ?_ h.2.2.1;intro j u e g;have:j=0:=by have:j<1:=e;omega
 subst this;have c:d[0]?= U u:=g;rw[uam (by omega)]at c;simpa using c.symm;refine aG.mono (λ_ h=>h) (λ_ _=>rfl) ?_ h.2.2.2.1;intro j u e g;have:j=0:=by have:j<1:=e;omega
 subst this;have c:d[1]?= U u:=g;rw[uam (by omega)]at c;simpa using c.symm
def zod{s:cK.q}(h:bJ w F cK s v):v=.agg #[.int .i64 s.1,.int .i64 s.2.1]/\(-9223372036854775808<=s.1/\s.1<=9223372036854775807) /\ -9223372036854775808<=s.2.1/\s.2.1<=9223372036854775807:=by obtain⟨a,rfl⟩:=h.2.1.1 rfl;have d:a.size=2:=h.1;have b:a[0]?= U (.int .i64 s.1):=h.2.2.1.1;have c:a[1]?= U (.int .i64 s.2.1):=h.2.2.2.1.1;exact⟨by rw[Sf d b c],h.2.2.1.2,h.2.2.2.1.2⟩
def PC:{l:List (Int×Int×Int)}->(∀ x∈l,sZ x) -> {q a:Int×Int}->Ap q->fN l q=U a->Ap a
 |[],_,q,a,b,h=>by simp only[fN,ucl]at h;subst h;exact b
 |x::l,d,q,a,b,h=>by
  simp only[fN]at h;cases c:lC q x with
  |none=>rw[c]at h;cases h
  |some f=>rw[c]at h;exact PC (λy e=>d y (by simp[e])) (qb4 (d x (by simp)) c b).1 h
def oe{b:Int}{u:Unit}:fp (a,b,u)=Z↔1<=a/\a<b/\b<=292195:=by simp[fp]
def PO{b:Int}(d : -9223372036854775808<=a/\a<=9223372036854775807)(e : -9223372036854775808<=b/\b<=9223372036854775807):jF w F [i64,i64] (a,b,()) (.tuple #[.int .i64 a,.int .i64 b]):=
 ⟨_,rfl,_,_,rfl,⟨rfl,⟨λh=>(by cases h),λ⟨c,h⟩=>(by cases h)⟩,rfl,d⟩,_,_,rfl,⟨rfl,⟨λh=>(by cases h),λ⟨c,h⟩=>(by cases h)⟩,rfl,e⟩,rfl⟩
def Sh:{l:List (Int×Int×Int)}->(∀ x∈l,sZ x)->∃ all:List lK,all.map Subtype.val=l
 |[],_=>⟨[],rfl⟩
 |x::l,h=>by obtain⟨all,a⟩:=Sh (l:=l) (λy b=>h y (by simp[b]));exact⟨⟨x,h x (by simp)⟩::all,by simp[a]⟩
def zpb:ag prog 148 EB:=by
 refine⟨enters (fn:=f148) (by kernel_rfl) rfl rfl,λw F xs vs m hr _=>?_⟩;obtain⟨f,⟨c,k,u⟩,_⟩:=xs;obtain⟨va,vs',rfl,hva,vb,vs'',rfl,hvb,hn⟩:=hr;cases hn;have y:bJ w F bG f va:=hva;have O:bJ w F cK (c,k,u) vb:=hvb;obtain⟨rfl,K,he1⟩:=zod O;obtain⟨sa,sb,rfl,ha,l⟩:=zov y;obtain⟨A,R,rfl,hl1,hl2,t⟩:=Ps ha;obtain⟨Q,S,rfl,hl3,hl4,_⟩:=Ps l;have n:∀ W,Below w.heap.size w W->bJ W F bG f (.agg #[.slice A f.1.length R,.slice Q f.2.1.length S]):=λW s=>y.mono (λ_ h=>h) (λb l=>s.block b (m b l));have D:∀ (W:World) (F:Nat->Prop),bJ W F cK (c,k,u) (.agg #[.int .i64 c,.int .i64 k]):=λW F=>⟨rfl,⟨λ_=>⟨_,rfl⟩,λ_=>rfl⟩,⟨rfl,K⟩,⟨rfl,he1⟩,uT⟩;have hR:∀ W,Below w.heap.size w W->Calls prog 196 #[.agg #[.slice A f.1.length R,.slice Q f.2.1.length S]] W λe z=>e=.returned (.bool (my f))/\Below W.heap.size W z:=λW s=>JE (ps:=[.d bG]) (g:=λx=>my x.1) zlm (F:=F) (xs:=(f,())) (vs:=[_]) (λb l=>ucb (m b l) s.size) ⟨_,[],rfl,n W s,rfl⟩ trivial
 have T:∀ W,Calls prog 197 #[.agg #[.int .i64 c,.int .i64 k]] W λe z=>e=.returned (.bool (fp (c,k,())))/\Below W.heap.size W z:=λW=>JE (ps:=[.d cK]) (g:=λx=>fp x.1) qx7 (F:=λ_=>False) (xs:=((c,k,()),())) (vs:=[_]) (λb l=>l.elim) ⟨_,[],rfl,D W _,rfl⟩ trivial
 by_cases r:my f=Z/\fp (c,k,())=Z;obtain⟨C,o⟩:=r;obtain⟨L,hup,_,N⟩:=OR C;have M:=GX (f:=f) N (e:=k) (oe.1 o).2.2 f.1 c (oe.1 o).1 (oe.1 o).2.1;obtain⟨all,v⟩:=Sh M;rw[C]at hR;rw[o]at T;have hl0:f.1.length<=9223372036854775807:=by have:=ueq hl1 hl2;unfold maxLen at this;omega
 have E:=zpc f A Q R f.2.1.length S c k w hR T all v hl0 K (λW s hp=>by
  obtain⟨b,P,h1,h2,h3⟩:=t hp;exact⟨b,P,h1,m b h2,λi x hx=>⟨(s.cell (p:=⟨b,P+i,V⟩) (m b h2)).trans (h3 i x hx).1,(h3 i x hx).2⟩⟩)
  (λW s=>zrn (λb l=>ucb (m b l) s.size) (n W s) hup L)
 refine(callsIn_wide.1 E).mono ?_;rintro e z ⟨H,a⟩;rw[v]at H;have G:fP f (c,k,u)=match fN (gq f k f.1 c) (0,0)with
   |some q=>(q.1,0)
   |none=>(0,5):=by
  unfold fP;rw[uf0 ⟨C,o⟩]
  try rfl
 cases hq:fN (gq f k f.1 c) (0,0)with
 |none=>rw[hq]at H G;have B:e=.returned (.tuple #[.int .i64 0,.int .i64 5]):=H;refine⟨_,F,B,a,λ_ h=>h,λb l=>⟨.inl l,ucb (m b l) a.size⟩,?_⟩;show jF z F [i64,i64] ((fP f (c,k,u)).1,(fP f (c,k,u)).2,()) _;rw[G];exact PO (by decide) (by decide)
 |some q=>rw[hq]at H G;have B:e=.returned (.tuple #[.int .i64 q.1,.int .i64 0]):=H;refine⟨_,F,B,a,λ_ h=>h,λb l=>⟨.inl l,ucb (m b l) a.size⟩,?_⟩;show jF z F [i64,i64] ((fP f (c,k,u)).1,(fP f (c,k,u)).2,()) _;rw[G];obtain⟨j1,j2,j3,j4⟩:=PC M (q:=(0,0)) ⟨by decide,by decide,by decide,by decide⟩ hq;exact PO ⟨by show _<=q.1;omega,by show q.1<=_;omega⟩ (b:=0) (by decide)
 have E:=zpa f A Q f.1.length R f.2.1.length S c k w hR T r;refine(callsIn_wide.1 E).mono ?_;rintro e z ⟨rfl,a⟩;refine⟨_,F,rfl,a,λ_ h=>h,λb l=>⟨.inl l,ucb (m b l) a.size⟩,?_⟩;show jF z F [i64,i64] ((fP f (c,k,u)).1,(fP f (c,k,u)).2,()) _;have G:fP f (c,k,u)=(0,1):=uf1 r;rw[G];exact PO (by decide) (by decide)
def iC(p:List Int×List Int)(a v:Int):List Int×List Int:=
 let q:=if p.1.getLast?= U a then (p.1.dropLast,p.2.dropLast)else p
 if v≠q.2.getLast?.getD 0/\a<=292194 then (q.1++[a],q.2++[v])else q
section
variable {α:Type}
def Eg(at_ val:List Int)(a v:Int)(K:List Int->List Int->Fr α):Fr α:=
 Jb (J ((val.length:Int)>0))
  (Jd (0<=I6.wrap (val.length-1)/\I6.wrap (val.length-1)<val.length)
   (Jd ((I6.wrap (val.length-1)).toNat<val.length)
    (Jb (bif v != val.getD (I6.wrap (val.length-1)).toNat i64.j then J (a<=292194)else Y)
     (Jd (at_.length + [a].length<=maxLen/\(at_.length + [a].length)*8<=140737488355328)
      (Jd (val.length + [v].length<=maxLen/\(val.length + [v].length)*8<=140737488355328)
       (K (at_++[a]) (val++[v]))))
     (K at_ val))))
  (Jb (bif v != 0 then J (a<=292194)else Y)
   (Jd (at_.length + [a].length<=maxLen/\(at_.length + [a].length)*8<=140737488355328)
    (Jd (val.length + [v].length<=maxLen/\(val.length + [v].length)*8<=140737488355328)
     (K (at_++[a]) (val++[v]))))
   (K at_ val))
def RX(at_ val:List Int)(a v:Int)(K:List Int->List Int->Fr α):Fr α:=
 Jd (J ((at_.length:Int)>0)=Z->0<=I6.wrap (at_.length-1)/\I6.wrap (at_.length-1)<at_.length)
  (Jd (J ((at_.length:Int)>0)=Z->(I6.wrap (at_.length-1)).toNat<at_.length)
   (Jb (bif J ((at_.length:Int)>0)then at_.getD (I6.wrap (at_.length-1)).toNat i64.j==a else Y)
    (Jd (0<=I6.wrap (at_.length-1)/\I6.wrap (at_.length-1)<=at_.length)
     (Jd (0<=I6.wrap (at_.length-1)/\I6.wrap (at_.length-1)<=val.length)
      (Eg (at_.take (I6.wrap (at_.length-1)).toNat) (val.take (I6.wrap (at_.length-1)).toNat) a v K)))
    (Eg at_ val a v K)))
def GB(h:0<l.length)(a:l.length<1000000):l.getD (I6.wrap ((l.length:Int)-1)).toNat i64.j=l.getLast?.getD 0:=by
 rw[cV (by omega),uao,uah];have:((l.length:Int)-1).toNat=l.length-1:=by omega
 rw[this];rfl
def qkl{at_ val:List Int}{v:Int}{K:List Int->List Int->Fr α}{Q:α->Prop}(k:at_.length<1000000)(f:val.length<1000000)(h:(if v≠val.getLast?.getD 0/\day<=292194 then K (at_++[day]) (val++[v])else K at_ val).s7 Q):(Eg at_ val day v K).s7 Q:=by
 have a:∀ (l:List Int) (x:Int),l.length<1000000->l.length + [x].length<=maxLen/\(l.length + [x].length)*8<=140737488355328:=λl x n=>by simp only[maxLen,ua7];omega
 by_cases i:0<val.length;refine⟨λ_=>⟨?_,?_,?_,?_⟩,λg=>?_⟩;rw[cV (by omega)];omega;rw[cV (by omega)];omega;intro c;rw[GB i f,qO]at c;have b:v≠val.getLast?.getD 0/\day<=292194:=by simpa using c
 rw[uf0 b]at h;exact⟨a _ _ k,a _ _ f,h⟩;intro c;rw[GB i f,qO]at c;have b:¬ (v≠val.getLast?.getD 0/\day<=292194):=by intro d;simp[d.1,d.2]at c
 rw[uf1 b]at h;exact h;exact absurd (uch g) (by omega);have e:val=[]:=by
  cases val with
  |nil=>rfl
  |cons _ _=>simp at i
 subst e;refine⟨λg=>by simp at g,λ_=>⟨λc=>?_,λc=>?_⟩⟩;rw[qO]at c;have b:v≠([]:List Int).getLast?.getD 0/\day<=292194:=by simpa using c
 rw[uf0 b]at h;exact⟨a _ _ k,a _ _ f,h⟩;rw[qO]at c;have b:¬ (v≠([]:List Int).getLast?.getD 0/\day<=292194):=by intro d;have m:v≠0:=d.1;simp[m,d.2]at c
 rw[uf1 b]at h;exact h
def qkm{at_ val:List Int}{v:Int}{K:List Int->List Int->Fr α}{Q:α->Prop}(i:at_.length<1000000)(m:at_.length=val.length)(h:(K (iC (at_,val) day v).1 (iC (at_,val) day v).2).s7 Q):(RX at_ val day v K).s7 Q:=by
 have g:∀ a b:List Int,a.length<1000000->b.length<1000000->iC (at_,val) day v=(if v≠b.getLast?.getD 0/\day<=292194 then (a++[day],b++[v])else (a,b))->(Eg a b day v K).s7 Q:=λa b n c o=>by refine qkl n c ?_;rw[o]at h;by_cases k:v≠b.getLast?.getD 0/\day<=292194;rw[uf0 k]at h |-;exact h;rw[uf1 k]at h |-;exact h
 refine⟨λe=>?_,λe=>?_,λc=>⟨?_,?_,?_⟩,λc=>?_⟩;have:(at_.length:Int)>0:=by simpa using e
 rw[cV (by omega)];omega;have:(at_.length:Int)>0:=by simpa using e
 rw[cV (by omega)];omega;have:(at_.length:Int)>0:=by simp at c;simpa using c.1
 rw[cV (by omega)];omega;have:(at_.length:Int)>0:=by simp at c;simpa using c.1
 rw[cV (by omega)];omega;rw[qO]at c;obtain⟨e,c⟩:=Bool.and_eq_true_iff.1 c;have d:0<at_.length:=by simpa using e
 rw[GB d i]at c;have f:at_.getLast?= U day:=by
  have:at_.getLast?.getD 0=day:=by simpa using c
  rw[uao]at this |-;rw[uaq (by omega)]at this |-;simpa using this
 have l:(I6.wrap ((at_.length:Int)-1)).toNat=at_.length-1:=by rw[cV (by omega)];omega
 rw[l];refine g _ _ (by simp;omega) (by simp;omega) ?_;unfold iC;simp only[f,if_true,List.dropLast_eq_take,<- m];rw[qO]at c;refine g _ _ i (by omega) ?_;have f:at_.getLast? ≠ U day:=by
  intro f;have d:0<at_.length:=by
   cases at_ with
   |nil=>simp at f
   |cons _ _=>simp
  have e:J ((at_.length:Int)>0)=true:=by simpa using d
  rw[e,GB d i,f]at c;simp at c
 unfold iC;simp only[f,ufx]
end
def RW{p:List Int×List Int}(a v:Int)(h:p.1.length=p.2.length):(iC p a v).1.length=(iC p a v).2.length/\(iC p a v).1.length<=p.1.length+1:=by
 unfold iC;by_cases b:p.1.getLast?= U a;simp only[b,if_true];split<;>simp<;>omega
 simp only[b,ufx];split<;>simp<;>omega
abbrev Xn:List (Tmp×PT):=[(10015,.d i64),(10014,.d i64),(10013,.d eK),(10005,.d i64)]
abbrev Xm:List MI:=[.y 3 219 [(U 3,i64),(U 3,i64)],.r 10003 3 0,.g 10004 151 [3],.x 7 213 aF,.r 10007 7 0,.x 2 219 bG,.r 10002 2 0]
abbrev C5:Pt:=⟨65,0,⟨Xn,Xm⟩,⟨[],[]⟩,⟨[],[]⟩⟩
abbrev LA:LS:=⟨(0,.d i64)::(1,.d i64)::Xn,.r 2 3 0::Xm⟩
def JD:Code:=f151.body.getD .skip
def frA(x:LA.X):Fr C5.Out:=
 RX x.2.1.1 x.2.1.2.1 x.1.1 x.1.2.1 λa b=>Jv (Rd.next (x.1.2.2,(a,b,()),x.2.2))
def TI:CxOK prog (cx [] []):=aQ aH trivial trivial
def zmg:af prog JD LA C5 frA:=
 af.of_run TI (bs:=80000) (Λ:=bK) rfl rfl rfl (λE=>bm _ 0) (λx=>by kernel_rfl)
def FA(x:LA.X):Fr C5.Out:=
 Jd (x.2.1.1.length<1000000/\x.2.1.1.length=x.2.1.2.1.length)
  (Jv (Rd.next (x.1.2.2,((iC (x.2.1.1,x.2.1.2.1) x.1.1 x.1.2.1).1,(iC (x.2.1.1,x.2.1.2.1) x.1.1 x.1.2.1).2,()),x.2.2)))
def qq7:af prog JD LA C5 FA:=
 zmg.conv λx Q h=>qkm h.1.1 h.1.2 h.2
def kA:Nat->FuncId->List AV->St->Option Tr:=Ng prog (cx [] []).Γ 151 f151 LA C5 FA
def zau:jC prog kA:=qzg TI (c:=JD) (by kernel_rfl) (by kernel_rfl) rfl rfl qq7
def CC:Cx:=dI [(152,t3)] [(149,gg)] kA
def IE:CxOK prog CC:=dP aH ⟨qx8,uT⟩ ⟨NU,uT⟩ zau
abbrev kT:Pt:=⟨41,0,⟨[(15,.d i64),(14,.d i64),(13,.d eK),(5,.d i64)],[.y 3 219 [(U 3,i64),(U 3,i64)],.r 3 3 0,.g 4 151 [3],.x 2 219 bG,.r 2 2 0]⟩,⟨[],[.y 3 219 [(U 3,i64),(U 3,i64)],.r 3 3 0,.x 2 219 bG,.r 2 2 0]⟩,⟨[],[]⟩⟩
def addS(p:List Int×List Int)(s:aF.q):List Int×List Int:=iC (iC p s.1.1 s.2.2.2.2.1) s.1.2.1 0
def qw1(x:kT.M.X)(s:aF.q):Fr kT.Out:=
 let b:=addS (x.2.1.1,x.2.1.2.1) s;let a:=iC (x.2.1.1,x.2.1.2.1) s.1.1 s.2.2.2.2.1;Jd (x.2.1.1.length<1000000/\x.2.1.1.length=x.2.1.2.1.length)
  (Jd (a.1.length<1000000/\a.1.length=a.2.length)
   (Jv (Rd.next ((I6.wrap (x.1.1+1),x.1.2.1,x.1.2.2.1,s.1.2.1,()),(b.1,b.2,()),x.2.2.1,()))))
def Vo(x:kT.M.X):Fr kT.Out:=
 let a:=qw1 x (x.1.2.2.1.getD x.1.1.toNat aF.j);Jb (J (x.1.1<x.1.2.1))
  (Jd (0<=x.1.1/\x.1.1<x.1.2.2.1.length)
   (Jb (!(t3.f (x.1.2.2.1.getD x.1.1.toNat aF.j,x.1.2.2.2.1,())).1)
    (Jb (gg.bad (1,())) (Jv (Rd.pan (gg.pv (1,()))))
     a)
    a))
  (Jv (Rd.out ((),(x.2.1.1,x.2.1.2.1,()),x.2.2.1,())))
def zmk:af prog (au f91 0) kT.M kT Vo:=
 ep IE
def jL:List aF.q->Int->List Int×List Int->Option (List Int×List Int)
 |[],_,p=>U p
 |s::l,e,p=>if pT s e=Z then jL l s.1.2.1 (addS p s)else V
def YR(r:bG.q)(o:Option (List Int×List Int)):Fr kT.Out:=
 Jb o.isSome (Jv (Rd.out ((),((o.getD ([],[])).1,(o.getD ([],[])).2,()),r,()))) (Jv (Rd.pan ⟨47,.i64,1⟩))
structure InvC (i n:Int) (l:List aF.q) (p:List Int×List Int):Prop where
 len:n=l.length
 lo:0<=i
 hi:i<=n
 most:l.length<=2000
 both:p.1.length=p.2.length
 few:p.1.length<=2*i
def FC(x:kT.M.X):Fr kT.Out:=
 Jd (InvC x.1.1 x.1.2.1 x.1.2.2.1 (x.2.1.1,x.2.1.2.1)) (YR x.2.2.1 (jL (x.1.2.2.1.drop x.1.1.toNat) x.1.2.2.2.1 (x.2.1.1,x.2.1.2.1)))
def zbu(i n:Int)(l:List aF.q)(e:Int)(at_ val:List Int)(r:bG.q)(g:InvC i n l (at_,val))(Q:kT.Out->Prop)(a:(YR r (jL (l.drop i.toNat) e (at_,val))).s7 Q):
  (Vo ((i,n,l,e,()),(at_,val,()),r,())).s7 λ
   |.next b=>InvC b.1.1 b.1.2.1 b.1.2.2.1 (b.2.1.1,b.2.1.2.1)/\(b.1.2.1-b.1.1).toNat<(n-i).toNat/\(FC b).s7 Q
   |.out y=>Q (.out y)
   |.back z=>Q (.back z)
   |.pan p=>Q (.pan p):=by
 obtain⟨rfl,B,K,C,w,D⟩:=g;refine⟨λo=>?_,λo=>?_⟩;have d:i<l.length:=by simpa using o
 have h:i.toNat<l.length:=by omega
 have A:=ual h;have k:l.getD i.toNat aF.j=l[i.toNat]:=by rw[uah,uaq h];rfl
 rw[A]at a;generalize L:l[i.toNat]=s at *;refine⟨⟨B,d⟩,λm=>?_,λm=>?_⟩;have c:pT s e=false:=by have:(!(t3.f (l.getD i.toNat aF.j,e,())).1)=true:=m;rw[k]at this;simpa[t3]using this
 have t:Q (Rd.pan ⟨47,.i64,1⟩):=by unfold jL at a;rw[c]at a;exact a.2 rfl
 exact⟨λ_=>t,λF=>by cases F⟩;have c:pT s e=true:=by have:(!(t3.f (l.getD i.toNat aF.j,e,())).1)=false:=m;rw[k]at this;simpa[t3]using this
 unfold jL at a;rw[c,uf0 rfl]at a;have u:=RW s.1.1 s.2.2.2.2.1 w;have v:=RW s.1.2.1 0 u.1;rw[k];have H:I6.wrap (i+1)=i+1:=cV (by omega);have G:(i+1).toNat=i.toNat+1:=by omega
 have E:(at_.length:Int)<=2*i:=D;have x:InvC (i+1) l.length l (addS (at_,val) s):=⟨rfl,by omega,by omega,C,v.1,by have:(addS (at_,val) s).1.length<=(iC (at_,val) s.1.1 s.2.2.2.2.1).1.length+1:=v.2;omega⟩
 refine⟨⟨by show at_.length<1000000;omega,w⟩,⟨by show(iC (at_,val) s.1.1 s.2.2.2.2.1).1.length<1000000;omega,u.1⟩,?_⟩;show InvC (I6.wrap (i+1)) l.length l (addS (at_,val) s)/\((l.length:Int)-I6.wrap (i+1)).toNat<((l.length:Int)-i).toNat/\(FC ((I6.wrap (i+1),(l.length:Int),l,s.1.2.1,()),((addS (at_,val) s).1,(addS (at_,val) s).2,()),r,())).s7 Q;rw[H];refine⟨x,by omega,x,?_⟩;rw[G];exact a;have d:¬ i<l.length:=by simpa using o
 have h:l.drop i.toNat=[]:=ua2 (by omega);rw[h]at a;exact a.1 rfl
def zc3:af prog (.loop (au f91 0)) kT.M kT FC:=by refine af.loop zmk (μ:=λx=>(x.1.2.1-x.1.1).toNat) ?_ (λx Q h=>h.1);rintro⟨⟨i,n,l,e,_⟩,⟨at_,val,_⟩,r,_⟩ a Q b;exact zbu i n l e at_ val r a Q b.2
def ΛC:Nat->St->Option Tr:=λ_=>kT.han CC.Γ kT.M FC
def iY(l:List aF.q):Option (List Int×List Int):=if l.length<=2000 then jL l 1 ([],[])else V
def Vq(x:ap [.d eK]):Fr (Oc (aa [bG])):=
 let a:=jL (x.1.drop (Int.toNat 0)) 1 ([],[]);let b:=a.getD ([],[]);Jd (InvC 0 x.1.length x.1 ([],[]))
  (Jb a.isSome (Jv (Oc.ok ((b.1,b.2,()),())))
   (Jv (Oc.pan ⟨47,.i64,1⟩)))
def mV(x:ap [.d eK]):Fr (Oc (aa [bG])):=
 Jb (J ((x.1.length:Int)>2000))
  (Jb (gg.bad (1,())) (Jv (Oc.pan (gg.pv (1,())))) (Vq x))
  (Vq x)
def qp1:lM prog 91 ⟨[.d eK],[bG],λxs=>(mV xs).get.val,λxs=>(mV xs).get.bad,λxs=>(mV xs).get.pv,λxs=>[(mV xs).ok]⟩:=
 Vl IE (Λ:=ΛC) (fn:=f91) ([],()) (by kernel_rfl) (λc E a=>fH a (by kernel_rfl) (b:=au f91 0) (by kernel_rfl) (af.han IE rfl zc3)) (λxs=>by kernel_rfl)
def cB(l:List aF.q):bG.q:=(((iY l).getD ([],[])).1,((iY l).getD ([],[])).2,())
def fy:Pc:=⟨[.d eK],[bG],λx=>(cB x.1,()),λx=>(iY x.1).isNone,λ_=>⟨47,.i64,1⟩,λ_=>[]⟩
def TG:lM prog 91 fy:=
 Tw qp1 _ _ _ _ λw F k n m _=>by
  obtain⟨l,_⟩:=k;by_cases f:l.length<=2000;have e:J ((l.length:Int)>2000)=false:=by simp;omega
  have g:InvC 0 l.length l ([],[]):=⟨rfl,ufe _,by omega,f,rfl,by simp⟩;have d:iY l=jL l 1 ([],[]):=uf0 f;have b:(mV (l,())).get=if (jL l 1 ([],[])).isSome=Z then Oc.ok (cB l,())else Oc.pan ⟨47,.i64,1⟩:=by show(if J ((l.length:Int)>2000)=Z then _ else (if (jL l 1 ([],[])).isSome=Z then Oc.ok _ else Oc.pan _))=_;rw[e];unfold cB;rw[d];rfl
  refine⟨⟨λc=>?_,λ_=>⟨g,λ_=>uT,λ_=>uT⟩⟩,?_,?_,?_⟩;have a:=c;rw[e]at a;cases a;show(mV (l,())).get.bad=(iY l).isNone;rw[b,d];cases jL l 1 ([],[])<;>rfl
  intro c;have a:=c;show(mV (l,())).get.val=(cB l,());rw[b];rw[d]at a;cases h:jL l 1 ([],[])with
  |none=>rw[h]at a;cases a
  |some p=>rfl
  intro c;have a:=c;show(mV (l,())).get.pv=_;rw[b];rw[d]at a;cases h:jL l 1 ([],[])with
  |none=>rfl
  |some p=>rw[h]at a;cases a
  have e:J ((l.length:Int)>2000)=true:=by simp;omega
  have d:iY l=none:=uf1 f;have b:(mV (l,())).get=Oc.pan ⟨47,.i64,1⟩:=by show(if J ((l.length:Int)>2000)=Z then _ else _)=_;rw[e];rfl
  refine⟨⟨λ_=>⟨λ_=>uT,λi=>by cases i⟩,λc=>?_⟩,?_,?_,?_⟩;have a:=c;rw[e]at a;cases a;show(mV (l,())).get.bad=(iY l).isNone;rw[b,d];rfl;intro c;have a:=c;rw[d]at a;cases a;intro _;show(mV (l,())).get.pv=_;rw[b];rfl
def cP(d:Int):Int:=if 292195<(if d<1 then 1 else d)then 292195 else (if d<1 then 1 else d)
def KI(d:Int):1<=cP d/\cP d<=292195:=by unfold cP;split<;>split<;>omega
def CU:Cx:=cx [(148,EB),(150,tz)] [(149,gg)]
def qhd:CxOK prog CU:=aQ aH ⟨zpb,qsd,uT⟩ ⟨NU,uT⟩
def FW(s e:Int):Fr (Oc (aa [i64])):=
 let a:=tz.f (s,1,365,());Jb (gg.bad (e,())) (Jv (Oc.pan (gg.pv (e,()))))
  (Jd (0<=s->(0:Int)<=1->s*1<18446744073709551616)
   (Jb (gg.bad (a.2.1,())) (Jv (Oc.pan (gg.pv (a.2.1,())))) (Jv (Oc.ok (a.1,())))))
def pS(x:ap [.d bG,.d i64]):Fr (Oc (aa [i64])):=
 Jb (cP x.2.1==1) (Jv (Oc.ok (0,()))) (FW (EB.f (x.1,(1,cP x.2.1,()),())).1 (EB.f (x.1,(1,cP x.2.1,()),())).2.1)
def zrl:lM prog 90 ⟨[.d bG,.d i64],[i64],λxs=>(pS xs).get.val,λxs=>(pS xs).get.bad,λxs=>(pS xs).get.pv,λxs=>[(pS xs).ok]⟩:=
 Vl qhd (Λ:=bK) (fn:=f90) (([],[],()),0,()) (by kernel_rfl) (λc E a=>bm c 0) (λxs=>by kernel_rfl)
def j9(s e:Int):Int×Int:=if e≠0 then (0,e)else if (du s 1 365).2≠0 then (0,(du s 1 365).2)else ((du s 1 365).1,0)
def cu(f:bG.q)(d:Int):Int×Int:=if cP d=1 then (0,0)else j9 (fP f (1,cP d,())).1 (fP f (1,cP d,())).2
def iF:Pc:=⟨[.d bG,.d i64],[i64],λx=>((cu x.1 x.2.1).1,()),λx=>!((cu x.1 x.2.1).2==0),λx=>⟨47,.i64,(cu x.1 x.2.1).2⟩,λ_=>[]⟩
def zo7(f:bG.q)(s:cK.q):(fP f s).1<=4000000000000000000:=by
 unfold fP;split;rename_i h;obtain⟨_,_,_,a⟩:=OR h.1;have c:=oe.1 h.2;have b:=GX a c.2.2 f.1 s.1 c.1 c.2.1;cases d:fN (gq f s.2.1 f.1 s.1) (0,0)with
 |none=>show(0:Int)<=_;decide
 |some q=>obtain⟨e,g,i,k⟩:=PC b ⟨by decide,by decide,by decide,by decide⟩ d;show q.1<=_;omega
 show(0:Int)<=_;decide
def qxe{s e:Int}(k:s<=4000000000000000000):(FW s e).ok/\(FW s e).get=if (j9 s e).2=0 then Oc.ok ((j9 s e).1,())else Oc.pan ⟨47,.i64,(j9 s e).2⟩:=by
 by_cases i:e=0;subst i;have a:0<=s->(0:Int)<=1->s*1<18446744073709551616:=λ_ _=>by omega
 by_cases d:(du s 1 365).2=0;have g:j9 s 0=((du s 1 365).1,0):=by unfold j9;rw[uf1 (λh=>h rfl),uf1 (λh=>h d)]
 have b:gg.bad ((tz.f (s,1,365,())).2.1,())=false:=by show(!((du s 1 365).2==0))=Y;rw[d];rfl
 rw[g];refine⟨⟨λc=>(by cases c),λ_=>⟨a,λ_=>uT,λ_=>uT⟩⟩,?_⟩;show(if gg.bad ((tz.f (s,1,365,())).2.1,())=Z then _ else Oc.ok ((du s 1 365).1,()))=_;rw[b];rfl;have g:j9 s 0=(0,(du s 1 365).2):=by unfold j9;rw[uf1 (λh=>h rfl),uf0 d]
 have b:gg.bad ((tz.f (s,1,365,())).2.1,())=true:=by show(!((du s 1 365).2==0))=Z;simp[d]
 rw[g];refine⟨⟨λc=>(by cases c),λ_=>⟨a,λ_=>uT,λ_=>uT⟩⟩,?_⟩;show(if gg.bad ((tz.f (s,1,365,())).2.1,())=Z then Oc.pan ⟨47,.i64,(du s 1 365).2⟩else _)=_;rw[b,uf0 rfl];exact(uf1 d).symm;have g:j9 s e=(0,e):=by unfold j9;rw[uf0 i]
 have b:gg.bad (e,())=true:=by show(!(e==0))=Z;simp[i]
 rw[g];refine⟨⟨λ_=>uT,λc=>(by rw[b]at c;cases c)⟩,?_⟩;show(if gg.bad (e,())=Z then Oc.pan ⟨47,.i64,e⟩else _)=_;rw[b,uf0 rfl];exact(uf1 i).symm
def qdq:lM prog 90 iF:=
 Tw zrl _ _ _ _ λw F l n m _=>by
  obtain⟨f,d,_⟩:=l;have b:(pS (f,d,())).ok/\(pS (f,d,())).get=if (cu f d).2=0 then Oc.ok ((cu f d).1,())else Oc.pan ⟨47,.i64,(cu f d).2⟩:=by
   unfold cu;by_cases i:cP d=1;rw[uf0 i];have a:(cP d==1)=true:=by simpa using i
   refine⟨⟨λ_=>uT,λg=>(by rw[a]at g;cases g)⟩,?_⟩;show(if (cP d==1)=Z then Oc.ok (0,())else _)=_;rw[a];rfl;rw[uf1 i];have a:(cP d==1)=false:=by simpa using i
   have k:=qxe (e:=(fP f (1,cP d,())).2) (zo7 f (1,cP d,()));refine⟨⟨λg=>(by rw[a]at g;cases g),λ_=>k.1⟩,?_⟩;show(if (cP d==1)=Z then _ else (FW (fP f (1,cP d,())).1 (fP f (1,cP d,())).2).get)=_;rw[a,uf1 (by decide),k.2]
  refine⟨b.1,?_,?_,?_⟩;show(pS (f,d,())).get.bad=!((cu f d).2==0);rw[b.2];by_cases h:(cu f d).2=0;rw[uf0 h,h];rfl;rw[uf1 h];have:((cu f d).2==0)=false:=by simpa using h
  rw[this];rfl;intro a;have c:=a;have h:(cu f d).2=0:=by simpa using c
  show(pS (f,d,())).get.val=((cu f d).1,());rw[b.2,uf0 h];rfl;intro a;have c:=a;have h:¬ (cu f d).2=0:=by simpa using c
  show(pS (f,d,())).get.pv=_;rw[b.2,uf1 h];rfl
def znv{a:Value}(h:w.heap[b]?= U (.cells #[a] ty (0,0))):w.setCell ⟨b,0,V⟩ v=w.setRow b #[v]:=by unfold World.setCell World.setRow;congr 1;apply uci;intro i;simp only[Array.getElem?_modify];by_cases c:b=i;subst c;rw[h];simp;simp[c]
def qc2:TolOK prog 89 47 .i64:=by
 refine⟨enters (fn:=f89) (by kernel_rfl) rfl rfl,λp w=>?_,λb k e n w c=>?_⟩
 ·refine callsD_of_wpS func89 rfl λa f d=>?_;simp only[ntmps89,ucq,uda,udm,Nat.reduceAdd,Nat.reduceSub,ubn,ubo,ucy,ubx,udn,uc5];apply wpS_seq;apply wpS_region;simp[wpOpsS,go_sem,recoverD,d,Exit.thenS];refine wpS_of_wp ?_
  go_wp2
  cases a
  simp_all[bodyPostS,results,results89]
 ·have h:w.cell? ⟨b,0,V⟩=U e:=cn c 0;have i:w.frozen? ⟨b,0,V⟩=false:=by simp[World.frozen?,c]
  have g:∀ w,(Instr.typeAssert (.iface 47 (.int .i64 n)) 20 47 Z).run prog w=.ok (.tuple #[.int .i64 n,.bool Z]) w:=λ_=>by kernel_rfl
  refine callsD_of_wpS func89 rfl λa f d=>?_;simp only[ntmps89,ucq,uda,udm,Nat.reduceAdd,Nat.reduceSub,ubn,ubo,ucy,ubx,udn,uc5];apply wpS_seq;apply wpS_region;simp[wpOpsS,go_sem,recoverD,d,Exit.thenS];refine wpS_of_wp ?_
  go_wp2
  simp[bodyPostS,results,results89,znv c]
def Lu:(0:Int)<=0/\(0:Int)<=6:=by decide
def Lv:(0:Int)<=1/\(1:Int)<=6:=by decide
def I3:(0:Int)<=0/\(0:Int)<=4000000000000000000:=by decide
def Uu:(0:Int)<=5/\(5:Int)<=6:=by decide
def qr9(a b c:Int):0<=(du a b c).2/\(du a b c).2<=6:=by unfold du;split;exact⟨by decide,by decide⟩;split;exact⟨by decide,by decide⟩;split;exact Uu;exact Lu
def U2(a b c:Int)(e:0<c):0<=(du a b c).1/\(du a b c).1<=4000000000000000000:=by
 unfold du;split;exact⟨by decide,by decide⟩;rename_i h;split;exact⟨by decide,by decide⟩;split;exact⟨by decide,by decide⟩;have d:0<=a*b:=uec (by omega) (by omega);have f:0<=a*b/c:=udl d (by omega);have:0<=lY (a*b) c:=by unfold lY;split<;>omega
 exact⟨this,by show lY (a*b) c<=_;omega⟩
def zo6(f:bG.q)(s:cK.q):0<=(fP f s).2/\(fP f s).2<=6:=by unfold fP;split;cases fN (gq f s.2.1 f.1 s.1) (0,0);exact Uu;exact Lu;exact⟨by decide,by decide⟩
def Qa(f:bG.q)(d:Int):0<=(cu f d).2/\(cu f d).2<=6:=by unfold cu;split;exact⟨by decide,by decide⟩;unfold j9;split;exact zo6 _ _;split;exact qr9 _ _ _;exact Lu
def Qb(f:bG.q)(d:Int):0<=(cu f d).1/\(cu f d).1<=4000000000000000000:=by unfold cu;split;exact I3;unfold j9;split;exact I3;split;exact I3;exact U2 _ _ _ (by decide)
def zrk(f:bG.q)(d:Int)(h:(cu f d).2≠0):(cu f d).1=0:=by unfold cu at *;split at h;exact absurd rfl h;rename_i c;rw[uf1 c];unfold j9 at *;split at h;rename_i a;rw[uf0 a];rename_i a;rw[uf1 a];split at h;rename_i b;rw[uf0 b];exact absurd rfl h
def xx{n:Int}(h:0<=n/\n<=6):inR .i64 n:=by constructor;show(-9223372036854775808:Int)<=n;omega;show n<=(9223372036854775807:Int);omega
def CP:Cx:=cx [] [(91,fy),(90,iF)]
def qfz:CxOK prog CP:=aQ aH trivial ⟨TG,qdq,uT⟩
def eq(l:List aF.q)(d:Int):Int×Int:=if (iY l).isNone=Z then (0,1)else cu (cB l) d
def pw:Ct:=⟨[.d eK,.d i64],[i64,i64],λx=>((eq x.1 x.2.1).1,(eq x.1 x.2.1).2,()),λ_=>[]⟩
def qxf(x:ap [.d eK,.d i64]):Fr (aa [i64,i64]):=
 let b:=fy.pv (x.1,());let a:=((fy.f (x.1,())).1,x.2.1,());Jb (fy.bad (x.1,())) (Jd (inR .i64 b.n) (Jv (0,b.n,())))
  (Jb (iF.bad a)
   (Jd (inR .i64 (iF.pv a).n) (Jv (0,(iF.pv a).n,())))
   (Jv ((iF.f a).1,0,())))
def RP:ag prog 61 pw:=
 conv (qqf qfz (Λ:=bK) (fn:=f61) (fr:=qxf) (ps:=[.d eK,.d i64]) (rs:=[i64,i64]) ([],0,()) (by kernel_rfl) qc2 (λc E _=>bm c 0) (λx=>by kernel_rfl)) _ _ λw F i m k _=>by obtain⟨l,d,_⟩:=i;by_cases f:(iY l).isNone=Z;have b:fy.bad (l,())=true:=f;refine⟨⟨λ_=>⟨xx Lv,uT⟩,λh=>(by have a:fy.bad (l,())=false:=h;rw[b]at a;cases a)⟩,?_⟩;show(if fy.bad (l,())=Z then ((0:Int),(1:Int),())else _)=((eq l d).1,(eq l d).2,());unfold eq;rw[b,uf0 rfl,uf0 f];have b:fy.bad (l,())=false:=(by show(iY l).isNone=Y;exact ucz.2 f);have g:eq l d=cu (cB l) d:=uf1 f;refine⟨⟨λh=>(by have a:fy.bad (l,())=true:=h;rw[b]at a;cases a),λ_=>⟨λ_=>⟨xx (Qa _ _),uT⟩,λ_=>uT⟩⟩,?_⟩;show(if fy.bad (l,())=Z then _ else if (!((cu (cB l) d).2==0))=Z then ((0:Int),(cu (cB l) d).2,())else ((cu (cB l) d).1,0,()))=((eq l d).1,(eq l d).2,());rw[b,uf1 (by decide),g];by_cases e:(cu (cB l) d).2=0;rw[uf1 (by simp[e]),e];rw[uf0 (by simp[e]),zrk _ _ e]
def EG:Ct:=⟨[.d eK],[i64,i64],λx=>((eq x.1 292195).1,(eq x.1 292195).2,()),λ_=>[]⟩
def qj5:ag prog 72 EG:=
 flat (ps:=[.d eK]) (rs:=[i64,i64]) (aQ (cs:=[(61,pw)]) (ps:=[]) aH ⟨RP,uT⟩ trivial) (fn:=f72) (fr:=λx=>Jv ((pw.f (x.1,292195,())).1,(pw.f (x.1,292195,())).2.1,())) ([],()) (by kernel_rfl) (λx=>by kernel_rfl) _ _
  (λ_ _ x _ _ _=>⟨uT,rfl⟩)
def ed(f:bG.q):Int->Nat->Int
 |_,0=>0
 |a,n+1=>eG f a+ed f (a+1) n
def Lk(f:bG.q):(m n:Nat)->(a:Int)->ed f a (m+n)=ed f a m+ed f (a+m) n
 |0,n,a=>by simp[ed]
 |m+1,n,a=>by
  have h:=Lk f m n (a+1);rw[show m+1+n=(m+n)+1 by omega];simp only[ed];rw[h];have:a+1+(m:Int)=a+((m+1:Nat):Int):=by omega
  rw[this];omega
def Fl{f:bG.q}(h:∀ d,0<=eG f d):(n:Nat)->(a:Int)->0<=ed f a n
 |0,a=>ufe _
 |n+1,a=>by have:=Fl h n (a+1);have:=h a;simp only[ed];omega
def Ll{f:bG.q}{v:Int}:(n:Nat)->(a:Int)->(∀ d,a<=d->d<a+n->eG f d=v)->ed f a n=n*v
 |0,a,_=>by simp[ed]
 |n+1,a,h=>by
  simp only[ed];rw[h a (by omega) (by omega),Ll n (a+1) (λd b c=>h d (by omega) (by omega))]
  grind
def qoy{d:Int}(b:a<=d)(h:∀ x∈l,x<=a\/d<x):xk l d=xk l a:=by unfold xk;apply List.countP_congr;intro x c;have:=h x c;simp only[ucu];omega
def qdt{f:bG.q}{d:Int}(b:a<=d)(h:∀ x∈f.1,x<=a\/d<x):eG f d=eG f a:=by unfold eG;rw[qoy b h]
def zrm{f:bG.q}(h:∀ y∈f.2.1,0<=y)(d:Int):0<=eG f d:=by
 unfold eG;split;exact ufe _;rename_i k _;rw[uah];cases a:f.2.1[k]? with
 |none=>simp
 |some y=>have:=h y (ubg a);simpa using this
def qb5{s t b v:Int}(k:0<=v)(e:a<b)(i:t<=4000000000000000000):
  lC (s,t) (a,b,v)=if t+(b-a)*v<=4000000000000000000 then U (s+(b-a)*v,t+(b-a)*v)else none:=by
 have g:max v (-v)=v:=by omega
 unfold lC;simp only[g];have d:v>(4000000000000000000-t)/(b-a)↔¬ t+(b-a)*v<=4000000000000000000:=by have:=Int.le_ediv_iff_mul_le (a:=v) (b:=4000000000000000000-t) (c:=b-a) (by omega);rw[ue2 v]at this;omega
 by_cases h:t+(b-a)*v<=4000000000000000000;rw[uf1 (by rw[d];exact λf=>f h),uf0 h];rw[uf0 (d.2 h),uf1 h]
def PB{f:bG.q}(p:∀ d,0<=eG f d){e:Int}:(l:List Int)->(a s t:Int)->l.Pairwise (· < ·)->(∀ x∈f.1,x<=a\/e<=x\/x∈l)->a<e->t<=4000000000000000000 ->
  fN (gq f e l a) (s,t)=if t+ed f a (e-a).toNat<=4000000000000000000 then U (s+ed f a (e-a).toNat,t+ed f a (e-a).toNat)else V
 |[],a,s,t,_,k,g,u=>by
  have r:ed f a (e-a).toNat=(e-a)*eG f a:=by
   rw[Ll (e-a).toNat a (λd c C=>qdt c (λx i=>by
    rcases k x i with h|h|h
    exact .inl h;exact .inr (by omega);cases h))]
   congr 1;omega
  rw[r];simp only[gq,fN];rw[qb5 (p a) g u];split<;>rfl
 |d::l,a,s,t,E,k,g,u=>by
  obtain⟨z,n⟩:=uca.1 E;unfold gq;split;rename_i o;refine PB p l a s t n (λx i=>?_) g u;rcases k x i with h|h|h
  exact .inl h;exact .inr (.inl h);rcases uej.1 h with rfl|h
  rcases o with h|h
  exact .inl h;exact .inr (.inl h);exact .inr (.inr h);rename_i o;have m:a<d:=by omega
  have w:d<e:=by omega
  have r:ed f a (d-a).toNat=(d-a)*eG f a:=by
   rw[Ll (d-a).toNat a (λF c C=>qdt c (λx i=>by
    rcases k x i with h|h|h
    exact .inl h;exact .inr (by omega);rcases uej.1 h with rfl|h
    exact .inr (by omega);have:=z x h;exact .inr (by omega)))]
   congr 1;omega
  have b:ed f a (e-a).toNat=ed f a (d-a).toNat+ed f d (e-d).toNat:=by rw[show(e-a).toNat=(d-a).toNat+(e-d).toNat by omega,Lk];congr 2;omega
  have D:=Fl p (e-d).toNat d;simp only[fN];rw[qb5 (p a) m u,<- r];by_cases c:t+ed f a (d-a).toNat<=4000000000000000000;rw[uf0 c];show fN (gq f e l d) _=_;have v:∀ x∈f.1,x<=d\/e<=x\/x∈l:=λx i=>by
   rcases k x i with h|h|h
   exact .inl (ue6 h (uev m));exact .inr (.inl h);rcases uej.1 h with rfl|h
   exact .inl (ufe _);exact .inr (.inr h)
  rw[PB p l d _ _ n v w c];rw[b,Int.add_assoc,Int.add_assoc];have y:¬ t+ed f a (e-a).toNat<=4000000000000000000:=by rw[b];clear r b;generalize ed f a (d-a).toNat=A at *;generalize ed f d (e-d).toNat=B at *;omega
  rw[uf1 c,uf1 y];rfl
structure Pos (f:bG.q):Prop where
 right:my f=true
 pos:∀ y∈f.2.1,0<=y
def Pos.val{f:bG.q}(h:Pos f)(d:Int):0<=eG f d:=zrm h.pos d
def zo5{f:bG.q}(h:Pos f){e:Int}(i:1<=a)(c:a<e)(k:e<=292195):
  fP f (a,e,())=if ed f a (e-a).toNat<=4000000000000000000 then (ed f a (e-a).toNat,0)else (0,5):=by
 obtain⟨m,g,n,o⟩:=OR h.right;have b:=PB h.val (e:=e) f.1 a 0 0 g (λx l=>.inr (.inr l)) c (by decide);simp only[Int.zero_add]at b;unfold fP;rw[uf0 ⟨h.right,oe.2 ⟨i,c,k⟩⟩,b];by_cases d:ed f a (e-a).toNat<=4000000000000000000;rw[uf0 d,uf0 d];rw[uf1 d,uf1 d]
def Sd(f:bG.q)(d:Int):Int:=ed f 1 (cP d-1).toNat
def qsa(h:0<=p):lY p 365=(p+182)/365:=by unfold lY;split<;>omega
def qr7(h:0<=p)(a:p<=4000000000000000000):du p 1 365=((p+182)/365,0):=by unfold du;rw[Int.mul_one,qsa h,uf1 (by omega),uf1 (by decide),uf1 (by omega)]
def PZ{f:bG.q}(h:Pos f)(d:Int):cu f d=if Sd f d<=4000000000000000000 then ((Sd f d+182)/365,0)else (0,5):=by
 have e:=KI d;have c:=Fl h.val (cP d-1).toNat 1;unfold cu;by_cases b:cP d=1;rw[uf0 b];have:Sd f d=0:=by unfold Sd;rw[b];rfl
 rw[this,uf0 (by decide)];rfl;rw[uf1 b,zo5 h (by decide) (by omega) e.2];show j9 _ _=_;unfold Sd;by_cases a:ed f 1 (cP d-1).toNat<=4000000000000000000;rw[uf0 a,uf0 a];show j9 (ed f 1 (cP d-1).toNat) 0=_;unfold j9;rw[uf1 (λh=>h rfl),qr7 c a,uf1 (λh=>h rfl)];rw[uf1 a,uf1 a];rfl
def qok{b:Int}(h:a<=b):cP a<=cP b:=by unfold cP;split<;>split<;>(try split)<;>(try split)<;>omega
def qj0{f:bG.q}(h:Pos f){b:Int}(c:a<=b):Sd f a<=Sd f b:=by have e:=qok c;have d:=KI a;unfold Sd;rw[show(cP b-1).toNat=(cP a-1).toNat+(cP b-cP a).toNat by omega,Lk];have:=Fl h.val (cP b-cP a).toNat (1+((cP a-1).toNat:Int));omega
def qj1{f:bG.q}(h:Pos f)(a:Int):Sd f a<=Sd f 292195:=by
 have b:=KI a;have:Sd f a=Sd f (cP a):=by
  unfold Sd;have:cP (cP a)=cP a:=by generalize cP a=c at b;unfold cP;rw[uf1 (show ¬ c<1 by omega),uf1 (by omega)]
  rw[this]
 rw[this];exact qj0 h b.2
def OT{d v:Int}:{l r:List Int}->(c e:Int)->l.length=r.length ->
  iN (l++[d]) (r++[v]) c e=(iN l r c e&&(J (l.getLast?.getD c<d)&&(J (d<=292194)&&(!(v==r.getLast?.getD e)&&kO v))))
 |[],[],c,e,_=>by show(_&&Z)=(Z&&_);rw[uen,uem];rfl
 |[],_::_,_,_,h=>by simp at h
 |_::_,[],_,_,h=>by simp at h
 |a::l,b::r,c,e,h=>by
  have i:=OT (d:=d) (v:=v) a b (by simpa using h);simp only[uc5,iN];rw[i];have f:(a::l).getLast?.getD c=l.getLast?.getD a:=by rw[List.getLast?_cons];rfl
  have g:(b::r).getLast?.getD e=r.getLast?.getD b:=by rw[List.getLast?_cons];rfl
  rw[f,g];simp only[ued]
structure Good (p:List Int×List Int) (m:Int):Prop where
 len:p.1.length=p.2.length
 up:iN p.1 p.2 0 0=true
 le:p.1.getLast?.getD 0<=m
 pos:∀ y∈p.2,0<=y
def VB(h:l.getLast?= U x):l=l.dropLast++[x]:=by
 cases l with
 |nil=>simp at h
 |cons a l=>
  injection h with h
  rw[<- h];exact(List.dropLast_concat_getLast (by simp)).symm
def Good.pop{p:List Int×List Int}{m:Int}(h:Good p m)(g:p.1.getLast?= U day):Good (p.1.dropLast,p.2.dropLast) (day-1)/\day<=m:=by
 obtain⟨at_,val⟩:=p;obtain⟨c,b,f,k⟩:=h;have d:=VB g;cases i:val.getLast? with
 |none=>
  have:val=[]:=by simpa using i
  subst this;rw[d]at c;simp at c
 |some y=>
  have e:=VB i;have a:at_.dropLast.length=val.dropLast.length:=by simp[c]
  rw[d,e,OT 0 0 a]at b;simp at b;refine⟨⟨a,b.1,?_,λz l=>k z ?_⟩,?_⟩;have:=b.2.1;show at_.dropLast.getLast?.getD 0<=day-1;omega;rw[e];exact ubk _ l;rw[g]at f;exact f
def Good.push{p:List Int×List Int}{m v:Int}(h:Good p m)(o:m<day)(b:day<=292194)(l:0<=v/\v<=4000000000000000000)(d:v≠p.2.getLast?.getD 0):Good (p.1++[day],p.2++[v]) day:=by
 obtain⟨e,f,n,g⟩:=h;refine⟨by simp[e],?_,by simp,λz a=>?_⟩;show iN (p.1++[day]) (p.2++[v]) 0 0=Z;rw[OT 0 0 e,f];have k:kO v=true:=Yg.2 (by omega);have i:(v==p.2.getLast?.getD 0)=false:=by simpa using d
 have c:p.1.getLast?.getD 0<day:=by omega
 simp[k,i,c,b];rcases udt.1 a with a|a
 exact g z a;simp at a;subst a;exact l.1
def Good.mono{p:List Int×List Int}{m a:Int}(h:Good p m)(b:m<=a):Good p a:=⟨h.len,h.up,ue6 h.le b,h.pos⟩
def Good.add{p:List Int×List Int}{m v:Int}(h:Good p m)(r:m<=day)(o:1<=day)(i:0<=v/\v<=4000000000000000000):Good (iC p day v) day:=by
 unfold iC;by_cases b:p.1.getLast?= U day;have g:=(h.pop b).1;simp only[b,if_true];split;rename_i a;exact g.push (by omega) a.2 i a.1;exact g.mono (by omega);simp only[b,ufx];have d:p.1.getLast?.getD 0<=day-1:=by
  have c:=h.le;cases n:p.1.getLast? with
  |none=>show(0:Int)<=_;omega
  |some x=>rw[n]at c b;have l:x≠day:=λk=>b (by rw[k]);have f:x<=m:=c;show x<=_;omega
 have e:Good p (day-1):=⟨h.len,h.up,d,h.pos⟩;split;rename_i a;exact e.push (by omega) a.2 i a.1;exact e.mono (by omega)
def V9{s:aF.q}{e:Int}:pT s e=Z↔e<=s.1.1/\s.1.1<s.1.2.1/\s.1.2.1<=292195/\0<=s.2.2.2.2.1/\s.2.2.2.2.1<=4000000000000000000:=by simp[pT]
def Good.addS{p:List Int×List Int}{s:aF.q}{e:Int}(h:Good p e)(g:1<=e)(i:pT s e=Z):Good (addS p s) s.1.2.1:=by obtain⟨a,b,l,d,f⟩:=V9.1 i;have c:1<=s.1.1:=ue6 g a;have k:1<=s.1.2.1:=ue6 c (uev b);exact(h.add a c ⟨d,f⟩).add (uev b) k (by decide)
def tJ:List aF.q->Int->List Int×List Int->Option (Int×(List Int×List Int))
 |[],e,p=>U (e,p)
 |s::l,e,p=>if pT s e=Z then tJ l s.1.2.1 (addS p s)else V
def TF:(l:List aF.q)->(e:Int)->(p:List Int×List Int)->jL l e p=(tJ l e p).map (·.2)
 |[],_,_=>rfl
 |s::l,e,p=>by simp only[jL,tJ];split;exact TF l _ _;rfl
def TE:{l:List aF.q} -> {e:Int} -> {p:List Int×List Int} -> {q:Int×(List Int×List Int)}->Good p e->1<=e->tJ l e p=U q->Good q.2 q.1/\1<=q.1
 |[],e,p,q,h,b,a=>by simp only[tJ,ucl]at a;subst a;exact⟨h,b⟩
 |s::l,e,p,q,h,b,a=>by simp only[tJ]at a;split at a;rename_i c;obtain⟨d,f,_⟩:=V9.1 c;have g:=ue6 (ue6 b d) (uev f);exact TE (h.addS b c) g a;cases a
def qyv:Good ([],[]) 1:=⟨rfl,rfl,by show(0:Int)<=1;decide,by simp⟩
def TH{l:List aF.q}(h:(iY l).isNone=Y):Pos (cB l):=by
 unfold cB;unfold iY at *;split at h;rename_i c;rw[uf0 c];rw[TF]at h |-;cases b:tJ l 1 ([],[])with
 |none=>rw[b]at h;cases h
 |some q=>have a:=(TE qyv (by decide) b).1;show Pos (q.2.1,q.2.2,());refine⟨?_,a.pos⟩;simp only[my,a.up,uen,ucu];exact a.len
 cases h
def CH0:Cx:=cx [(100,lg)] []
def II:CxOK prog CH0:=aQ aH ⟨OQ,uT⟩ trivial
def MJ(x:ap [.d eV]):Fr (aa [.bool]):=
 let a:=x.1.2;Jv (bif bif bif bif bif bif J (x.1.1>=0)then J (x.1.1<4)else Y then bif J (a.1>=1)then J (a.1<=1000000000000000)else Y else Y then J (a.2.1>=0)else Y then J (a.2.1<=200)else Y then J (a.2.2.1>=0)else Y then J (a.2.2.1<100)else Y,())
def qxx:ag prog 104 (bg [.d eV] [.bool] MJ):=
 aT II f104
def MG(x:ap [.d i64]):Fr (aa [.bool]):=
 Jv (bif J (x.1>=1)then J (x.1<=292194)else Y,())
def qxk:ag prog 108 (bg [.d i64] [.bool] MG):=
 aT II f108
def V0(x:ap [.d cK]):Fr (aa [cK]):=
 Jb (bif !(lg.f ((x.1.1,x.1.2.1,()),())).1 then Z else x.1.1==x.1.2.1) (Jv ((0,0,()),())) (Jv ((x.1.1,x.1.2.1,()),()))
def qxq:ag prog 159 (bg [.d cK] [cK] V0):=
 aT II f159
def qp(k v a z:Int):Bool:=J (0<=k/\k<4/\1<=v/\v<=1000000000000000/\0<=a/\a<=200/\0<=z/\z<100)
def qX:Ct:=⟨[.d eV],[.bool],λx=>(qp x.1.1 x.1.2.1 x.1.2.2.1 x.1.2.2.2.1,()),λ_=>[]⟩
def OV:ag prog 104 qX:=
 conv qxx _ _ (λ_ _ x _ _ _=>by obtain⟨⟨k,v,a,z,_⟩,_⟩:=x;refine⟨by simp[az,Fr.ok,MJ],?_⟩;dsimp only[MJ,Fr.get,qp,Ty.q,PT.q];simp only[uby,ubb];congr 1;rw[udy];simp only[udd,udu,ucu];omega)
def lU(p l g d s:Int):Bool:=J (0<=p/\p<8/\1<=s/\s<=10000/\0<=d/\d<l/\l<=g/\g<=1000000000000000)
def kZ:Ct:=⟨[.d ar],[.bool],λx=>(lU x.1.1 x.1.2.1 x.1.2.2.1 x.1.2.2.2.1 x.1.2.2.2.2.1,()),λ_=>[]⟩
def jo(d:Int):Bool:=J (1<=d/\d<=292194)
def wL:Ct:=⟨[.d i64],[.bool],λx=>(jo x.1,()),λ_=>[]⟩
def TL:ag prog 108 wL:=
 conv qxk _ _ (λ_ _ x _ _ _=>by obtain⟨d,_⟩:=x;refine⟨by simp[az,Fr.ok,MG],?_⟩;dsimp only[MG,Fr.get,jo,Ty.q,PT.q];simp only[ubb];congr 1;rw[udy];simp only[udd,ucu,ge_iff_le])
def eH(a b d:Int):Bool:=J (1<=a/\b<=292195/\a<=d/\d<b)
def iD:Ct:=⟨[.d cK,.d i64],[.bool],λx=>(eH x.1.1 x.1.2.1 x.2.1,()),λ_=>[]⟩
def uA(s:cK.q):cK.q:=if fp s=Z then s else (0,0,())
def wM:Ct:=⟨[.d cK],[cK],λx=>(uA x.1,()),λ_=>[]⟩
def za7(a b:Int):((¬a>=1\/¬a<=b\/¬b<=292195)\/a=b)↔(¬a>=1\/¬a<b\/¬b<=292195):=by omega
def za4(a b:Int):(bif !(mw (a,b,()))then Z else a==b)=!(fp (a,b,())):=by dsimp only[mw,fp,Ty.q,PT.q];simp only[uby];rw[udy];simp only[udd,udu,ucv,Bool.and_eq_false_iff,ucu,uav,ufm];exact za7 a b
def za6:ag prog 159 wM:=
 conv qxq _ _ (λ_ _ x _ _ _=>by obtain⟨⟨a,b,_⟩,_⟩:=x;refine⟨by simp[az,Fr.ok,V0],?_⟩;show(if (bif !(mw (a,b,()))then Z else a==b)=Z then (((0,0,()),()):cK.q×Unit)else ((a,b,()),()))=(if fp (a,b,())=Z then (a,b,())else (0,0,()),());rw[za4];cases fp (a,b,())<;>rfl)
def CH1:Cx:=cx [(159,wM)] []
def Qq:CxOK prog CH1:=aQ aH ⟨za6,uT⟩ trivial
abbrev aZ(T:Ty):PT:=.pf [T,T] [i64]
def aR{T:Ty}(g:(aZ T).q)(x y:T.q):Bool:=J ((g.1 (x,y,())).1<0)
def lI{T:Ty}(g:(aZ T).q)(l:List T.q):Prop:=∀ x∈l,∀ y∈l,g.2 (x,y,())
def lI.sub{T:Ty}{g:(aZ T).q}{l s:List T.q}(h:lI g l)(a:∀ x∈s,x∈l):lI g s:=λx b y c=>h x (a x b) y (a y c)
def qzf{j:Nat}(h:i+j<=9223372036854775807):I6.wrap ((U6.wrap (I6.wrap ((i:Int)+j))).fdiv (2 ^ min (Int.toNat 1) U6.bits))=((i+j)/2:Nat):=by
 have a:I6.wrap ((i:Int)+j)=(i:Int)+j:=IntWalk.i64_in _ (by omega);have b:U6.wrap ((i:Int)+j)=(i:Int)+j:=IntWalk.u64_in _ (by omega);have c:(2:Int) ^ min (Int.toNat 1) U6.bits=2:=by decide
 rw[a,b,c,uag _ (by decide),IntWalk.i64_in _ (by omega)];omega
def Jq{j:Nat}(h:i+j<=9223372036854775807):I6.wrap ((i:Int)+j)=(i+j:Nat):=by rw[IntWalk.i64_in _ (by omega)];omega
def D0(h:i+1<=9223372036854775807):I6.wrap ((i:Int)+1)=(i+1:Nat):=by rw[IntWalk.i64_in _ (by omega)];omega
def Dz{j:Nat}(h:j<=i)(a:i<=9223372036854775807):I6.wrap ((i:Int)-j)=(i-j:Nat):=by rw[IntWalk.i64_in _ (by omega)];omega
def Z4(h:1<=i)(a:i<=9223372036854775807):I6.wrap ((i:Int)-1)=(i-1:Nat):=by rw[IntWalk.i64_in _ (by omega)];omega
def mA{T:Ty}{l:List T.q}{j:Nat}:(ie l T.j i j).length=l.length:=by simp[ie]
def qb8{T:Ty}{l:List T.q}{j:Nat}(c:i<l.length)(d:j<l.length){x:T.q}(h:x∈ie l T.j i j):x∈l:=by
 unfold ie at h;have a:l.getD i T.j∈l:=eT c;have b:l.getD j T.j∈l:=eT d;rcases uap h with h|rfl
 rcases uap h with h|rfl
 exact h;exact b;exact a
abbrev gw(e:TypeId)(T:Ty):Pt:=⟨53,2,⟨[(1,.d i64),(2,.d i64),(3,(aZ T)),(8,.d i64),(9,.d i64)],[.al 10000 0,.o 0 e T]⟩,⟨[(1,.d i64),(2,.d i64),(3,(aZ T)),(8,.d i64)],[.al 10000 0,.o 0 e T]⟩,⟨[],[]⟩⟩
def eN:Cx:=cx [] []
def aL:CxOK prog eN:=aQ aH trivial trivial
def B0(e:TypeId)(T:Ty)(x:(gw e T).M.X):Fr (gw e T).Out:=
 let a:=x.1.1;let j:=x.1.2.2.2.2.1;let g:=x.1.2.2.1;let l:=x.2.1
 Jd (J (j>a)=Z->0<=j/\j<l.length)
  (Jd (J (j>a)=Z->j.toNat<l.length)
   (Jd (J (j>a)=Z->0<=I6.wrap (j-1)/\I6.wrap (j-1)<l.length)
    (Jd (J (j>a)=Z->(I6.wrap (j-1)).toNat<l.length)
     (Jd (J (j>a)=Z->g.2 (l.getD j.toNat T.j,l.getD (I6.wrap (j-1)).toNat T.j,()))
      (Jb (bif J (j>a)then J ((g.1 (l.getD j.toNat T.j,l.getD (I6.wrap (j-1)).toNat T.j,())).1<0)else Y)
       (Jd (0<=I6.wrap (j-1)/\I6.wrap (j-1)<l.length)
        (Jd ((I6.wrap (j-1)).toNat<l.length)
         (Jd (0<=j/\j<l.length)
          (Jd (j.toNat<l.length)
           (Jd (0<=j/\j<l.length)
            (Jd (j.toNat<l.length)
             (Jd (0<=I6.wrap (j-1)/\I6.wrap (j-1)<(l.set j.toNat (l.getD (I6.wrap (j-1)).toNat T.j)).length)
              (Jd ((I6.wrap (j-1)).toNat<(l.set j.toNat (l.getD (I6.wrap (j-1)).toNat T.j)).length)
               (Jv (Rd.next ((a,x.1.2.1,(g.1,g.2),x.1.2.2.2.1,I6.wrap (j-1),()),
                ((l.set j.toNat (l.getD (I6.wrap (j-1)).toNat T.j)).set (I6.wrap (j-1)).toNat (l.getD j.toNat T.j),()))))))))))))
       (Jv (Rd.out ((a,x.1.2.1,(g.1,g.2),x.1.2.2.2.1,()),(l,())))))))))
structure InvInsI {T:Ty} (a j:Int) (g:(aZ T).q) (l:List T.q):Prop where
 a0:0<=a
 aj:a<=j
 jl:j<l.length
 big:(l.length:Int)<=9223372036854775807
 dom:lI g l
def wj(e:TypeId)(T:Ty)(x:(gw e T).M.X):Fr (gw e T).Out:=
 Jd (InvInsI x.1.1 x.1.2.2.2.2.1 x.1.2.2.1 x.2.1) (Jv (Rd.out ((x.1.1,x.1.2.1,x.1.2.2.1,x.1.2.2.2.1,()),(gZ (aR x.1.2.2.1) T.j x.1.1.toNat x.1.2.2.2.2.1.toNat x.2.1,()))))
def zbz {T:Ty} (a b i j:Int) (g:(aZ T).q) (l:List T.q) (s:InvInsI a j g l) (Q:(gw e T).Out->Prop)
  (c:Q (Rd.out ((a,b,g,i,()),(gZ (aR g) T.j a.toNat j.toNat l,())))):((B0 e T) ((a,b,g,i,j,()),(l,()))).s7 λ
   |.next m=>InvInsI m.1.1 m.1.2.2.2.2.1 m.1.2.2.1 m.2.1/\m.1.2.2.2.2.1.toNat<j.toNat/\((wj e T) m).s7 Q
   |.out y=>Q (.out y)
   |.back z=>Q (.back z)
   |.pan p=>Q (.pan p):=by
 obtain⟨E,F,G,H,w⟩:=s;obtain⟨o,rfl⟩:∃ n:Nat,a=n:=⟨a.toNat,by omega⟩;obtain⟨f,rfl⟩:∃ n:Nat,j=n:=⟨j.toNat,by omega⟩;dsimp only[B0,Fr.s7,Ty.q,PT.q];by_cases K:o<f;obtain⟨k,rfl⟩:∃ k,f=k+1:=⟨f-1,by omega⟩;have t:k+1<l.length:=by omega
 have B:I6.wrap (((k+1:Nat):Int)-1)=(k:Nat):=by rw[Z4 (by omega) (by omega)];rfl
 have u:J (((k+1:Nat):Int)>(o:Int))=true:=ueb (by omega);have C:((k+1:Nat):Int).toNat=k+1:=rfl;have D:((k:Nat):Int).toNat=k:=rfl;rw[B,u,C,D];simp only[udp];refine⟨λ_=>⟨by omega,by omega⟩,λ_=>by omega,λ_=>⟨by omega,by omega⟩,λ_=>by omega,λ_=>w _ (eT t) _ (eT (by omega)),λr=>?_,λr=>?_⟩;refine⟨⟨by omega,by omega⟩,by omega,⟨by omega,by omega⟩,by omega,⟨by omega,by omega⟩,by omega,⟨by omega,by omega⟩,by omega,?_⟩;have A:InvInsI o k g (ie l T.j (k+1) k):=⟨by omega,by omega,by rw[mA];omega,by rw[mA];omega,w.sub λx v=>qb8 t (by omega) v⟩;refine⟨A,by omega,A,?_⟩;simp only[uc0,gZ]at c |-;rw[uf0 (by omega)]at c;have d:aR g (l.getD (k+1) T.j) (l.getD k T.j)=true:=r;rw[d]at c;exact c;simp only[uc0,gZ]at c;rw[uf0 (by omega)]at c;have d:aR g (l.getD (k+1) T.j) (l.getD k T.j)=false:=r;rw[d]at c;exact c;have u:J ((f:Int)>(o:Int))=false:=udw (by omega);rw[u];refine⟨λh=>(by cases h),λh=>(by cases h),λh=>(by cases h),λh=>(by cases h),λh=>(by cases h),λr=>(by cases r),λ_=>?_⟩;have v:gZ (aR g) T.j o f l=l:=by
  cases f with
  |zero=>rfl
  |succ k=>simp only[gZ];rw[uf1 (by omega)]
 simp only[uc0,v]at c;exact c
def XI{T:Ty}{c:Code}(f:af P c (gw e T).M (gw e T) (B0 e T)):af P (.loop c) (gw e T).M (gw e T) (wj e T):=by refine af.loop (n:=53) (id:=2) f (inv:=λx=>InvInsI x.1.1 x.1.2.2.2.2.1 x.1.2.2.1 x.2.1) (μ:=λx=>x.1.2.2.2.2.1.toNat) ?_ (λx Q h=>h.1);rintro⟨⟨a,b,g,i,j,_⟩,⟨l,_⟩⟩ d Q k;exact zbz a b i j g l d Q k.2
abbrev gy(e:TypeId)(T:Ty):Pt:=⟨53,0,⟨[(1,.d i64),(2,.d i64),(3,(aZ T)),(8,.d i64)],[.al 10000 0,.o 0 e T]⟩,⟨[],[.al 10000 0,.o 0 e T]⟩,⟨[],[]⟩⟩
def B3(e:TypeId)(T:Ty)(x:(gy e T).M.X):Fr (gy e T).Out:=
 let a:=x.1.1;let b:=x.1.2.1;let g:=x.1.2.2.1;let i:=x.1.2.2.2.1;let l:=x.2.1
 Jb (J (i<b))
  (Jd (InvInsI a i (g.1,g.2) l) (Jv (Rd.next ((a,b,(g.1,g.2),I6.wrap (i+1),()),(gZ (aR (g.1,g.2)) T.j a.toNat i.toNat l,())))))
  (Jv (Rd.out ((),(l,()))))
def WS{T:Ty}{lt:T.q->T.q->Bool}{a:Nat}:(j:Nat) -> {l:List T.q}->j<l.length->∀ x∈gZ lt T.j a j l,x∈l
 |0,_,_,_,h=>h
 |j+1,l,c,x,h=>by
  simp only[gZ]at h;split at h;cases b:lt (l.getD (j+1) T.j) (l.getD j T.j)with
  |true=>rw[b]at h;exact qb8 c (by omega) (WS j (by rw[mA];omega) x h)
  |false=>rw[b]at h;exact h
  exact h
def Nu{T:Ty}{lt:T.q->T.q->Bool}{a:Nat}:(j:Nat) -> {l:List T.q}->(gZ lt T.j a j l).length=l.length
 |0,_=>rfl
 |j+1,l=>by
  simp only[gZ];split;cases lt (l.getD (j+1) T.j) (l.getD j T.j)with
  |true=>rw[cond_true,Nu j,mA]
  |false=>rfl
  rfl
structure InvInsO {T:Ty} (a b i:Int) (g:(aZ T).q) (l:List T.q):Prop where
 a0:0<=a
 ai:a<i
 bl:b<=l.length
 il:i<=9223372036854775807
 big:(l.length:Int)<=9223372036854775807
 dom:lI g l
def wk(e:TypeId)(T:Ty)(x:(gy e T).M.X):Fr (gy e T).Out:=
 Jd (InvInsO x.1.1 x.1.2.1 x.1.2.2.2.1 x.1.2.2.1 x.2.1) (Jv (Rd.out ((),(om (aR x.1.2.2.1) T.j x.1.1.toNat (x.1.2.1-x.1.2.2.2.1).toNat x.1.2.2.2.1.toNat x.2.1,()))))
def zb0 {T:Ty} (a b i:Int) (g:(aZ T).q) (l:List T.q) (d:InvInsO a b i g l) (Q:(gy e T).Out->Prop)
  (f:Q (Rd.out ((),(om (aR g) T.j a.toNat (b-i).toNat i.toNat l,())))):((B3 e T) ((a,b,g,i,()),(l,()))).s7 λ
   |.next c=>InvInsO c.1.1 c.1.2.1 c.1.2.2.2.1 c.1.2.2.1 c.2.1/\(c.1.2.1-c.1.2.2.2.1).toNat<(b-i).toNat/\((wk e T) c).s7 Q
   |.out y=>Q (.out y)
   |.back z=>Q (.back z)
   |.pan p=>Q (.pan p):=by
 obtain⟨m,B,t,C,n,o⟩:=d;dsimp only[B3,Fr.s7,Ty.q,PT.q];refine⟨λk=>?_,λk=>?_⟩;have v:=ucx k;have w:I6.wrap (i+1)=i+1:=IntWalk.i64_in _ (by omega);have r:InvInsO a b (i+1) g (gZ (aR g) T.j a.toNat i.toNat l):=⟨m,by omega,by rw[Nu];exact t,by omega,by rw[Nu];exact n,o.sub λx A=>WS _ (by omega) x A⟩;refine⟨⟨m,by omega,by omega,n,o⟩,?_⟩;rw[w];refine⟨r,by omega,r,?_⟩;have h:(b-i).toNat=(b-(i+1)).toNat+1:=by omega
 have s:(i+1).toNat=i.toNat+1:=by omega
 rw[h]at f;rw[s];exact f;have u:=uch k;have h:(b-i).toNat=0:=by omega
 rw[h]at f;exact f
def XJ{T:Ty}{c:Code}(f:af P c (gy e T).M (gy e T) (B3 e T)):af P (.loop c) (gy e T).M (gy e T) (wk e T):=by refine af.loop f (μ:=λx=>(x.1.2.1-x.1.2.2.2.1).toNat) ?_ (λx Q h=>h.1);rintro⟨⟨a,b,g,i,_⟩,⟨l,_⟩⟩ d Q k;exact zb0 a b i g l d Q k.2
def jD{T:Ty}(g:(aZ T).q)(l:List T.q):Prop:=lI g l/\∃ a:T.q->Int,dY (aR g) a l
def jD.sub{T:Ty}{g:(aZ T).q}{l s:List T.q}(h:jD g l)(b:∀ x∈s,x∈l):jD g s:=by obtain⟨c,a,d⟩:=h;exact⟨c.sub b,a,d.sub b⟩
def ng(e:TypeId)(T:Ty):Mt:=⟨e,T,[.d i64,.d i64,(aZ T)],[],λl x=>(bP (aR x.2.2.1) x.1.toNat x.2.1.toNat l,()),λl x=>[0<=x.1,x.1<=x.2.1,x.2.1<=l.length,(l.length:Int)<=4611686018427387903,jD x.2.2.1 l]⟩
def B4(e:TypeId)(T:Ty)(l:List T.q)(x:ap [.d i64,.d i64,(aZ T)]):Fr (List T.q×aa []):=
 let b:=(x.2.2.1.1,x.2.2.1.2);let a:=I6.wrap (x.1+1);Jd (InvInsO x.1 x.2.1 a b l)
  (Jv (om (aR b) T.j x.1.toNat (x.2.1-I6.wrap (x.1+1)).toNat a.toNat l,()))
def WV{T:Ty}(l:List T.q)(c:ap (ng e T).ps)(h:l.length<=maxLen)(m:az ((ng e T).ok l c)):az [((B4 e T) l c).ok]/\((B4 e T) l c).get=(ng e T).f l c:=by obtain⟨a,b,g,rfl⟩:∃ (a b:Int) (g:(aZ T).q),c=(a,b,g,()):=⟨c.1,c.2.1,c.2.2.1,rfl⟩;have i:(0:Int)<=a/\(a:Int)<=b/\(b:Int)<=(List.length (α:=T.q) l:Int)/\(List.length (α:=T.q) l:Int)<=4611686018427387903/\jD g l:=m;obtain⟨n,t,o,h,p,k,r⟩:=i;have s:I6.wrap (a+1)=a+1:=IntWalk.i64_in _ (by omega);dsimp only[B4,Fr.ok,Fr.get,Ty.q,PT.q];rw[s];refine⟨⟨⟨n,by omega,o,by omega,by omega,p⟩,uT⟩,?_⟩;have:=qz7 (key:=k) (lt:=aR g) (d:=T.j) (a:=a.toNat) (b:=b.toNat) (l:=l) (by omega) (by omega) r;show(om (aR g) T.j a.toNat (b-(a+1)).toNat (a+1).toNat l,())=(bP (aR g) a.toNat b.toNat l,());rw[<- this,show(b-(a+1)).toNat=b.toNat-(a.toNat+1) by omega,show(a+1).toNat=a.toNat+1 by omega]
abbrev gF(e:TypeId)(T:Ty):Pt:=⟨38,0,⟨[(1,.d i64),(2,.d i64),(3,.d i64),(10,.d i64)],[.al 10000 0,.o 0 e T]⟩,⟨[],[.al 10000 0,.o 0 e T]⟩,⟨[],[]⟩⟩
def BE(e:TypeId)(T:Ty)(x:(gF e T).M.X):Fr (gF e T).Out:=
 let a:=x.1.1;let b:=x.1.2.1;let n:=x.1.2.2.1;let i:=x.1.2.2.2.1;let l:=x.2.1
 Jb (J (i<n))
  (Jd (0<=I6.wrap (b+i)/\I6.wrap (b+i)<l.length)
   (Jd ((I6.wrap (b+i)).toNat<l.length)
    (Jd (0<=I6.wrap (a+i)/\I6.wrap (a+i)<l.length)
     (Jd ((I6.wrap (a+i)).toNat<l.length)
      (Jd (0<=I6.wrap (a+i)/\I6.wrap (a+i)<l.length)
       (Jd ((I6.wrap (a+i)).toNat<l.length)
        (Jd (0<=I6.wrap (b+i)/\I6.wrap (b+i)<(l.set (I6.wrap (a+i)).toNat (l.getD (I6.wrap (b+i)).toNat T.j)).length)
         (Jd ((I6.wrap (b+i)).toNat<(l.set (I6.wrap (a+i)).toNat (l.getD (I6.wrap (b+i)).toNat T.j)).length)
          (Jv (Rd.next ((a,b,n,I6.wrap (i+1),()),
           ((l.set (I6.wrap (a+i)).toNat (l.getD (I6.wrap (b+i)).toNat T.j)).set (I6.wrap (b+i)).toNat (l.getD (I6.wrap (a+i)).toNat T.j),()))))))))))))
  (Jv (Rd.out ((),(l,()))))
structure InvSwp {T:Ty} (a b n i:Int) (l:List T.q):Prop where
 a0:0<=a
 b0:0<=b
 i0:0<=i
 al:a+n<=l.length
 bl:b+n<=l.length
 big:(l.length:Int)<=9223372036854775807
def wu(e:TypeId)(T:Ty)(x:(gF e T).M.X):Fr (gF e T).Out:=
 Jd (InvSwp x.1.1 x.1.2.1 x.1.2.2.1 x.1.2.2.2.1 x.2.1) (Jv (Rd.out ((),(fZ T.j (x.1.2.2.1-x.1.2.2.2.1).toNat (x.1.1+x.1.2.2.2.1).toNat (x.1.2.1+x.1.2.2.2.1).toNat x.2.1,()))))
def zcf {T:Ty} (a b n i:Int) (l:List T.q) (d:InvSwp a b n i l) (Q:(gF e T).Out->Prop)
  (f:Q (Rd.out ((),(fZ T.j (n-i).toNat (a+i).toNat (b+i).toNat l,())))):((BE e T) ((a,b,n,i,()),(l,()))).s7 λ
   |.next c=>InvSwp c.1.1 c.1.2.1 c.1.2.2.1 c.1.2.2.2.1 c.2.1/\(c.1.2.2.1-c.1.2.2.2.1).toNat<(n-i).toNat/\((wu e T) c).s7 Q
   |.out y=>Q (.out y)
   |.back z=>Q (.back z)
   |.pan p=>Q (.pan p):=by
 obtain⟨k,m,v,w,x,A⟩:=d;dsimp only[BE,Fr.s7,Ty.q,PT.q];refine⟨λg=>?_,λg=>?_⟩;have r:=ucx g;have s:I6.wrap (b+i)=b+i:=IntWalk.i64_in _ (by omega);have t:I6.wrap (a+i)=a+i:=IntWalk.i64_in _ (by omega);have u:I6.wrap (i+1)=i+1:=IntWalk.i64_in _ (by omega);rw[s,t,u];simp;refine⟨⟨by omega,by omega⟩,by omega,⟨by omega,by omega⟩,by omega,⟨by omega,by omega⟩,by omega,⟨by omega,by omega⟩,by omega,?_⟩;have h:InvSwp a b n (i+1) (ie l T.j (a+i).toNat (b+i).toNat):=⟨k,m,by omega,by rw[mA];omega,by rw[mA];omega,by rw[mA];omega⟩;refine⟨h,by omega,h,?_⟩;rw[show(n-i).toNat=(n-(i+1)).toNat+1 by omega]at f;rw[show(a+(i+1)).toNat=(a+i).toNat+1 by omega,show(b+(i+1)).toNat=(b+i).toNat+1 by omega];exact f;have o:=uch g;rw[show(n-i).toNat=0 by omega]at f;exact f
def XR{T:Ty}{c:Code}(f:af P c (gF e T).M (gF e T) (BE e T)):af P (.loop c) (gF e T).M (gF e T) (wu e T):=by refine af.loop f (μ:=λx=>(x.1.2.2.1-x.1.2.2.2.1).toNat) ?_ (λx Q h=>h.1);rintro⟨⟨a,b,n,i,_⟩,⟨l,_⟩⟩ d Q g;exact zcf a b n i l d Q g.2
def mh(e:TypeId)(T:Ty):Mt:=⟨e,T,[.d i64,.d i64,.d i64,(aZ T)],[],λl x=>(fZ T.j x.2.2.1.toNat x.1.toNat x.2.1.toNat l,()),λl x=>[0<=x.1,0<=x.2.1,x.1+x.2.2.1<=l.length,x.2.1+x.2.2.1<=l.length]⟩
def Ga(e:TypeId)(T:Ty)(l:List T.q)(x:ap [.d i64,.d i64,.d i64,(aZ T)]):Fr (List T.q×aa []):=
 Jd (InvSwp x.1 x.2.1 x.2.2.1 0 l) (Jv (fZ T.j (x.2.2.1-0).toNat (x.1+0).toNat (x.2.1+0).toNat l,()))
def qcb{T:Ty}(l:List T.q)(c:ap (mh e T).ps)(d:l.length<=maxLen)(i:az ((mh e T).ok l c)):az [((Ga e T) l c).ok]/\((Ga e T) l c).get=(mh e T).f l c:=by obtain⟨a,b,n,g,rfl⟩:∃ (a b n:Int) (g:(aZ T).q),c=(a,b,n,g,()):=⟨c.1,c.2.1,c.2.2.1,c.2.2.2.1,rfl⟩;have h:(0:Int)<=a/\(0:Int)<=b/\(a:Int)+n<=(List.length (α:=T.q) l:Int)/\(b:Int)+n<=(List.length (α:=T.q) l:Int):=i;obtain⟨k,m,o,p⟩:=h;simp only[maxLen]at d;refine⟨⟨⟨k,m,ufe _,o,p,by omega⟩,uT⟩,?_⟩;show(fZ T.j (n-0).toNat (a+0).toNat (b+0).toNat l,())=(fZ T.j n.toNat a.toNat b.toNat l,());rw[uet,ue8,ue8]
def Et{Q:Nat->Bool}:(f a i j:Nat)->j-i<=f->j-i<=a->cM Q f i j=cM Q a i j
 |0,0,_,_,_,_=>rfl
 |0,a+1,i,j,h,_=>by simp only[cM];rw[uf1 (by omega)]
 |f+1,0,i,j,_,h=>by simp only[cM];rw[uf1 (by omega)]
 |f+1,a+1,i,j,h,b=>by
  simp only[cM];split;cases Q ((i+j)/2)with
  |true=>exact Et f a _ _ (by omega) (by omega)
  |false=>exact Et f a _ _ (by omega) (by omega)
  rfl
def JG{Q:Nat->Bool}{j:Nat}(h:i<j):cM Q (j-i) i j=bif Q ((i+j)/2)then cM Q (j-((i+j)/2+1)) ((i+j)/2+1) j else cM Q ((i+j)/2-i) i ((i+j)/2):=by
 obtain⟨f,a⟩:∃ f,j-i=f+1:=⟨j-i-1,by omega⟩;rw[a];simp only[cM];rw[uf0 h];cases Q ((i+j)/2)with
 |true=>exact Et _ _ _ _ (by omega) (by omega)
 |false=>exact Et _ _ _ _ (by omega) (by omega)
def H5{d:α}:(f a i j:Nat)->(l:List α)->0<i->0<j->i+j<=f->i+j<=a->eW d m f i j l=eW d m a i j l
 |0,_,i,j,_,_,_,_,_=>by omega
 |f+1,0,i,j,_,_,_,_,_=>by omega
 |f+1,a+1,i,j,l,b,c,e,g=>by simp only[eW];split;rfl;split;exact H5 f a _ _ _ (by omega) (by omega) (by omega) (by omega);exact H5 f a _ _ _ (by omega) (by omega) (by omega) (by omega)
abbrev g7(e:TypeId)(T:Ty):Pt:=⟨58,0,⟨[(2,.d i64),(4,(aZ T)),(10,.d i64),(11,.d i64)],[.al 10000 0,.o 0 e T]⟩,⟨[(2,.d i64),(4,(aZ T)),(10,.d i64)],[.al 10000 0,.o 0 e T]⟩,⟨[],[]⟩⟩
def B6(e:TypeId)(T:Ty)(x:(g7 e T).M.X):Fr (g7 e T).Out:=
 let m:=x.1.1;let g:=x.1.2.1;let i:=x.1.2.2.1;let j:=x.1.2.2.2.1;let l:=x.2.1
 Jb (i != j)
  (Jb (J (i>j))
   (Jd (0<=I6.wrap (m-i))
    (Jd (0<=m)
     (Jd (I6.wrap (m-i)+j<=(l.length:Int))
      (Jd (m+j<=(l.length:Int))
       (Jv (Rd.next ((m,(g.1,g.2),I6.wrap (i-j),j,()),(((mh e T).f l (I6.wrap (m-i),m,j,(g.1,g.2),())).1,()))))))))
   (Jd (0<=I6.wrap (m-i))
    (Jd (0<=I6.wrap (I6.wrap (m+j)-i))
     (Jd (I6.wrap (m-i)+i<=(l.length:Int))
      (Jd (I6.wrap (I6.wrap (m+j)-i)+i<=(l.length:Int))
       (Jv (Rd.next ((m,(g.1,g.2),i,I6.wrap (j-i),()),(((mh e T).f l (I6.wrap (m-i),I6.wrap (I6.wrap (m+j)-i),i,(g.1,g.2),())).1,())))))))))
  (Jv (Rd.out ((m,(g.1,g.2),i,()),(l,()))))
def vQ{T:Ty}:(n a b:Nat)->(l:List T.q)->(fZ T.j n a b l).length=l.length
 |0,_,_,_=>rfl
 |n+1,a,b,l=>by simp only[fZ];rw[vQ n,mA]
structure InvRot {T:Ty} (m i j:Int) (l:List T.q):Prop where
 i0:0<i
 j0:0<j
 im:i<=m
 ml:m+j<=l.length
 big:(l.length:Int)<=4611686018427387903
def wm(e:TypeId)(T:Ty)(x:(g7 e T).M.X):Fr (g7 e T).Out:=
 Jd (InvRot x.1.1 x.1.2.2.1 x.1.2.2.2.1 x.2.1) (Jv (Rd.out ((x.1.1,x.1.2.1,((eW T.j x.1.1.toNat (x.1.2.2.1.toNat+x.1.2.2.2.1.toNat) x.1.2.2.1.toNat x.1.2.2.2.1.toNat x.2.1).1:Nat),()),
  ((eW T.j x.1.1.toNat (x.1.2.2.1.toNat+x.1.2.2.2.1.toNat) x.1.2.2.1.toNat x.1.2.2.2.1.toNat x.2.1).2,()))))
def zb8 {T:Ty} (m i j:Int) (g:(aZ T).q) (l:List T.q) (d:InvRot m i j l) (Q:(g7 e T).Out->Prop)
  (a:Q (Rd.out ((m,g,((eW T.j m.toNat (i.toNat+j.toNat) i.toNat j.toNat l).1:Nat),()),((eW T.j m.toNat (i.toNat+j.toNat) i.toNat j.toNat l).2,())))):((B6 e T) ((m,g,i,j,()),(l,()))).s7 λ
   |.next b=>InvRot b.1.1 b.1.2.2.1 b.1.2.2.2.1 b.2.1/\b.1.2.2.1.toNat+b.1.2.2.2.1.toNat<i.toNat+j.toNat/\((wm e T) b).s7 Q
   |.out y=>Q (.out y)
   |.back z=>Q (.back z)
   |.pan p=>Q (.pan p):=by
 obtain⟨n,o,r,E,F⟩:=d;obtain⟨f,t⟩:∃ f,i.toNat+j.toNat=f+1:=⟨i.toNat+j.toNat-1,by omega⟩;have x:I6.wrap (m-i)=m-i:=IntWalk.i64_in _ (by omega);have A:I6.wrap (i-j)=i-j:=IntWalk.i64_in _ (by omega);have B:I6.wrap (m+j)=m+j:=IntWalk.i64_in _ (by omega);have C:I6.wrap (m+j-i)=m+j-i:=IntWalk.i64_in _ (by omega);have D:I6.wrap (j-i)=j-i:=IntWalk.i64_in _ (by omega);dsimp only[B6,Fr.s7,Ty.q,PT.q,mh];rw[x,A,B,C,D];rw[t]at a;simp only[eW]at a;refine⟨λh=>⟨λk=>?_,λk=>?_⟩,λh=>?_⟩;have u:i>j:=ucx k;rw[uf1 (by omega),uf0 (by omega)]at a;have c:InvRot m (i-j) j (fZ T.j j.toNat (m-i).toNat m.toNat l):=⟨by omega,o,by omega,by rw[vQ];omega,by rw[vQ];omega⟩;refine⟨by omega,by omega,by omega,by omega,c,by omega,c,?_⟩;dsimp only[Ty.q,PT.q];rw[H5 _ f (i-j).toNat j.toNat _ (by omega) (by omega) (ufd _) (by omega),show(i-j).toNat=i.toNat-j.toNat by omega,show(m-i).toNat=m.toNat-i.toNat by omega];exact a;have v:¬ i>j:=uch k;have w:i≠j:=by simpa using h
 rw[uf1 (by omega),uf1 (by omega)]at a;have c:InvRot m i (j-i) (fZ T.j i.toNat (m-i).toNat (m+j-i).toNat l):=⟨n,by omega,r,by rw[vQ];omega,by rw[vQ];omega⟩;refine⟨by omega,by omega,by omega,by omega,c,by omega,c,?_⟩;dsimp only[Ty.q,PT.q];rw[H5 _ f i.toNat (j-i).toNat _ (by omega) (by omega) (ufd _) (by omega),show(j-i).toNat=j.toNat-i.toNat by omega,show(m-i).toNat=m.toNat-i.toNat by omega,show(m+j-i).toNat=m.toNat+j.toNat-i.toNat by omega];exact a;have s:i=j:=by simpa using h
 rw[uf0 (by omega)]at a;have:((i.toNat:Nat):Int)=i:=by omega
 rw[this]at a;exact a
def XL{T:Ty}{c:Code}(b:af P c (g7 e T).M (g7 e T) (B6 e T)):af P (.loop c) (g7 e T).M (g7 e T) (wm e T):=by refine af.loop (n:=58) (id:=0) b (inv:=λx=>InvRot x.1.1 x.1.2.2.1 x.1.2.2.2.1 x.2.1) (μ:=λx=>x.1.2.2.1.toNat+x.1.2.2.2.1.toNat) ?_ (λx Q h=>h.1);rintro⟨⟨m,g,i,j,_⟩,⟨l,_⟩⟩ a Q d;exact zb8 m i j g l a Q d.2
def OX{T:Ty}{m:Nat}:(f i j:Nat)->(l:List T.q)->0<i->0<j->i+j<=f->0<(eW T.j m f i j l).1/\(eW T.j m f i j l).1<=i/\(eW T.j m f i j l).1<=j/\(eW T.j m f i j l).2.length=l.length
 |0,i,j,l,_,_,_=>by omega
 |f+1,i,j,l,a,b,c=>by simp only[eW];split;exact⟨a,ufd _,by omega,rfl⟩;split;have:=OX (m:=m) f (i-j) j (fZ T.j j (m-i) m l) (by omega) b (by omega);rw[vQ]at this;omega;have:=OX (m:=m) f i (j-i) (fZ T.j i (m-i) (m+j-i) l) a (by omega) (by omega);rw[vQ]at this;omega
def rN(e:TypeId)(T:Ty):Mt:=⟨e,T,[.d i64,.d i64,.d i64,(aZ T)],[],λl x=>(sg T.j x.1.toNat x.2.1.toNat x.2.2.1.toNat l,()),λl x=>[0<=x.1,x.1<x.2.1,x.2.1<x.2.2.1,x.2.2.1<=l.length,(l.length:Int)<=4611686018427387903]⟩
def roI{T:Ty}(m i j:Int)(l:List T.q):Int:=((eW T.j m.toNat (i.toNat+j.toNat) i.toNat j.toNat l).1:Nat)
def roL{T:Ty}(m i j:Int)(l:List T.q):List T.q:=(eW T.j m.toNat (i.toNat+j.toNat) i.toNat j.toNat l).2
def B7(e:TypeId)(T:Ty)(l:List T.q)(x:ap [.d i64,.d i64,.d i64,(aZ T)]):Fr (List T.q×aa []):=
 let a:=x.1;let m:=x.2.1;let b:=x.2.2.1;let g:=x.2.2.2.1
 let i:=roI m (I6.wrap (m-a)) (I6.wrap (b-m)) l
 let r:=roL m (I6.wrap (m-a)) (I6.wrap (b-m)) l
 Jd (InvRot m (I6.wrap (m-a)) (I6.wrap (b-m)) l)
 (Jd (0<=I6.wrap (m-i))
  (Jd (0<=m)
   (Jd (I6.wrap (m-i)+i<=(r.length:Int))
    (Jd (m+i<=(r.length:Int))
     (Jv (((mh e T).f r (I6.wrap (m-i),m,i,(g.1,g.2),())).1,()))))))
def qae{T:Ty}(l:List T.q)(c:ap (rN e T).ps)(k:l.length<=maxLen)(h:az ((rN e T).ok l c)):az [((B7 e T) l c).ok]/\((B7 e T) l c).get=(rN e T).f l c:=by
 obtain⟨a,m,b,g,rfl⟩:∃ (a m b:Int) (g:(aZ T).q),c=(a,m,b,g,()):=⟨c.1,c.2.1,c.2.2.1,c.2.2.2.1,rfl⟩;have d:(0:Int)<=a/\(a:Int)<m/\(m:Int)<b/\(b:Int)<=(List.length (α:=T.q) l:Int)/\(List.length (α:=T.q) l:Int)<=4611686018427387903:=h;obtain⟨u,v,w,x,n⟩:=d;have p:I6.wrap (m-a)=m-a:=IntWalk.i64_in _ (by omega);have s:I6.wrap (b-m)=b-m:=IntWalk.i64_in _ (by omega);have o:=OX (m:=m.toNat) ((m-a).toNat+(b-m).toNat) (m-a).toNat (b-m).toNat l (by omega) (by omega) (ufd _);dsimp only[B7,Fr.ok,Fr.get,Ty.q,PT.q,mh,roI,roL];rw[p,s];have i:sg T.j a.toNat m.toNat b.toNat l=fZ T.j (eW T.j m.toNat ((m-a).toNat+(b-m).toNat) (m-a).toNat (b-m).toNat l).1 (m.toNat-(eW T.j m.toNat ((m-a).toNat+(b-m).toNat) (m-a).toNat (b-m).toNat l).1) m.toNat (eW T.j m.toNat ((m-a).toNat+(b-m).toNat) (m-a).toNat (b-m).toNat l).2:=by unfold sg;rw[show b.toNat-a.toNat=(m-a).toNat+(b-m).toNat by omega,show m.toNat-a.toNat=(m-a).toNat by omega,show b.toNat-m.toNat=(b-m).toNat by omega]
 generalize eW T.j m.toNat ((m-a).toNat+(b-m).toNat) (m-a).toNat (b-m).toNat l=r at o i |-;have t:I6.wrap (m-(r.1:Int))=m-r.1:=IntWalk.i64_in _ (by omega);rw[t];refine⟨⟨⟨by omega,by omega,by omega,by omega,n⟩,by omega,by omega,by omega,by omega,uT⟩,?_⟩;show(fZ T.j (r.1:Int).toNat (m-r.1).toNat m.toNat r.2,())=(sg T.j a.toNat m.toNat b.toNat l,());rw[i,show(r.1:Int).toNat=r.1 by omega,show(m-(r.1:Int)).toNat=m.toNat-r.1 by omega]
def de(i j:Int):Int:=I6.wrap ((U6.wrap (I6.wrap (i+j))).fdiv (2 ^ min (Int.toNat 1) U6.bits))
def GL{j:Nat}(h:i+j<=9223372036854775807):de (i:Int) j=((i+j)/2:Nat):=qzf h
abbrev g8(e:TypeId)(T:Ty):Pt:=⟨220,0,⟨[(1,.d i64),(4,(aZ T)),(10,.d i64),(11,.d i64)],[.al 10000 0,.o 0 e T]⟩,⟨[(1,.d i64),(10,.d i64)],[.al 10000 0,.o 0 e T]⟩,⟨[],[]⟩⟩
def B8(e:TypeId)(T:Ty)(x:(g8 e T).M.X):Fr (g8 e T).Out:=
 let c:=x.1.1;let g:=x.1.2.1;let i:=x.1.2.2.1;let j:=x.1.2.2.2.1;let l:=x.2.1
 Jb (J (i<j))
  (Jd (¬(1:Int)<0)
   (Jd (0<=de i j/\de i j<(l.length:Int))
    (Jd ((de i j).toNat<l.length)
     (Jd (0<=c/\c<(l.length:Int))
      (Jd ((c).toNat<l.length)
       (Jd (g.2 (l.getD (de i j).toNat T.j,l.getD c.toNat T.j,()))
        (Jb (J ((g.1 (l.getD (de i j).toNat T.j,l.getD c.toNat T.j,())).1<0))
         (Jv (Rd.next ((c,(g.1,g.2),I6.wrap (de i j+1),j,()),(l,()))))
         (Jv (Rd.next ((c,(g.1,g.2),i,de i j,()),(l,())))))))))))
  (Jv (Rd.out ((c,i,()),(l,()))))
structure InvS0 {T:Ty} (c i j:Int) (g:(aZ T).q) (l:List T.q):Prop where
 c0:0<=c
 cl:c<l.length
 i0:0<=i
 ij:i<=j
 jl:j<=l.length
 big:(l.length:Int)<=4611686018427387903
 dom:lI g l
def wn(e:TypeId)(T:Ty)(x:(g8 e T).M.X):Fr (g8 e T).Out:=
 let c:=x.1.1;let g:=x.1.2.1;let i:=x.1.2.2.1;let j:=x.1.2.2.2.1;let l:=x.2.1
 Jd (InvS0 c i j g l) (Jv (Rd.out ((c,(cM (λh=>aR g (l.getD h T.j) (l.getD c.toNat T.j)) (j.toNat-i.toNat) i.toNat j.toNat:Nat),()),(l,()))))
def zb9 {T:Ty} (c i j:Int) (g:(aZ T).q) (l:List T.q) (r:InvS0 c i j g l) (Q:(g8 e T).Out->Prop)
  (d:Q (Rd.out ((c,(cM (λh=>aR g (l.getD h T.j) (l.getD c.toNat T.j)) (j.toNat-i.toNat) i.toNat j.toNat:Nat),()),(l,())))):((B8 e T) ((c,g,i,j,()),(l,()))).s7 λ
   |.next f=>InvS0 f.1.1 f.1.2.2.1 f.1.2.2.2.1 f.1.2.1 f.2.1/\(f.1.2.2.2.1-f.1.2.2.1).toNat<(j-i).toNat/\((wn e T) f).s7 Q
   |.out y=>Q (.out y)
   |.back z=>Q (.back z)
   |.pan p=>Q (.pan p):=by
 obtain⟨A,B,G,H,K,C,u⟩:=r;obtain⟨a,rfl⟩:∃ n:Nat,i=n:=⟨i.toNat,by omega⟩;obtain⟨b,rfl⟩:∃ n:Nat,j=n:=⟨j.toNat,by omega⟩;obtain⟨m,rfl⟩:∃ n:Nat,c=n:=⟨c.toNat,by omega⟩;have E:de (a:Int) b=((a+b)/2:Nat):=GL (by omega);have F:I6.wrap ((((a+b)/2:Nat):Int)+1)=((a+b)/2+1:Nat):=D0 (by omega);dsimp only[B8,Fr.s7,PT.q];rw[E,F];simp only[uc0]at d |-;refine⟨λv=>?_,λv=>?_⟩;have w:a<b:=by have:(a:Int)<b:=ucx v;omega
 rw[JG w]at d;have x:(a+b)/2<l.length:=by omega
 have t:m<l.length:=by omega
 refine⟨by omega,⟨by omega,by omega⟩,by omega,⟨by omega,by omega⟩,by omega,u _ (eT x) _ (eT t),λs=>?_,λs=>?_⟩;have k:(aR g (l.getD ((a+b)/2) T.j) (l.getD m T.j))=true:=s;rw[k]at d;have o:InvS0 (m:Int) ((a+b)/2+1:Nat) b g l:=⟨A,B,by omega,by omega,by omega,C,u⟩;exact⟨o,by omega,o,d⟩;have k:(aR g (l.getD ((a+b)/2) T.j) (l.getD m T.j))=false:=s;rw[k]at d;have o:InvS0 (m:Int) a ((a+b)/2:Nat) g l:=⟨A,B,by omega,by omega,by omega,C,u⟩;exact⟨o,by omega,o,d⟩;have D:¬ a<b:=by have:¬ (a:Int)<b:=uch v;omega
 rw[show b-a=0 by omega]at d;exact d
def XM{T:Ty}{c:Code}(b:af P c (g8 e T).M (g8 e T) (B8 e T)):af P (.loop c) (g8 e T).M (g8 e T) (wn e T):=by refine af.loop b (μ:=λx=>(x.1.2.2.2.1-x.1.2.2.1).toNat) ?_ (λx Q h=>h.1);rintro⟨⟨c,g,i,j,_⟩,⟨l,_⟩⟩ a Q d;exact zb9 c i j g l a Q d.2
abbrev gC(e:TypeId)(T:Ty):Pt:=⟨220,4,⟨[(2,.d i64),(4,(aZ T)),(14,.d i64),(15,.d i64)],[.al 10000 0,.o 0 e T]⟩,⟨[(2,.d i64),(14,.d i64)],[.al 10000 0,.o 0 e T]⟩,⟨[],[]⟩⟩
def BA(e:TypeId)(T:Ty)(x:(gC e T).M.X):Fr (gC e T).Out:=
 let c:=x.1.1;let g:=x.1.2.1;let i:=x.1.2.2.1;let j:=x.1.2.2.2.1;let l:=x.2.1
 Jb (J (i<j))
  (Jd (¬(1:Int)<0)
   (Jd (0<=c/\c<(l.length:Int))
    (Jd ((c).toNat<l.length)
     (Jd (0<=de i j/\de i j<(l.length:Int))
      (Jd ((de i j).toNat<l.length)
       (Jd (g.2 (l.getD c.toNat T.j,l.getD (de i j).toNat T.j,()))
        (Jb (!J ((g.1 (l.getD c.toNat T.j,l.getD (de i j).toNat T.j,())).1<0))
         (Jv (Rd.next ((c,(g.1,g.2),I6.wrap (de i j+1),j,()),(l,()))))
         (Jv (Rd.next ((c,(g.1,g.2),i,de i j,()),(l,())))))))))))
  (Jv (Rd.out ((c,i,()),(l,()))))
structure InvS2 {T:Ty} (c i j:Int) (g:(aZ T).q) (l:List T.q):Prop where
 c0:0<=c
 cl:c<l.length
 i0:0<=i
 ij:i<=j
 jl:j<=l.length
 big:(l.length:Int)<=4611686018427387903
 dom:lI g l
def wq(e:TypeId)(T:Ty)(x:(gC e T).M.X):Fr (gC e T).Out:=
 let c:=x.1.1;let g:=x.1.2.1;let i:=x.1.2.2.1;let j:=x.1.2.2.2.1;let l:=x.2.1
 Jd (InvS2 c i j g l) (Jv (Rd.out ((c,(cM (λh=>!aR g (l.getD c.toNat T.j) (l.getD h T.j)) (j.toNat-i.toNat) i.toNat j.toNat:Nat),()),(l,()))))
def zcb {T:Ty} (c i j:Int) (g:(aZ T).q) (l:List T.q) (r:InvS2 c i j g l) (Q:(gC e T).Out->Prop)
  (d:Q (Rd.out ((c,(cM (λh=>!aR g (l.getD c.toNat T.j) (l.getD h T.j)) (j.toNat-i.toNat) i.toNat j.toNat:Nat),()),(l,())))):((BA e T) ((c,g,i,j,()),(l,()))).s7 λ
   |.next f=>InvS2 f.1.1 f.1.2.2.1 f.1.2.2.2.1 f.1.2.1 f.2.1/\(f.1.2.2.2.1-f.1.2.2.1).toNat<(j-i).toNat/\((wq e T) f).s7 Q
   |.out y=>Q (.out y)
   |.back z=>Q (.back z)
   |.pan p=>Q (.pan p):=by
 obtain⟨A,B,G,H,K,C,u⟩:=r;obtain⟨a,rfl⟩:∃ n:Nat,i=n:=⟨i.toNat,by omega⟩;obtain⟨b,rfl⟩:∃ n:Nat,j=n:=⟨j.toNat,by omega⟩;obtain⟨m,rfl⟩:∃ n:Nat,c=n:=⟨c.toNat,by omega⟩;have E:de (a:Int) b=((a+b)/2:Nat):=GL (by omega);have F:I6.wrap ((((a+b)/2:Nat):Int)+1)=((a+b)/2+1:Nat):=D0 (by omega);dsimp only[BA,Fr.s7,PT.q];rw[E,F];simp only[uc0]at d |-;refine⟨λv=>?_,λv=>?_⟩;have w:a<b:=by have:(a:Int)<b:=ucx v;omega
 rw[JG w]at d;have x:(a+b)/2<l.length:=by omega
 have t:m<l.length:=by omega
 refine⟨by omega,⟨by omega,by omega⟩,by omega,⟨by omega,by omega⟩,by omega,u _ (eT t) _ (eT x),λs=>?_,λs=>?_⟩;have k:(!aR g (l.getD m T.j) (l.getD ((a+b)/2) T.j))=true:=s;rw[k]at d;have o:InvS2 (m:Int) ((a+b)/2+1:Nat) b g l:=⟨A,B,by omega,by omega,by omega,C,u⟩;exact⟨o,by omega,o,d⟩;have k:(!aR g (l.getD m T.j) (l.getD ((a+b)/2) T.j))=false:=s;rw[k]at d;have o:InvS2 (m:Int) a ((a+b)/2:Nat) g l:=⟨A,B,by omega,by omega,by omega,C,u⟩;exact⟨o,by omega,o,d⟩;have D:¬ a<b:=by have:¬ (a:Int)<b:=uch v;omega
 rw[show b-a=0 by omega]at d;exact d
def XO{T:Ty}{c:Code}(b:af P c (gC e T).M (gC e T) (BA e T)):af P (.loop c) (gC e T).M (gC e T) (wq e T):=by refine af.loop b (μ:=λx=>(x.1.2.2.2.1-x.1.2.2.1).toNat) ?_ (λx Q h=>h.1);rintro⟨⟨c,g,i,j,_⟩,⟨l,_⟩⟩ a Q d;exact zcb c i j g l a Q d.2
abbrev gE(e:TypeId)(T:Ty):Pt:=⟨220,8,⟨[(1,.d i64),(2,.d i64),(3,.d i64),(4,(aZ T)),(18,.d i64),(19,.d i64),(20,.d i64),(21,.d i64),(22,.d i64)],[.al 10000 0,.o 0 e T]⟩,⟨[(1,.d i64),(2,.d i64),(3,.d i64),(4,(aZ T)),(18,.d i64),(19,.d i64),(20,.d i64)],[.al 10000 0,.o 0 e T]⟩,⟨[],[]⟩⟩
def BC(e:TypeId)(T:Ty)(x:(gE e T).M.X):Fr (gE e T).Out:=
 let a:=x.1.1;let m:=x.1.2.1;let b:=x.1.2.2.1;let g:=x.1.2.2.2.1;let bc:=x.1.2.2.2.2.1;let n:=x.1.2.2.2.2.2.1;let i:=x.1.2.2.2.2.2.2.1;let j:=x.1.2.2.2.2.2.2.2.1;let p:=x.1.2.2.2.2.2.2.2.2.1;let l:=x.2.1
 Jb (J (i<j))
  (Jd (¬(1:Int)<0)
   (Jd (0<=I6.wrap (p-de i j)/\I6.wrap (p-de i j)<(l.length:Int))
    (Jd ((I6.wrap (p-de i j)).toNat<l.length)
     (Jd (0<=de i j/\de i j<(l.length:Int))
      (Jd ((de i j).toNat<l.length)
       (Jd (g.2 (l.getD (I6.wrap (p-de i j)).toNat T.j,l.getD (de i j).toNat T.j,()))
        (Jb (!J ((g.1 (l.getD (I6.wrap (p-de i j)).toNat T.j,l.getD (de i j).toNat T.j,())).1<0))
         (Jv (Rd.next ((a,m,b,(g.1,g.2),bc,n,I6.wrap (de i j+1),j,p,()),(l,()))))
         (Jv (Rd.next ((a,m,b,(g.1,g.2),bc,n,i,de i j,p,()),(l,())))))))))))
  (Jv (Rd.out ((a,m,b,(g.1,g.2),bc,n,i,()),(l,()))))
structure InvS4 {T:Ty} (p i j:Int) (g:(aZ T).q) (l:List T.q):Prop where
 p0:0<=p
 pl:p<i+l.length
 pj:j<=p+1
 i0:0<=i
 ij:i<=j
 jl:j<=l.length
 big:(l.length:Int)<=4611686018427387903
 dom:lI g l
def wt(e:TypeId)(T:Ty)(x:(gE e T).M.X):Fr (gE e T).Out:=
 let a:=x.1.1;let m:=x.1.2.1;let b:=x.1.2.2.1;let g:=x.1.2.2.2.1;let bc:=x.1.2.2.2.2.1;let n:=x.1.2.2.2.2.2.1;let i:=x.1.2.2.2.2.2.2.1;let j:=x.1.2.2.2.2.2.2.2.1;let p:=x.1.2.2.2.2.2.2.2.2.1;let l:=x.2.1
 Jd (InvS4 p i j g l) (Jv (Rd.out ((a,m,b,g,bc,n,(cM (λh=>!aR g (l.getD (p.toNat-h) T.j) (l.getD h T.j)) (j.toNat-i.toNat) i.toNat j.toNat:Nat),()),(l,()))))
def zcd {T:Ty} (a m b bc n p i j:Int) (g:(aZ T).q) (l:List T.q) (t:InvS4 p i j g l) (Q:(gE e T).Out->Prop)
  (f:Q (Rd.out ((a,m,b,g,bc,n,(cM (λh=>!aR g (l.getD (p.toNat-h) T.j) (l.getD h T.j)) (j.toNat-i.toNat) i.toNat j.toNat:Nat),()),(l,())))):((BC e T) ((a,m,b,g,bc,n,i,j,p,()),(l,()))).s7 λ
   |.next k=>InvS4 k.1.2.2.2.2.2.2.2.2.1 k.1.2.2.2.2.2.2.1 k.1.2.2.2.2.2.2.2.1 k.1.2.2.2.1 k.2.1/\(k.1.2.2.2.2.2.2.2.1-k.1.2.2.2.2.2.2.1).toNat<(j-i).toNat/\((wt e T) k).s7 Q
   |.out y=>Q (.out y)
   |.back z=>Q (.back z)
   |.pan p=>Q (.pan p):=by
 obtain⟨iy,H,K,L,M,N,C,x⟩:=t;obtain⟨c,rfl⟩:∃ n:Nat,i=n:=⟨i.toNat,by omega⟩;obtain⟨d,rfl⟩:∃ n:Nat,j=n:=⟨j.toNat,by omega⟩;obtain⟨r,rfl⟩:∃ n:Nat,p=n:=⟨p.toNat,by omega⟩;have E:de (c:Int) d=((c+d)/2:Nat):=GL (by omega);have G:I6.wrap ((((c+d)/2:Nat):Int)+1)=((c+d)/2+1:Nat):=D0 (by omega);dsimp only[BC,Fr.s7,PT.q];rw[E,G];have F:(c<d)->I6.wrap ((r:Int)-(((c+d)/2:Nat):Int))=(r-(c+d)/2:Nat):=λh=>Dz (by omega) (by omega);simp only[uc0]at f |-;refine⟨λA=>?_,λA=>?_⟩;have u:c<d:=by have:(c:Int)<d:=ucx A;omega
 rw[JG u]at f;rw[F u];have B:r-(c+d)/2<l.length:=by omega
 have w:(c+d)/2<l.length:=by omega
 refine⟨by omega,⟨by omega,by omega⟩,by omega,⟨by omega,by omega⟩,by omega,x _ (eT B) _ (eT w),λv=>?_,λv=>?_⟩;have o:(!aR g (l.getD (r-(c+d)/2) T.j) (l.getD ((c+d)/2) T.j))=true:=v;rw[o]at f;have s:InvS4 (r:Int) ((c+d)/2+1:Nat) d g l:=⟨iy,by omega,by omega,by omega,by omega,by omega,C,x⟩;exact⟨s,by omega,s,f⟩;have o:(!aR g (l.getD (r-(c+d)/2) T.j) (l.getD ((c+d)/2) T.j))=false:=v;rw[o]at f;have s:InvS4 (r:Int) c ((c+d)/2:Nat) g l:=⟨iy,by omega,by omega,by omega,by omega,by omega,C,x⟩;exact⟨s,by omega,s,f⟩;have D:¬ c<d:=by have:¬ (c:Int)<d:=uch A;omega
 rw[show d-c=0 by omega]at f;exact f
def XQ{T:Ty}{c:Code}(f:af P c (gE e T).M (gE e T) (BC e T)):af P (.loop c) (gE e T).M (gE e T) (wt e T):=by refine af.loop f (μ:=λx=>(x.1.2.2.2.2.2.2.2.1-x.1.2.2.2.2.2.2.1).toNat) ?_ (λx Q h=>h.1);rintro⟨⟨a,m,b,g,bc,n,i,j,p,_⟩,⟨l,_⟩⟩ d Q k;exact zcd a m b bc n p i j g l d Q k.2
abbrev g9(e:TypeId)(T:Ty):Pt:=⟨220,2,⟨[(10,.d i64),(13,.d i64)],[.al 10000 0,.o 0 e T]⟩,⟨[],[.al 10000 0,.o 0 e T]⟩,⟨[],[]⟩⟩
def B9(e:TypeId)(T:Ty)(x:(g9 e T).M.X):Fr (g9 e T).Out:=
 let i:=x.1.1;let k:=x.1.2.1;let l:=x.2.1
 Jb (J (k<I6.wrap (i-1)))
  (Jd (0<=I6.wrap (k+1)/\I6.wrap (k+1)<(l.length:Int))
   (Jd ((I6.wrap (k+1)).toNat<l.length)
    (Jd (0<=k/\k<(l.length:Int))
     (Jd (k.toNat<l.length)
      (Jd (0<=k/\k<(l.length:Int))
       (Jd (k.toNat<l.length)
        (Jd (0<=I6.wrap (k+1)/\I6.wrap (k+1)<((l.set k.toNat (l.getD (I6.wrap (k+1)).toNat T.j)).length:Int))
         (Jd ((I6.wrap (k+1)).toNat<(l.set k.toNat (l.getD (I6.wrap (k+1)).toNat T.j)).length)
          (Jv (Rd.next ((i,I6.wrap (k+1),()),((l.set k.toNat (l.getD (I6.wrap (k+1)).toNat T.j)).set (I6.wrap (k+1)).toNat (l.getD k.toNat T.j),()))))))))))))
  (Jv (Rd.out ((),(l,()))))
structure InvS1 {T:Ty} (i k:Int) (l:List T.q):Prop where
 k0:0<=k
 i0:0<=i
 il:i<=l.length
 big:(l.length:Int)<=4611686018427387903
def wo(e:TypeId)(T:Ty)(x:(g9 e T).M.X):Fr (g9 e T).Out:=
 let i:=x.1.1;let k:=x.1.2.1;let l:=x.2.1
 Jd (InvS1 i k l) (Jv (Rd.out ((),(qx T.j (i-1-k).toNat k.toNat l,()))))
def zca {T:Ty} (i k:Int) (l:List T.q) (c:InvS1 i k l) (Q:(g9 e T).Out->Prop) (a:Q (Rd.out ((),(qx T.j (i-1-k).toNat k.toNat l,())))):((B9 e T) ((i,k,()),(l,()))).s7 λ
   |.next b=>InvS1 b.1.1 b.1.2.1 b.2.1/\(b.1.1-1-b.1.2.1).toNat<(i-1-k).toNat/\((wo e T) b).s7 Q
   |.out y=>Q (.out y)
   |.back z=>Q (.back z)
   |.pan p=>Q (.pan p):=by
 obtain⟨o,r,s,t⟩:=c;have m:I6.wrap (i-1)=i-1:=IntWalk.i64_in _ (by omega);dsimp only[B9,Fr.s7,Ty.q,PT.q];rw[m];simp only[udp];refine⟨λd=>?_,λd=>?_⟩;have h:=ucx d;have n:I6.wrap (k+1)=k+1:=IntWalk.i64_in _ (by omega);rw[n];have f:InvS1 i (k+1) (ie l T.j k.toNat (k+1).toNat):=⟨by omega,by omega,by rw[mA];omega,by rw[mA];omega⟩;refine⟨⟨by omega,by omega⟩,by omega,⟨by omega,by omega⟩,by omega,⟨by omega,by omega⟩,by omega,⟨by omega,by omega⟩,by omega,f,by omega,f,?_⟩;rw[show(i-1-k).toNat=(i-1-(k+1)).toNat+1 by omega]at a;simp only[qx]at a;rw[show k.toNat+1=(k+1).toNat by omega]at a;exact a;have g:=uch d;rw[show(i-1-k).toNat=0 by omega]at a;exact a
def XN{T:Ty}{c:Code}(b:af P c (g9 e T).M (g9 e T) (B9 e T)):af P (.loop c) (g9 e T).M (g9 e T) (wo e T):=by refine af.loop b (μ:=λx=>(x.1.1-1-x.1.2.1).toNat) ?_ (λx Q h=>h.1);rintro⟨⟨i,k,_⟩,⟨l,_⟩⟩ a Q d;exact zca i k l a Q d.2
abbrev gD(e:TypeId)(T:Ty):Pt:=⟨220,6,⟨[(14,.d i64),(17,.d i64)],[.al 10000 0,.o 0 e T]⟩,⟨[],[.al 10000 0,.o 0 e T]⟩,⟨[],[]⟩⟩
def BB(e:TypeId)(T:Ty)(x:(gD e T).M.X):Fr (gD e T).Out:=
 let i:=x.1.1;let k:=x.1.2.1;let l:=x.2.1
 Jb (J (k>i))
  (Jd (0<=I6.wrap (k-1)/\I6.wrap (k-1)<(l.length:Int))
   (Jd ((I6.wrap (k-1)).toNat<l.length)
    (Jd (0<=k/\k<(l.length:Int))
     (Jd (k.toNat<l.length)
      (Jd (0<=k/\k<(l.length:Int))
       (Jd (k.toNat<l.length)
        (Jd (0<=I6.wrap (k-1)/\I6.wrap (k-1)<((l.set k.toNat (l.getD (I6.wrap (k-1)).toNat T.j)).length:Int))
         (Jd ((I6.wrap (k-1)).toNat<(l.set k.toNat (l.getD (I6.wrap (k-1)).toNat T.j)).length)
          (Jv (Rd.next ((i,I6.wrap (k-1),()),((l.set k.toNat (l.getD (I6.wrap (k-1)).toNat T.j)).set (I6.wrap (k-1)).toNat (l.getD k.toNat T.j),()))))))))))))
  (Jv (Rd.out ((),(l,()))))
structure InvS3 {T:Ty} (i k:Int) (l:List T.q):Prop where
 i0:0<=i
 ik:i<=k
 kl:k<l.length
 big:(l.length:Int)<=4611686018427387903
def ws(e:TypeId)(T:Ty)(x:(gD e T).M.X):Fr (gD e T).Out:=
 let i:=x.1.1;let k:=x.1.2.1;let l:=x.2.1
 Jd (InvS3 i k l) (Jv (Rd.out ((),(pJ T.j (k-i).toNat k.toNat l,()))))
def zcc {T:Ty} (i k:Int) (l:List T.q) (c:InvS3 i k l) (Q:(gD e T).Out->Prop) (a:Q (Rd.out ((),(pJ T.j (k-i).toNat k.toNat l,())))):((BB e T) ((i,k,()),(l,()))).s7 λ
   |.next b=>InvS3 b.1.1 b.1.2.1 b.2.1/\(b.1.2.1-b.1.1).toNat<(k-i).toNat/\((ws e T) b).s7 Q
   |.out y=>Q (.out y)
   |.back z=>Q (.back z)
   |.pan p=>Q (.pan p):=by
 obtain⟨n,o,r,s⟩:=c;have m:I6.wrap (k-1)=k-1:=IntWalk.i64_in _ (by omega);dsimp only[BB,Fr.s7,Ty.q,PT.q];rw[m];simp only[udp];refine⟨λd=>?_,λd=>?_⟩;have h:=ucx d;have f:InvS3 i (k-1) (ie l T.j k.toNat (k-1).toNat):=⟨by omega,by omega,by rw[mA];omega,by rw[mA];omega⟩;refine⟨⟨by omega,by omega⟩,by omega,⟨by omega,by omega⟩,by omega,⟨by omega,by omega⟩,by omega,⟨by omega,by omega⟩,by omega,f,by omega,f,?_⟩;rw[show(k-i).toNat=(k-1-i).toNat+1 by omega]at a;simp only[pJ]at a;rw[show k.toNat-1=(k-1).toNat by omega]at a;exact a;have g:=uch d;rw[show(k-i).toNat=0 by omega]at a;exact a
def XP{T:Ty}{c:Code}(b:af P c (gD e T).M (gD e T) (BB e T)):af P (.loop c) (gD e T).M (gD e T) (ws e T):=by refine af.loop b (μ:=λx=>(x.1.2.1-x.1.1).toNat) ?_ (λx Q h=>h.1);rintro⟨⟨i,k,_⟩,⟨l,_⟩⟩ a Q d;exact zcc i k l a Q d.2
end Go.Proofs.YtdokapnnagbehaaGreat
