/-
  Parts of the proof, one behind the other.
-/
import Derived.Test.YtdokapnnagbehaaGreatMe
import Derived.RangeFuncNested
import Derived.Lib.Overlaps
import Derived.Lib.AppendZerosOnto
import Derived.Laws.NewBlocks
import Derived.LoopN
set_option linter.all false
set_option maxRecDepth 100000
set_option maxHeartbeats 4000000
open Option renaming some->U,none->V
open Bool renaming true->Z,false->Y
open Decidable renaming decide->J
open Go Go.RowKit
variable {T α σ ρ β:Type} {P:Program} {ad:Addr} {arr cs cur:Array Value} {f:FuncId} {x a y day:Int} {k:IntKind} {l:List Int} {xs vs news:List Value} {off i n b c d j B m len:Nat} {F F' K:Nat->Prop} {R g R':Nat->Value->Prop} {o:Oper} {p:Prop} {e ety t ty el:TypeId} {v u vx:Value} {w w' W' W:World}
namespace Go.Ab
open Go Go.RowKit
def qub(pc:Pc):Ct:=⟨pc.ps,pc.rs,pc.f,λx=>(pc.bad x=Y)::pc.ok x⟩
def gP(C:Cx)(f:FuncId):Option Ct:=match C.Γ f with
 |some ct=>U ct
 |none=>(C.Pi f).map qub
structure Pan where
 bad:Bool
 pv:PV
 good:List Prop
def jO(C:Cx)(o:Oper)(sl:Nat->AV):Option Pan:=
 match o.guard,o.op,o.op.operands.toList.map (gC sl)with
 |none,.call ⟨.value _,_,_⟩,.c (.fn f i)::args=>match C.Pi f with
  |some pc=>match dK (λ_=>V) (args++i.map .c)with
   |some (xs,[])=>match jf C.Γ pc.ps xs with
    |some (x,n)=>U ⟨pc.bad x,pc.pv x,n++pc.ok x⟩
    |none=>V
   |_=>V
  |none=>V
 |_,_,_=>V
def kX(P:Program)(C:Cx)(b:Nat)(ops:List Oper):List Oper->St->Option (List (Ef×Option Pan)×St)
 |[],s=>U ([],s)
 |o::r,s=>match dY P (gP C) b ops o s.sl s.mem with
  |some e=>match kX P C b ops r (e.go s)with
   |some (es,i)=>U ((e,jO C o s.sl)::es,i)
   |none=>V
  |none=>V
def IG(pv:PV):Ef×Option Pan->List Prop
 |(e,V)=>e.need
 |(e,U p)=>[p.bad=Y->av e.need,p.bad=Z->av p.good/\p.pv=pv]
def Lu(d:St)(all:List (Ef×Option Pan))(good:Tr):List Pan->Tr
 |[]=>good
 |p::r=>.br p.bad (needL (all.flatMap (IG p.pv)) (.leaf (.panic p.pv) d)) (Lu d all good r)
def E0(ops:List Oper)(es:List (Ef×Option Pan)):Bool:=
 let ms:=fW [] ops
 (List.range es.length).all λk=>match es[k]?,ms[k]? with
  |some (f,_),U j=>f.wr.isEmpty || (List.range es.length).all λi=>match es[i]? with
   |some (_,U _)=>j.testBit i
   |_=>Z
  |_,_=>Y
def tL(ops:List Oper)(es:List (Ef×Option Pan)):List Tmp:=
 let ms:=fW [] ops
 (List.range es.length).filterMap λk=>match es[k]?,ms[k]? with
  |some (f,_),U j=>if (List.range es.length).all (λi=>match es[i]? with
   |some (_,U _)=>j.testBit i
   |_=>Z)then V else f.dst
  |_,_=>V
def yf(D:List Tmp)(sl:Nat->AV)(t:Tmp):AV:=if D.contains t then .dead else iF sl t
def Kn(P:Program)(C:Cx)(b:Nat)(ops:List Oper)(s:St):Option Tr:=
 if pM s.n 0 [] ops then match kX P C b ops ops s with
  |some (es,i)=>if r9 ops (es.map (·.1))=Z/\E0 ops es=Z then
    U (Lu ⟨s.n,yf (tL ops es) s.sl,s.mem,s.gs⟩ es (JH (es.map (·.1)) (.leaf .normal (fk i))) (es.filterMap (·.2)))
   else V
  |none=>V
 else V
section
variable {P:Program} {w w':World} {E:Env} {F F':Nat->Prop} {b:Nat} {γ γ' γ0:Nat->Value} {ops:Array Oper} {es:List (Ef×Option Pan)} {C:Cx}
def qme(t:CxOK P C):∀ f ct,gP C f=U ct->af P f ct:=by
 intro f ct h;unfold gP at h;split at h;rename_i u m;cases h;exact t.ct.1 f _ m;cases q:C.Pi f with
 |none=>rw[q]at h;cases h
 |some pc=>
  rw[q]at h;cases h;obtain⟨H,N⟩:=t.pc f pc q;refine⟨H,λw F xs vs hb O i=>?_⟩;obtain⟨j,i⟩:pc.bad xs=Y/\av (pc.ok xs):=je.1 i;refine(N w F xs vs hb O i).mono λe w' h=>?_;rcases h with h|h
  exact h.2;rw[j]at h;cases h.1
def qv6{sl i:Nat->AV}(h:∀ t∈wh o.op,i t=sl t):jO C o i=jO C o sl:=by
 unfold jO;rw[PM h]
def TV{sl:Nat->AV}(h:o.guard≠V):jO C o sl=none:=by
 unfold jO;split;rename_i hg _ _;exact absurd hg h;rfl
def qgh{Γ:Gm}{j:List Oper}{sl:Nat->AV}{m:aT}{e:Ef}(i:dY P Γ b j o sl m=U e)(hg:o.guard=V):e.rd=wh o.op:=by
 unfold dY at i;rw[hg]at i;simp only at i;split at i<;>try trivial
 cases i;rfl
def TU{Γ:Gm}{m:List Oper}{e f:Ef}{s:St}(w:dY P Γ b m o s.sl s.mem=U f)(u:∀ t,e.dst=U t->t ∉ f.rd):jO C o (e.go s).sl=jO C o s.sl:=by
 cases hg:o.guard with
 |some g=>rw[TV (by rw[hg];simp),TV (by rw[hg];simp)]
 |none=>
  refine qv6 λt q=>?_;show e8 s.sl e.dst e.v t=s.sl t;rw[<- qgh w hg]at q;cases F:e.dst with
  |none=>rfl
  |some x=>
   have i:t≠x:=λj=>u x F (j ▸ q);exact if_neg i
def sZ(P:Program)(C:Cx)(b:Nat)(ops:Array Oper)(es:List (Ef×Option Pan))(j:St):List Nat->St->Prop
 |[],s=>s=j
 |i::r,s=>∃ o e p,ops[i]?= U o/\es[i]?= U (e,p)/\dY P (gP C) b ops.toList o s.sl s.mem=U e/\jO C o s.sl=p/\sZ P C b ops es j r (e.go s)
def UV{u:St}:(l:List Oper)->(k:Nat)->(s:St)->(fs:List (Ef×Option Pan))->kX P C b ops.toList l s=U (fs,u)->(∀ i o,l[i]?= U o->ops[k+i]?= U o) ->
  (∀ i e,fs[i]?= U e->es[k+i]?= U e)->sZ P C b ops es u (List.range' k l.length) s
 |[],k,s,fs,h,_,_=>by
  simp only[kX,uck,ued]at h;exact h.2
 |o::r,k,s,fs,h,t,q=>by
  simp only[kX]at h;split at h<;>try trivial
  rename_i e j;split at h<;>try trivial
  rename_i m s2 F;cases h;refine⟨o,e,_,by simpa using t 0 o rfl,by simpa using q 0 _ rfl,j,rfl,?_⟩;refine UV r (k+1) _ m F (λi H hi=>?_) (λi w hi=>?_);have:=t (i+1) H (by simpa using hi)
  rwa [show k+1+i=k+(i+1) by omega]
  have:=q (i+1) w (by simpa using hi)
  rwa [show k+1+i=k+(i+1) by omega]
def UR{m:List Oper}:(l:List Oper)->(s:St)->(fs:List (Ef×Option Pan))->(i:St)->kX P C b m l s=U (fs,i)->i.n=s.n
 |[],s,fs,i,h=>by
  simp only[kX,uck,ued]at h;rw[h.2]
 |o::r,s,fs,i,h=>by
  simp only[kX]at h;split at h<;>try trivial
  split at h<;>try trivial
  rename_i j s2 q;cases h;exact(UR r _ j _ q).trans rfl
def UQ{j:List Oper}:(l:List Oper)->(s:St)->(fs:List (Ef×Option Pan))->(m:St)->kX P C b j l s=U (fs,m)->fs.length=l.length
 |[],s,fs,m,h=>by
  simp only[kX,uck,ued]at h;rw[<- h.1];rfl
 |o::r,s,fs,m,h=>by
  simp only[kX]at h;split at h<;>try trivial
  split at h<;>try trivial
  rename_i i s2 q;cases h;simp[UQ r _ i _ q]
def QK{s':St}:(u:List Nat)->(s:St)->sZ P C b ops es s' u s->u.Pairwise (· < ·)->j∈u ->
  (∀ i∈u,i<j->∀ e f,es[i]?= U e->es[j]?= U f->jI e.1 f.1=Z) ->
  ∃ o f p,ops[j]?= U o/\es[j]?= U (f,p)/\dY P (gP C) b ops.toList o s.sl s.mem=U f/\jO C o s.sl=p/\sZ P C b ops es s' (u.erase j) (f.go s)
 |[],_,_,_,hj,_=>by simp at hj
 |i::r,s,hr,hp,hj,hi=>by
  obtain⟨o,e,p,ho,W,q,w,Q⟩:=hr;by_cases F:i=j;subst F;refine⟨o,e,p,ho,W,q,w,?_⟩;rw[ubk];exact Q
  ·have O:j∈r:=by
    rcases uef.1 hj with h|h
    exact absurd h.symm F;exact h
   have hlt:=(ub9.1 hp).1 j O;obtain⟨oj,f,pj,hoj,H,hf,hpj,hrr⟩:=QK r (e.go s) Q (ub9.1 hp).2 O (λk hk hkj=>hi k (ubi _ hk) hkj);have m:=hi i (by simp) hlt _ _ W H;have S:=Cn m;have N:=P0 m hf;refine⟨oj,f,pj,hoj,H,N,(TU N (λt ht=>(S.1 t ht).1)).symm.trans hpj,?_⟩;rw[List.erase_cons_tail (by simpa using F)];refine⟨o,e,p,ho,W,P1 m q,(TU q (λt ht=>S.2.1 t ht)).trans w,?_⟩;rw[<- QS m];exact hrr
def qv7(hC:CxOK P C){st:St}{a:Act}{W:List Tmp}{p:Pan}(hi:InvG P E st a w W F γ)(h:jO C o st.sl=U p)(hb:p.bad=Z)(hn:av p.good)(K:Act->World->Prop)(Q:Exit->Act->World->Prop)(hq:∀ w',I P E (fk st) a w'->Q (.panic [{ v:=p.pv.val,recovered:=Y }]) a w'):o.guard=V/\o.wp P a w K Q:=by
 unfold jO at h;split at h<;>try trivial
 rename_i f0 i ts f u args hg ho hvs;refine⟨hg,?_⟩;split at h<;>try trivial
 rename_i pc hpc;split at h<;>try trivial
 rename_i xs hrs;split at h<;>try trivial
 rename_i x n hdec;cases h;obtain⟨hn1,hn2⟩:=jd.1 hn;have hev:=oH hi.sl o.op.operands.toList;rw[hvs]at hev;have hops:o.op.operands.toList.map a.eval=a.eval f0::(i.map a.eval).toList:=by simp[ho,Op.operands,Call.operands]
 rw[hops]at hev;obtain⟨⟨_,hfv⟩,O⟩:=hev;obtain⟨cv,e1,e2,e3⟩:=hfv;have S:=OA e2 e3;have hrun:(∀ args w,(callFunc f args).run P w=.ok (.enter f args) w)->(execOp a.eval o).run P w=.ok (.enter f (i.map a.eval++cv)) w:=λhen=>by
  unfold execOp;rw[ho];simp[resolve,e1,Deferred.ofValue,invoke,hen]
 have du:((i.map a.eval).toList++cv.toList).toArray=i.map a.eval++cv:=by simp
 have H:(args++u.map AV.c).all fX=true:=by
  have:∀ (l:List AV),(∃ xs u',dK (λ_=>V) l=U (xs,u'))->l.all fX=true:=by
   intro l
   induction l with
   |nil=>intros;rfl
   |cons y l ih=>
    rintro⟨xs,u',hx⟩;simp only[dK]at hx;split at hx<;>try trivial
    rename_i h1 h2;simp only[ueg,uda];refine⟨?_,ih ⟨_,_,h2⟩⟩;cases y<;>first|rfl|(simp[pD]at h1)
  exact this _ ⟨_,_,hrs⟩
 have m:bj P w F (ap st.mem γ) (args++u.map AV.c) ((i.map a.eval).toList++cv.toList):=by
  refine Dz (rW O ?_) S;rw[udk,uda]at H;exact H.1
 obtain⟨F1,s1,m1,_,r1⟩:=iy hi.mem (dv hi) (cX.of λ_ _ h=>by cases h) hrs m;have hps:=mK hC.ct hdec hn1 r1;obtain⟨hen,q⟩:=hC.pc f pc hpc;have hc:=q w F1 x _ s1.bd hps hn2;unfold Oper.wp;rw[hrun hen];rw[du]at hc;have hb':pc.bad x=true:=hb;refine hc.mono λe w2 hp=>?_;rcases hp with ⟨j,_⟩|⟨j,rfl,N⟩
 rw[hb']at j;cases j;refine hq w2 ⟨F1,γ,?_⟩;obtain⟨s2,m2⟩:=Step.below m1 (nM hi) s1.bd N (λ_ h=>h) (λb hb=>⟨.inl hb,uca (s1.bd b hb) N.size⟩);have s3:=s1.trans s2;obtain⟨γ0,h0⟩:=hi.step;exact oV ⟨hi.n,hi.df,⟨γ0,h0.trans s3⟩,m2,λt=>(hi.sl t).mono s3.hF s3.hw s3.hR,hi.hg,λt=>s3.repA (hi.gh t)⟩
def qog{q:St}{a:Act}{D:List Tmp}{s0:St}(h:InvG P E (fk q) a w [] F γ)(H:∀ t,t ∉ D->q.sl t=s0.sl t):InvG P E ⟨q.n,yf D s0.sl,q.mem,q.gs⟩ a w [] F γ:=by
 refine⟨h.n,h.df,h.step,h.mem,λt=>?_,λt g j v N=>?_,h.gh⟩;show dP P w F _ _ (if D.contains t then AV.dead else iF s0.sl t) _;split;trivial;rename_i u;have m:=λC=>u (by simpa using C);have e:iF s0.sl t=iF q.sl t:=by
  unfold iF;rw[H t m]
 rw[e];exact h.sl t;have i:(if D.contains t then AV.dead else iF s0.sl t)=.maybe g j v:=N;split at i;cases i;rename_i u;have m:=λC=>u (by simpa using C);have e:iF s0.sl t=iF q.sl t:=by
  unfold iF;rw[H t m]
 rw[e]at i;exact h.hg t g j v i
def zU(pv:PV)(x:Ef×Option Pan):Prop:=match x.2 with
 |none=>av x.1.need
 |some p=>(p.bad=Y->av x.1.need)/\(p.bad=Z->av p.good/\p.pv=pv)
def qmt{pv:PV}{x:Ef×Option Pan}(h:av (IG pv x)):zU pv x:=by
 obtain⟨e,p⟩:=x;cases p with
 |none=>exact h
 |some p=>exact⟨h.1,h.2⟩
def sY(P:Program)(E:Env)(C:Cx)(b:Nat)(ops:Array Oper)(es:List (Ef×Option Pan))(D:List Tmp)(s0 m:St)(i:List Nat)(a:Act)(w:World):Prop:=
 ∃ j W F γ,InvG P E j a w W F γ/\(∀ t,t∈W↔∃ k o,ops[k]?= U o/\k ∉ i/\o.dst=U t)/\sZ P C b ops es m i j/\j.n=m.n/\j.gs=s0.gs /\
  (∀ (k:Nat) e p,es[k]?= U (e,U p)->k ∉ i->p.bad=Y)/\((∃ k:Nat,∃ e p,k∈i/\es[k]?= U (e,U p))->j.mem=s0.mem/\∀ t,t ∉ D->j.sl t=s0.sl t)
def qw7(hC:CxOK P C){D:List Tmp}{s0 s':St}{m:List Nat}{a:Act}(hi:sY P E C b ops es D s0 s' m a w)(hj:j∈m)(hp:m.Pairwise (· < ·))(hfront:∀ i∈m,i<j->∀ e f,es[i]?= U e->es[j]?= U f->jI e.1 f.1=Z)(hguard:∀ o j' S,ops[j]?= U o->o.guard=U (j',S)->j' ∉ m)(hst:StatOK s'.n ops){pv:PV}(hgood:∀ (i:Nat) x,es[i]?= U x->zU pv x)(hwr:∀ f p,es[j]?= U (f,p)->(f.wr ≠ [] \/ ∃ t,f.dst=U t/\t ∉ D)->∀ (k:Nat) e q,es[k]?= U (e,U q)->k ∉ m)(hn0:s0.n=s'.n)(K:Act->World->Prop)(Q:Exit->Act->World->Prop)(hK:∀ a' w',sY P E C b ops es D s0 s' (m.erase j) a' w'->K a' w')(hQ:(∃ k:Nat,∃ e p,es[k]?= U (e,U p)/\p.bad=Z)->∀ a' w',I P E ⟨s0.n,yf D s0.sl,s0.mem,s0.gs⟩ a' w'->Q (.panic [{ v:=pv.val,recovered:=Y }]) a' w'):wpOp P ops Q j K a w:=by
 obtain⟨st,W,F,γ,hinv,hW,hruns,hn,hgs,hdone,hmem⟩:=hi;obtain⟨o,f,p,ho,hf,heff,hpan,hr⟩:=QK m st hruns hp hj hfront;have hnd:=yq hp;have u:∀ k,k ∉ m.erase j↔k=j\/k ∉ m:=λk=>by
  rw[hnd.mem_erase_iff];constructor;intro h;by_cases hk:k=j;exact .inl hk;exact .inr λh'=>h ⟨hk,h'⟩;rintro(h|h) ⟨h1,h2⟩;exact h1 h;exact h h2
 unfold wpOp;rw[ho];simp only;have hg:=hgood j _ hf;by_cases H:∃ q,p=U q/\q.bad=Z;obtain⟨q,rfl,hq⟩:=H;obtain⟨hgq,hpv⟩:=hg.2 hq;have O:=hmem ⟨j,f,q,hj,hf⟩;have key:=qv7 hC (K:=K) (Q:=Q) hinv hpan hq hgq (λw' hiw=>by
  rw[hpv];refine hQ ⟨j,f,q,hf,hq⟩ a w' ?_;obtain⟨F1,γ1,hiw⟩:=hiw;rw[hn0,<- hn,<- O.1,<- hgs];exact⟨F1,γ1,qog hiw O.2⟩)
 have hw:Region.wanted o (yielded ops a.tmps)=true:=by simp[Region.wanted,key.1]
 rw[if_pos hw];exact .inl key.2;have hneed:av f.need:=by
  cases p with
  |none=>exact hg
  |some q=>
   refine hg.1 ?_;cases hq:q.bad with
   |false=>rfl
   |true=>exact absurd ⟨q,rfl,hq⟩ H
 have key:=JQ (Γ:=⟨gP C,λ_=>V⟩) ⟨qme hC,λ_ _ h=>(nomatch h)⟩ hinv heff hneed (λx hx=>⟨by rw[hn];exact hst.lt j o x ho hx,λhxW=>by
   obtain⟨k,ok,hok,hk,hd⟩:=(hW x).1 hxW;have:=hst.once j k o ok x ho hok hx hd;subst this;exact hk hj⟩)
  (λj' S g hg hd=>by
   have h1:=hguard o j' S ho hg;cases ho':ops[j']? with
   |none=>rw[ho']at hd;cases hd
   |some o'=>
    rw[ho']at hd;exact(hW g).2 ⟨j',o',ho',h1,hd⟩)
  K Q (λa' w' F' γ' hinv'=>hK a' w' ⟨f.go st,_,F',γ',hinv',λt=>?_,hr,hn,hgs,λk e q hk N=>?_,λhex=>?_⟩)
 split;rename_i hw;rw[if_pos hw]at key;exact .inl key;rename_i hw;rw[if_neg hw]at key;exact key;rw[udp,hW];constructor;rintro(h|⟨k,ok,h1,h2,h3⟩);exact⟨j,o,ho,(u j).2 (.inl rfl),by simpa using h⟩;exact⟨k,ok,h1,(u k).2 (.inr h2),h3⟩;rintro⟨k,ok,h1,h2,h3⟩;rcases(u k).1 h2 with rfl|h
 rw[ho]at h1;cases h1;exact .inl (by simp[h3]);exact .inr ⟨k,ok,h1,h,h3⟩;rcases(u k).1 N with rfl|h
 rw[hf]at hk;cases hk;cases hq:q.bad with
 |false=>rfl
 |true=>exact absurd ⟨q,rfl,hq⟩ H
 exact hdone k e q hk h;obtain⟨k,e,q,hk,hke⟩:=hex;have N:=ua8 hk;have O:=hmem ⟨k,e,q,N,hke⟩;refine⟨?_,λt ht=>?_⟩;show ax st.mem f.wr=s0.mem;have hnil:f.wr=[]:=by
  apply Classical.byContradiction;intro hne;exact hwr f p hf (.inl hne) k e q hke N
 rw[hnil];exact O.1;show e8 st.sl f.dst f.v t=s0.sl t;rw[<- O.2 t ht];cases hx:f.dst with
 |none=>rfl
 |some x=>
  have hne:t≠x:=λhtx=>by
   subst htx;exact hwr f p hf (.inr ⟨t,hx,ht⟩) k e q hke N
  exact if_neg hne
def zde(h:E0 ops.toList es=Z){f:Ef}{p:Option Pan}(F:es[j]?= U (f,p))(w:f.wr ≠ []){k:Nat}{e:Ef}{q:Pan}(H:es[k]?= U (e,U q)):((fW [] ops.toList).getD j 0).testBit k=true:=by
 unfold E0 at h;rw[uc6]at h;have t:=(uak.1 F).1;have u:=(uak.1 H).1;have i:=h j (ud6.2 t);rw[F]at i;split at i;rename_i P Q N m O;cases m;rw[udq]at i;rcases i with i|i
 exact absurd (by simpa using i) w;rw[uc6]at i;have C:=i k (ud6.2 u);rw[H]at C;rw[uah,O];exact C;cases i
def qge{f:Ef}{p:Option Pan}{t:Tmp}(C:es[j]?= U (f,p))(H:f.dst=U t)(P:t ∉ tL ops.toList es){m:Nat}(N:(fW [] ops.toList)[j]?= U m){k:Nat}{e:Ef}{q:Pan}(F:es[k]?= U (e,U q)):m.testBit k=true:=by
 apply Classical.byContradiction;intro O;apply P;have u:=(uak.1 C).1;have w:=(uak.1 F).1;refine ub8.2 ⟨j,ud6.2 u,?_⟩;rw[C,N];show(if _ then V else f.dst)=U t;rw[if_neg,H];intro i;rw[uc6]at i;have:=i k (ud6.2 w);rw[F]at this;exact O this
def Ut(hC:CxOK P C){D:List Tmp}(hD:D=tL ops.toList es){s0 s':St}(hst:StatOK s'.n ops)(hord:r9 ops.toList (es.map (·.1))=Z)(hwro:E0 ops.toList es=Z){pv:PV}(hgood:∀ (i:Nat) x,es[i]?= U x->zU pv x)(hn0:s0.n=s'.n)(Q:Exit->Act->World->Prop)(hQ:∀ a w,sY P E C b ops es D s0 s' [] a w->Q .normal a w)(hQp:(∃ k:Nat,∃ e p,es[k]?= U (e,U p)/\p.bad=Z)->∀ a' w',I P E ⟨s0.n,yf D s0.sl,s0.mem,s0.gs⟩ a' w'->Q (.panic [{ v:=pv.val,recovered:=Y }]) a' w'):
  (H:Nat)->∀ (S:List Nat) (u:Array Bool) (a:Act) (w:World),S.length<=H->S.Pairwise (· < ·)->u.size=ops.size->(∀ i,i<ops.size->(u.getD i Z=Y↔i∈S))->(∀ i∈S,i<ops.size) ->
   (∀ k,k<ops.size->k ∉ S->∀ i,((fW [] ops.toList).getD k 0).testBit i=Z->i ∉ S)->sY P E C b ops es D s0 s' S a w->wpAny P .any ops Q H u a w
 |H,[],u,a,w,_,_,hsz,hl,_,_,hi=>by
  have W:Region.ready .any ops u=[]:=by
   apply List.eq_nil_iff_forall_not_mem.2;intro i F;obtain⟨h1,o,ho,_⟩:=ufk.1 F;have hlt:=(uaf.1 ho).1;simpa using (hl i hlt).1 h1
  cases H with
  |zero=>exact⟨W,hQ a w hi⟩
  |succ H=>exact⟨λ_=>hQ a w hi,λi F=>by rw[W]at F;simp at F⟩
 |0,i::r,_,_,_,hlen,_,_,_,_,_,_=>by simp at hlen
 |H+1,i::r,u,a,w,hlen,hp,hsz,hl,hlt,hmask,hi=>by
  have hready:i∈Region.ready .any ops u:=by
   have hio:=hlt i (by simp);refine ufk.2 ⟨(hl i hio).2 (by simp),ops[i],by simp,λe he hb=>?_⟩;have hback:=hst.back i ops[i] (by simp) e he hb;have hnot:e.on ∉ i::r:=λhh=>by
    rcases uef.1 hh with h|h
    omega;have:=(ub9.1 hp).1 _ h;omega
   have h1:=λh=>hnot ((hl e.on (by omega)).1 h);have hsz':e.on<u.size:=by omega
   simp only[uac,uam hsz']at h1 |-;simpa using h1
  refine⟨λW=>by rw[W]at hready;simp at hready,λj hj=>?_⟩;obtain⟨hj1,o,ho,hjall⟩:=ufk.1 hj;have hjlt:=(uaf.1 ho).1;have hjrem:=(hl j hjlt).1 hj1;have O:∀ b,u.getD b Y=Z->b<ops.size/\b ∉ i::r:=λb hb=>by
   have hbs:b<u.size:=by
    rcases uem b u.size with h|h
    exact h;simp[ua1 h]at hb
   refine⟨by omega,λF=>?_⟩;have:=(hl b (by omega)).2 F;simp only[uac,uam hbs,udb]at hb this;rw[hb]at this;cases this
  obtain⟨m,hm1,hm2⟩:=(JA ops.toList []).2 j o (by simpa using ho);simp at hm1;have hmj:∀ b,((fW [] ops.toList).getD j 0).testBit b=Z->b ∉ i::r:=λb hb=>by
   rw[uah,hm1]at hb;obtain⟨e,he,hb',hor⟩:=hm2 b hb;obtain⟨h1,h2⟩:=O e.on (hjall e he hb');rcases hor with rfl|h
   exact h2;exact hmask e.on h1 h2 b h
  have hnd:=yq hp;refine qw7 hC hi hjrem hp (λk hk N e f he hf=>?_) (λo' j' want ho' hg F=>?_) hst hgood (λf p hf hne k e q hk=>?_) hn0 _ Q (λa' w' h'=>?_) hQp;have he':(es.map (·.1))[k]?= U e.1:=by rw[ucn,he];rfl
  have hf':(es.map (·.1))[j]?= U f.1:=by rw[ucn,hf];rfl
  exact(TA hord he' hf' N).resolve_left λh=>hmj k h hk;obtain⟨_,e,he,heq,hb⟩:=hst.guard j o' j' want ho' hg;rw[ho]at ho';cases ho';have:=(O e.on (hjall e he hb)).2;rw[heq]at this;exact this F;rcases hne with hne|⟨t,hdt,htD⟩
  exact hmj k (zde hwro hf hne hk);refine hmj k ?_;rw[uah,hm1];exact qge hf hdt (hD ▸ htD) hm1 hk;refine Ut hC hD hst hord hwro hgood hn0 Q hQ hQp H _ (u.setIfInBounds j Z) a' w' ?_ (TS hp j) (by simpa using hsz) (λk hk=>?_) (λk hk=>hlt k (ua8 hk)) (λk hk hkr b hb=>?_) h';rw[List.length_erase_of_mem hjrem];omega;rw[hnd.mem_erase_iff];by_cases N:j=k;subst N;simp[hsz];simp only[uac,uaa N];rw[<- uac,hl k hk];constructor;exact λh=>⟨Ne.symm N,h⟩;exact λh=>h.2;rw[hnd.mem_erase_iff]at hkr |-;rintro⟨h1,h2⟩;by_cases N:k=j;subst N;exact hmj b hb h2;exact hmask k hk (λhh=>hkr ⟨N,hh⟩) b hb h2
def Wg{d:St}{all:List (Ef×Option Pan)}{good:Tr}{Q:XE->St->Prop}:{ps:List Pan}->(Lu d all good ps).sat Q->(∃ p∈ps,p.bad=Z/\av (all.flatMap (IG p.pv))/\Q (.panic p.pv) d)\/((∀ p∈ps,p.bad=Y)/\good.sat Q)
 |[],h=>.inr ⟨λp m=>by simp at m,h⟩
 |p::r,h=>by
  cases hb:p.bad with
  |true=>
   obtain⟨i,j⟩:=jm _ (h.1 hb);exact .inl ⟨p,by simp,hb,i,j⟩
  |false=>
   rcases Wg (h.2 hb)with ⟨q,i,j⟩|⟨i,j⟩
   exact .inl ⟨q,ubi _ i,j⟩;refine .inr ⟨λq hq=>?_,j⟩;rcases uef.1 hq with rfl|hq
   exact hb;exact i q hq
def OO{A:Type}{f:A->List Prop}:{l:List A}->av (l.flatMap f)->∀ x∈l,av (f x)
 |[],_,x,i=>by simp at i
 |y::r,h,x,i=>by
  obtain⟨j,m⟩:=jd.1 h;rcases uef.1 i with rfl|i
  exact j;exact OO m x i
def qw8(hC:CxOK P C){id:Nat}:lr P E (.region id ops Z) (Kn P C b ops.toList):=by
 intro s t h Q hq a w hi;unfold Kn at h;split at h<;>try trivial
 rename_i hstat;split at h<;>try trivial
 rename_i es s' H;split at h<;>try trivial
 rename_i hord;cases h;have hn:=UR _ _ _ _ H;have hst:StatOK s'.n ops:=by rw[hn];exact DH hstat
 have hruns:sZ P C b ops es s' (List.range' 0 ops.size) s:=by
  have:=UV ops.toList 0 s es H (λi o hi=>by simpa using hi) (λi e hi=>by simpa using hi);simpa using this
 have hlen:es.length=ops.size:=by
  have:=UQ _ _ _ _ H;simpa using this
 obtain⟨F,γ,hi⟩:=hi;have N:∀ w',InvG P E s a w' [] F γ->sY P E C b ops es (tL ops.toList es) s s' (List.range' 0 ops.size) a w':=λw' u=>by
  refine⟨s,[],F,γ,u,λt=>?_,hruns,hn.symm,rfl,λk e p hk j=>?_,λ_=>⟨rfl,λ_ _=>rfl⟩⟩;constructor;intro hh;simp at hh;rintro⟨k,o,hk,j,_⟩;exfalso;apply j;rw[ucv];have:=(uaf.1 hk).1;omega;exfalso;apply j;rw[ucv];have:=(uak.1 hk).1;omega
 have key:∀ pv:PV,(∀ (i:Nat) x,es[i]?= U x->zU pv x)->(∀ O w',sY P E C b ops es (tL ops.toList es) s s' [] O w'->eq P E Q .normal O w') ->
   ((∃ k:Nat,∃ e p,es[k]?= U (e,U p)/\p.bad=Z)->∀ O w',I P E ⟨s.n,yf (tL ops.toList es) s.sl,s.mem,s.gs⟩ O w'->eq P E Q (.panic [{ v:=pv.val,recovered:=Y }]) O w')->(Code.region id ops Z).wp P (eq P E Q) a w:=by
  intro pv hg hend hpan;refine wp_region_any hC.mo ?_;refine Ut hC rfl hst hord.1 hord.2 hg hn.symm _ hend hpan ops.size (List.range' 0 ops.size) _ a _ (by simp) uaw (by simp) (λi u=>?_) (λi u=>?_) (λk hk j=>?_) (N _ (RQ hi));simp only[ucv,uac,uas,u,if_true,udb,true_iff];omega;rw[ucv]at u;omega;exfalso;apply j;rw[ucv];omega
 rcases Wg hq with ⟨p,hp,hb,hall,hQ⟩|⟨hno,hgood⟩
 refine key p.pv (λi x hx=>qmt (OO hall x (ubf hx))) ?_ (λ_ O w' hiw=>⟨.panic p.pv,_,rfl,hiw,hQ⟩);rintro O w' ⟨st,W,F',γ',S,_,_,_,_,hdone,_⟩;obtain⟨x,hx,hxp⟩:=ub8.1 hp;obtain⟨i,hi⟩:=ubr hx;obtain⟨e,q⟩:=x;subst hxp;have:=hdone i e p hi (by simp);rw[hb]at this;cases this;obtain⟨hneed,hq'⟩:=JI _ hgood;have m:∀ (k:Nat) e p,es[k]?= U (e,U p)->p.bad=false:=λk e p hk=>hno p (ub8.2 ⟨(e,U p),ubf hk,rfl⟩);refine key ⟨0,.i64,0⟩ (λi x hx=>?_) ?_ ?_;obtain⟨e,p⟩:=x;have hne:=hneed e (ue3.2 ⟨(e,p),ubf hx,rfl⟩);cases p with
 |none=>exact hne
 |some q=>exact⟨λ_=>hne,λhb=>by rw[m i e q hx]at hb;cases hb⟩
 rintro O w' ⟨st,W,F',γ',S,_,hr,_⟩;have hr':=hr;subst hr';exact⟨.normal,_,rfl,⟨F',γ',oV S⟩,hq'⟩;rintro⟨k,e,p,hk,hb⟩;rw[m k e p hk]at hb;cases hb
end
def Pn:List Oper->Option (FuncId×Tmp)
 |[⟨V,.defer ⟨.value (.func f),args,_⟩,_,_,_,V⟩]=>match args.toList with
  |[.tmp tp]=>U (f,tp)
  |_=>V
 |_=>V
def K9(P:Program)(C:Cx)(run:St->Option Tr)(T:TypeId)(k:IntKind)(fn:Func)(A:Code)(tp:Tmp)(ps:List PT)(rs:List Ty)(xs:ag ps):Option (Fr (aa rs)):=
 if (fn.name == "runtime.NumGoroutine")=Y/\ps.length<=fn.ntmps then match cr P C 0 bw A 0 (sj fn.ntmps (eI ps xs))with
  |some (.leaf .normal s1)=>match s1.sl tp with
   |.c (.ptr id 0)=>match run ⟨s1.n,s1.sl,s1.mem,λt=>if t=0 then .c (.ptr id 0)else .dead⟩with
    |some t=>ia P T k fn.results.toList rs t
    |none=>V
   |_=>V
  |_=>V
 else V
section
variable {P:Program} {w w':World} {E:Env} {F F':Nat->Prop} {γ γ':Nat->Value}
def qgc{C:Cx}(hC:CxOK P C){run:St->Option Tr}{g:FuncId}{T:TypeId}{fn:Func}{A c:Code}{rid:Nat}{ops:Array Oper}{tp:Tmp}{ps:List PT}{rs:List Ty}{fr:ag ps->Fr (aa rs)}(x0:ag ps)(hf:P.funcs[f]?= some fn)(hb:fn.body=some (.seq A (.seq (.region rid ops false) c)))(hd:Pn ops.toList=some (g,tp))(hT:TolOK P g T k)(hR:∀ E,lr P E c run)(hrun:∀ xs,K9 P C run T k fn A tp ps rs xs=some (fr xs)):af P f ⟨ps,rs,λxs=>(fr xs).get,λxs=>[(fr xs).ok]⟩:=by
 have h0:=hrun x0
 unfold K9 at h0
 split at h0<;>try (cases h0;done)
 rename_i hc
 refine⟨enters hf hb hc.1,λw F xs vs hbd hr hok=>ucd hf hb ?_⟩
 have hr':=hrun xs
 unfold K9 at hr'
 simp only[hc,ufm,if_true]at hr'
 split at hr'<;>try (cases hr';done)
 rename_i s1 ht1
 split at hr'<;>try (cases hr';done)
 rename_i id hsl
 split at hr'<;>try (cases hr';done)
 rename_i t ht2
 have hlen:vs.length=ps.length:=rV hr
 have hstart:=vV (D:=[]) (n:=fn.ntmps) hbd (λR=>mO hr) (by have:=hc.2;omega)
 have hsz:(vs.toArray).size=vs.length:=by simp
 refine wp_seq (wp_mono (fR hC A 0 (aY A 0) ht1 (Q:=λe s=>e=.normal/\s=s1) ⟨rfl,rfl⟩ hstart) ?_)
 rintro e a1 w1 ⟨xe,s,rfl,⟨F1,γ1,hi⟩,rfl,rfl⟩
 have hv0:=rm hi tp
 rw[hsl]at hv0
 obtain⟨_,b0,hR0,hv0⟩:=hv0
 refine wp_seq (ufl ?_)
 unfold Pn at hd
 split at hd<;>try (cases hd;done)
 rename_i f0 args ats ty pos aft hops
 split at hd<;>try (cases hd;done)
 rename_i tp0 hargs
 simp at hd
 obtain⟨rfl,rfl⟩:=hd
 obtain⟨ol⟩:=ops
 subst hops
 have hargs':args = #[.tmp tp0]:=by
  obtain⟨l⟩:=args
  simp only at hargs
  rw[hargs]
 subst hargs'
 have hev:a1.eval (.tmp tp0)=.pointer (some ⟨b0,0,none⟩):=hv0
 have hexec:(execOp a1.eval ⟨none,.defer ⟨.value (.func f0),#[.tmp tp0],ats⟩,ty,pos,aft,none⟩).run P w1=.ok (.defer { target:=.fn (.func f0) #[],args:=#[.pointer (some ⟨b0,0,none⟩)] }) w1:=by
  have hef:a1.eval (.func f0)=.func (.func f0) #[] #[]:=rfl
  simp[execOp,resolve,hev,hef,Deferred.ofValue]
 have hrange:List.range (#[(⟨none,.defer ⟨.value (.func f0),#[.tmp tp0],ats⟩,ty,pos,aft,none⟩:Oper)]:Array Oper).size=[0]:=rfl
 unfold wpOps
 simp
 have hw:Region.wanted (⟨none,.defer ⟨.value (.func f0),#[.tmp tp0],ats⟩,ty,pos,aft,none⟩:Oper) (yielded #[(⟨none,.defer ⟨.value (.func f0),#[.tmp tp0],ats⟩,ty,pos,aft,none⟩:Oper)] a1.tmps)=true:=rfl
 refine .inl ?_
 unfold Oper.wp
 rw[hexec]
 have hi':InvG P ⟨w,F,λ_=>.pointer (some ⟨b0,0,none⟩),[{ target:=.fn (.func f0) #[],args:=#[.pointer (some ⟨b0,0,none⟩)] }],w.heap.size,ue6 _⟩ ⟨s.n,s.sl,s.mem,λt=>if t=0 then .c (.ptr id 0)else .dead⟩ { a1 with defers:={ target:=.fn (.func f0) #[],args:=#[.pointer (some ⟨b0,0,none⟩)] }::a1.defers } w1 [] F1 γ1:=by
  refine⟨hi.n,?_,hi.step,hi.mem,hi.sl,hi.hg,λt=>?_⟩
  ·show _::a1.defers=[_]
   rw[hi.df]
  ·show aE P w1 F1 _ (if t=0 then .c (.ptr id 0)else .dead) _
   split
   ·exact⟨rfl,b0,hR0,rfl⟩
   ·trivial
 have hwp:=hR ⟨w,F,λ_=>.pointer (some ⟨b0,0,none⟩),[{ target:=.fn (.func f0) #[],args:=#[.pointer (some ⟨b0,0,none⟩)] }],w.heap.size,ue6 _⟩ _ _ ht2 _ (qW hr' hok) _ _ ⟨F1,γ1,hi'⟩
 refine wp_mono hwp ?_
 rintro e a2 w2 ⟨xe,s2,rfl,⟨F2,γ2,hi2⟩,hx⟩
 have hinv:∀ W,(invoke (.fn (.func f0) #[]) #[.pointer (some ⟨b0,0,none⟩)]).run P W=.ok (.enter f0 #[.pointer (some ⟨b0,0,none⟩)]) W:=λW=>by
  have:=hT.enter #[.pointer (some ⟨b0,0,none⟩)] W
  simp[invoke,this]
 have hfin:(∃ n,dh P fn.results.toList rs s2=some (Fr.needL n (.val (fr xs).get))/\av n)->Leaves P fn a2.tmps (fJ w F rs (fr xs).get) a2.defers .returning w2:=by
  rintro⟨n,hend,hn⟩
  rw[hi2.df]
  refine ufb (by simp) (hinv w2) ((hT.idle _ w2).mono ?_)
  rintro e u' w' ⟨⟨v,rfl⟩,rfl,rfl⟩
  exact tP hi2 rfl hend hn
 cases xe with
 |normal=>exact hfin hx
 |ret=>exact hfin hx
 |exit _=>exact hx.elim
 |val _=>exact hx.elim
 |jump _=>exact hx.elim
 |panic p=>
  obtain⟨s',n,hs',hin,hend,hn⟩:=hx
  obtain⟨hty,hk,hlow,b,tyb,old,hG,hheap,hi3⟩:=VY hi2 hs' hin
  have hG':=hG
  simp at hG'
  subst hG'
  show Leaves P fn a2.tmps _ a2.defers (.panicking [{ v:=p.val,recovered:=false }]) w2
  rw[WG (by rw[hty];exact hlow),hi2.df,hty,hk]
  refine ufb (by simp) (hinv w2) ((hT.told b0 tyb old p.n w2 hheap).mono ?_)
  rintro e u' w' ⟨⟨v,rfl⟩,rfl,rfl⟩
  exact tP hi3 rfl hend hn
end
section
variable {P:Program} {E:Env}
def zdi {c rest:Code} {O L N Eo R:LS} {id l:Nat} {S:O.X->Fr (Rd L.X Eo.X R.X)} {f:L.X->Fr (Rd L.X Eo.X R.X)} (hf:findLabel c l=U rest) (W:gi P l c O ⟨n,id,L,Eo,R⟩ S) (h2:gi P l rest L ⟨n,id,L,Eo,R⟩ f)
  {F0:O.X->Fr (Rd N.X Eo.X R.X)} {F:L.X->Fr (Rd N.X Eo.X R.X)} {inv:L.X->Prop} {μ:L.X->Nat}
  (u:∀ x,∀ Q:Rd N.X Eo.X R.X->Prop,(F0 x).satP Q->(S x).satP λ
   |.next q=>inv q/\(F q).satP Q
   |.out y=>Q (.out y)
   |.back z=>Q (.back z)
   |.pan p=>Q (.pan p))
  (H:∀ x,inv x->∀ Q:Rd N.X Eo.X R.X->Prop,(F x).satP Q->(f x).satP λ
   |.next q=>inv q/\μ q<μ x/\(F q).satP Q
   |.out y=>Q (.out y)
   |.back z=>Q (.back z)
   |.pan p=>Q (.pan p)):ae P (.scope c) O ⟨n,id,N,Eo,R⟩ F0:=by
 intro E a w x Q hi hq;refine wp_scope_jumps l (λa w=>∃ m,∃ x,inv x/\μ x=m/\I P E (L.tpl n x) a w/\(F x).satP Q) (λa w=>u9 λm=>∃ x,inv x/\μ x=m/\I P E (L.tpl n x) a w/\(F x).satP Q) hf ?_ ?_
 ·refine wp_mono (W E a w x _ hi (u x Q hq)) ?_;rintro e a' w' ⟨r,j,C⟩;cases r with
  |next q=>
   obtain⟨rfl,i⟩:=C;exact⟨rfl,⟨μ q,q,j.1,rfl,i,j.2⟩⟩
  |out y=>
   obtain⟨rfl,i⟩:=C;exact⟨.out y,j,rfl,i⟩
  |back z=>
   obtain⟨rfl,i⟩:=C;exact⟨.back z,j,rfl,i⟩
  |pan v=>
   obtain⟨rfl,i⟩:=C;exact⟨.pan v,j,rfl,i⟩
 ·rintro a w ⟨m,C⟩;obtain⟨⟨q,q1,q2,q3,q4⟩,_⟩:=uA (p:=λm=>∃ x,inv x/\μ x=m/\I P E (L.tpl n x) a w/\(F x).satP Q) ⟨m,C⟩;refine wp_mono (h2 E a w q _ q3 (H q q1 Q q4)) ?_;rintro e a1 w1 ⟨r,j,t⟩;cases r with
  |next y=>
   obtain⟨rfl,i⟩:=t;refine⟨rfl,⟨μ y,y,j.1,rfl,i,j.2.2⟩,?_⟩;rw[<- q2];exact ucc ((uA ⟨μ y,y,j.1,rfl,i,j.2.2⟩).2 (μ y) ⟨y,j.1,rfl,i,j.2.2⟩) j.2.1
  |out y=>
   obtain⟨rfl,i⟩:=t;exact⟨.out y,j,rfl,i⟩
  |back z=>
   obtain⟨rfl,i⟩:=t;exact⟨.back z,j,rfl,i⟩
  |pan v=>
   obtain⟨rfl,i⟩:=t;exact⟨.pan v,j,rfl,i⟩
end
structure GrowOK (P:Program) (f:FuncId) (e:TypeId) (T:Ty) (bytes:Nat):Prop where
 enters:∀ args w,(callFunc f args).run P w=.ok (.enter f args) w
 calls:∀ (w:World) (n:Nat),n<=maxLen->n*bytes<=140737488355328->Calls P f #[.slice none 0 0,.int .i64 n] w λen w'=>
  ∃ v,en=.returned v/\w.grownBy w' none/\w'.ownsRow w.heap.size e T.size v 0 []
def II(f:FuncId)(e:TypeId)(T:Ty)(bytes:Nat)(d:Nat)(g:FuncId)(args:List AV)(s:St):Option Tr:=
 if g=f/\e<cj then match args,s.mem d with
  |[.c .nil,.c (.int .i64 n)],V=>U (needL [0<=n/\n<=maxLen/\n*bytes<=140737488355328] (.leaf (.val (.c (.own d))) ⟨s.n,s.sl,upd s.mem d (.arr e T []),s.gs⟩))
  |_,_=>V
 else V
def nY(w:World)(o:Obj)(i:Nat)(h:i<w.heap.size):(w.alloc o).heap[i]?= w.heap[i]? := by
 first
  |exact heap_alloc_old w o h
  |exact heap_alloc_old w o i h
def qv1{B':Nat}{size:Nat}(h:w.ownsRow B e size v n xs)(hb:B'<=B):w.ownsRow B' e size v n xs:=
 rD h λg hg=>uel hb (h.lt g hg).1
def qmz{T:Ty}{bytes:Nat}(h:GrowOK P f e T bytes):gQ P (II f e T bytes):=by
 intro d g args s t H;unfold II at H;split at H<;>try trivial
 rename_i hg;obtain⟨rfl,O⟩:=hg;split at H<;>try trivial
 rename_i n S;cases H;refine⟨h.enters,λE a w F γ vs Q hi hr hq=>?_⟩;obtain⟨⟨h0,h1,h2⟩,W⟩:=hq
 match vs,hr with
 |[v1,v2],⟨⟨_,hv1⟩,⟨_,hv2,_⟩,_⟩=>
  have e1:=hv1;have e2:=hv2;subst e1;subst e2;obtain⟨m,rfl⟩:∃ m:Nat,n=m:=⟨n.toNat,by omega⟩;have h4:m*bytes<=140737488355328:=by omega
  refine(h.calls w m (by omega) h4).mono λen w2 hp=>?_;obtain⟨v,rfl,N,j⟩:=hp;have q:=nM hi;have C:=qv1 j q;obtain⟨s1,m1⟩:=uN (l:=([]:List T.den)) hi.mem (dv hi) q S N C (λg hg=>(j.lt g hg).1) (λi x hx=>by simp at hx) O;have u:InvG P E ⟨s.n,s.sl,upd s.mem d (.arr e T []),s.gs⟩ a w2 [] F (cU γ d v):=by
   refine⟨hi.n,hi.df,?_,m1,λt=>(hi.sl t).mono s1.hF s1.hw s1.hR,hi.hg,λt=>s1.repA (hi.gh t)⟩;obtain⟨γ0,h0⟩:=hi.step;exact⟨γ0,h0.trans s1⟩
  exact⟨.val (.c (.own d)),_,F,_,W,u,v,rfl,lP (kT j)⟩
section
variable {F:Fence} {n:Nat} {P:Program} {w:World}
def Ac(F:Fence)(n:Nat)(P:Program)(gf:Nat)(lb:Array Value)(encs:α->Array Value)(E:α->World->World->Prop)(Kp:World->World->Prop)(S:List α->Prop)(N:Nat)(w0:World):Prop:=
 ∀ (l:Nat) (q:List α->World->Prop) (W:World),Below w0.heap.size w0 W->AbidesFrom W.heap.size q ->
  (∀ i x j m,q i j->Below j.heap.size j m->E x j m->i.length<N->YieldAt F (n-1) P l (encs x) m λe W'=>e=.returned (.bool Z)/\q (i++[x]) W'/\Kp m W') ->
  q [] W->CallsIn F n P gf (#[.func (.yield l) #[] #[]]++lb) W λe W'=>(∃ v,e=.returned v)/\∃ xs,S xs/\q xs W'
def qx0(b:Nat)(Kp:World->World->Prop)(I:List α->World->Prop)(xs:List α)(W:World)(e:Exit)(_:Act)(W':World):Prop:=
 e=.normal/\KeepsFrom b W W'/\Kp W W'/\I xs W'
def zdc {g:Operand} {ps:Array Tmp} {assign body:Code} {Q:Exit->Act->World->Prop} {a:Act}
  (hro:F.round=none) (h1:1<=n) {gf:Nat} {lb:Array Value} (hg:a.eval g=.func (.func gf) #[] lb) (hFg:F.fn gf) (eg:∀ args w,(callFunc gf args).run P w=.ok (.enter gf args) w)
  {encs:α->Array Value} {E:α->World->World->Prop} {Kp:World->World->Prop} {S:List α->Prop} {N:Nat} (hseq:Ac F (n-1) P gf lb encs E Kp S N w)
  (hKt:∀ {A B C:World},Kp A B->Kp B C->Kp A C) (hKb:∀ (W:World) (l:Nat) (o o':Obj),w.heap.size<=l->W.heap[l]?= some o->o.isCells=false->Kp W (W.putObj l o')) (hps:∀ x,(encs x).size=ps.size)
  (I:List α->World->Prop) (hI:OwnFrom w.heap.size I) (h0:I [] w) (A:List α->α->Act->World->Prop) (hA:∀ pre x a',OwnFrom w.heap.size (λ(_:Unit) W=>A pre x a' W))
  (hassign:∀ (l:Nat) (pre:List α) (x:α) (W0 W:World) (K:Act->World->Prop),I pre W0->Below W0.heap.size W0 W->E x W0 W->(∀ a' W',KeepsFrom w.heap.size W W'->Kp W W'->A pre x a' W'->K a' W') ->
   assign.wpIn (F.inRound l) (n-1-1) P (Exit.then K (λ_ _ _=>False)) { tmps:=(ps.zip (encs x)).foldl (λt (p,v)=>t.setIfInBounds p v) a.tmps,defers:=[] } W)
  (hbody:∀ (l:Nat) (pre:List α) (x:α) (a':Act) (W:World),A pre x a' W->pre.length<N->body.wpIn (F.inRound l) (n-1-1) P (qx0 w.heap.size Kp I (pre++[x]) W) a' W)
  (hdone:∀ (D:Nat) (xs:List α) (W:World),w.heap.size<=D->S xs->I xs W->W.heap[D]?= some (.deferred (some []))->Q .normal { a with defers:={ target:=.collected D,args:=#[] }::a.defers } W) :
  (Code.rangeFunc g ps assign body).wpIn F n P Q a w:=by
 refine wpIn_rangeFunc λfn hfn=>?_;rw[hro]
 let mk:LoopState->Option Code->Loop:=λst pe=>{ state:=st,pending:=pe,fn,tmps:=a.tmps,params:=ps,assign,body,defers:=w.heap.size }
 let d0:Obj:=.deferred (some [])
 have hsz:(w.alloc d0).heap.size=w.heap.size+1:=by simp
 have hL:((w.alloc d0).alloc (.loop (mk .ready none))).heap[w.heap.size+1]?= some (.loop (mk .ready none)):=by
  have:=World.alloc_heap_new (w.alloc d0) (.loop (mk .ready none))
  rwa [hsz]at this
 have hD:((w.alloc d0).alloc (.loop (mk .ready none))).heap[w.heap.size]?= some d0:=
  (uc9 _ _ _ (by rw[hsz];omega)).trans (World.alloc_heap_new w _)
 have hbel:Below w.heap.size w ((w.alloc d0).alloc (.loop (mk .ready none))):=((uff _ w).alloc (ue6 _) _).alloc (by rw[hsz];omega) _;generalize hW1:(w.alloc d0).alloc (.loop (mk .ready none))=W1 at hL hD hbel;have hI1:I [] W1:=by rw[<- hW1];exact hI.alloc _ (hI.alloc _ h0)
 have hs1:W1.heap.size=w.heap.size+2:=by rw[<- hW1];simp
 refine⟨w.heap.size+1,[{ target:=.collected w.heap.size,args:=#[] }],W1,{ target:=.fn (.func gf) lb,args:=#[.func (.yield (w.heap.size+1)) #[] #[]] },W1,gf,
  #[.func (.yield (w.heap.size+1)) #[] #[]]++lb,W1,?_,?_,?_,?_,λ_=>h1,?_⟩
 ·rw[<- hW1];exact run_enterLoop_outer _ _ _ _ _
 ·simp only[resolve,hg];simp[go_sem]
 ·intro f' hf';simp[Target.leads]at hf';subst hf';exact hFg
 ·simp[invoke,eg]
 have hwalk:∀ {A:World} {row:Option Nat},(∀ r,row=some r->W1.heap.size<=r/\∃ o:Obj,A.heap[r]?= some o/\o.isWalk=true)->∀ r,row=some r->w.heap.size<=r/\∃ o:Obj,A.heap[r]?= some o/\o.isCells=false:=λhr r e=>by
  obtain⟨hb,o,ho,hw⟩:=hr r e;exact⟨by omega,o,ho,Obj.not_cells_of_walk hw⟩
 refine(hseq (w.heap.size+1) (λpre W=>I pre W/\W.heap[w.heap.size+1]?= some (.loop (mk .ready none))/\W.heap[w.heap.size]?= some d0) W1 hbel ?_ ?_ ⟨hI1,hL,hD⟩).mono ?_
 ·rintro s X Y row ⟨q1,q2,q3⟩ hgr hr;exact⟨hI s X Y row q1 hgr (hwalk hr),(grownBy_keeps hgr (λr e=>(hr r e).2) q2 rfl).trans q2,(grownBy_keeps hgr (λr e=>(hr r e).2) q3 rfl).trans q3⟩
 ·rintro pre x W0 W ⟨hi0,hl0,hd0⟩ hb0 hE hlen;have hl:=(hb0.block _ (uaf.1 hl0).1).trans hl0;have hd:=(hb0.block _ (uaf.1 hd0).1).trans hd0;refine⟨fn,_,assign,body,run_yield hl (hps x),roundIn_of_wpIn hfn (hassign _ pre x W0 W _ hi0 hb0 hE ?_)⟩;intro a' Wa hka hkpa hax;have hla:=hka.same _ _ (by omega) hl rfl;have hda:=hka.same _ _ (ue6 _) hd rfl;have hlt:=(uaf.1 hla).1;refine⟨_,run_beginRound hla rfl,?_⟩;have hl2:(Wa.putObj (w.heap.size+1) (.loop { mk .ready none with state:=.busy })).heap[w.heap.size+1]?= some (.loop { mk .ready none with state:=.busy }):=World.putObj_heap_same hlt;have hd2:(Wa.putObj (w.heap.size+1) (.loop { mk .ready none with state:=.busy })).heap[w.heap.size]?= some d0:=(World.putObj_heap_other (by omega)).trans hda;have hk2:Kp Wa (Wa.putObj (w.heap.size+1) (.loop { mk .ready none with state:=.busy })):=hKb _ _ _ _ (by omega) hla rfl;refine wpIn_mono (hbody _ pre x a' _ ((hA pre x a').putObj (s:=()) _ hax (by omega) hla rfl) hlen) ?_;rintro e a3 W3 ⟨rfl,hk3,hkp3,hi3⟩;have hl3:=hk3.same _ _ (by omega) hl2 rfl;have hd3:=hk3.same _ _ (ue6 _) hd2 rfl;have hend:=run_endRound (P:=P) none hl3;refine⟨_,_,hend,rfl,⟨hI.putObj _ hi3 (by omega) hl3 rfl,World.putObj_heap_same (uaf.1 hl3).1,(World.putObj_heap_other (by omega)).trans hd3⟩,hKt hkpa (hKt (hKt hk2 hkp3) (hKb _ _ _ _ (by omega) hl3 rfl))⟩
 ·rintro e W2 ⟨⟨v,rfl⟩,xs,hS,hi,hl,hd⟩;exact⟨none,_,run_endLoop hl (by simp),hdone _ xs _ (ue6 _) hS (hI.putObj _ hi (by omega) hl rfl) ((World.putObj_heap_other (by omega)).trans hd)⟩
end
def Aa(w' w:World):Prop:=w'.heap=w.heap/\w'.os=w.os/\w'.tape=w.tape/\w'.output=w.output
structure ToldTwo (P:Program) (g:FuncId) (T:TypeId) (k:IntKind) (m:Nat):Prop where
 enter:∀ args w,(callFunc g args).run P w=.ok (.enter g args) w
 idle:∀ (p q:Addr) (w:World),CallsD P g #[.pointer (some p),.pointer (some q)] .returning w λe u' w'=>(∃ v,e=.returned v)/\u'=.returning/\w'=w
 told:∀ (b1 b2:Nat) (t1 t2:TypeId) (o1 o2:Array Value) (n:Int) (w:World),b1≠b2->w.heap[b1]?= some (.cells o1 t1 (0,0))->o1.size=m->w.heap[b2]?= some (.cells o2 t2 (0,0))->o2.size=1 ->
  CallsD P g #[.pointer (some ⟨b1,0,none⟩),.pointer (some ⟨b2,0,none⟩)] (.panicking [{ v:=.iface T (.agg #[.int k n]),recovered:=false }]) w λe u' w'=>
   (∃ v,e=.returned v)/\u'=.panicking [{ v:=.iface T (.agg #[.int k n]),recovered:=true }]/\Aa w' ((w.setRow b1 (Array.replicate m (.int .i64 0))).setRow b2 #[.int k n])
def zH(m:Nat):List AC:=List.replicate m (.int .i64 0)
def En(T:TypeId)(k:IntKind)(m:Nat)(p:PV)(s:St):Option St:=
 match s.gs 0,s.gs 1 with
 |.c (.ptr i 0),.c (.ptr j 0)=>match s.mem i,s.mem j with
  |some (.box e cs),U (.box e2 [_])=>if p.ty=T+1000000/\p.k=k/\i≠j/\cs.length=m then U ⟨s.n,s.sl,upd (upd s.mem i (.box e (zH m))) j (.box e2 [.int k p.n]),s.gs⟩else V
  |_,_=>V
 |_,_=>V
def iM(P:Program)(T:TypeId)(k:IntKind)(m:Nat)(i:List ResultVar)(rs:List Ty):Tr->Option (Fr (aa rs))
 |.leaf .ret s=>dh P i rs s
 |.leaf .normal s=>dh P i rs s
 |.leaf (.panic p) s=>match En T k m p s with
  |some t=>match dh P i rs t with
   |some f=>U (.need (inR k p.n) f)
   |none=>V
  |none=>V
 |.leaf _ _=>V
 |.br b x y=>match iM P T k m i rs x,iM P T k m i rs y with
  |some j,U q=>U (.br b j q)
  |_,_=>V
 |.need p x=>match iM P T k m i rs x with
  |some j=>U (.need p j)
  |none=>V
 |.two p x y=>match iM P T k m i rs x,iM P T k m i rs y with
  |some j,U q=>U (.need (p->j.ok/\j.get=q.get) q)
  |_,_=>V
def Po:List Oper->Option (FuncId×Tmp×Tmp×Tmp)
 |[⟨U td,.makeFunc (.func f) first i,_,_,_,V⟩,⟨V,.defer ⟨.value (.tmp j),args,_⟩,_,_,_,V⟩]=>match first.toList,i.toList,args.toList with
  |[],[.tmp ta,.tmp tb],[]=>if j=td then U (f,td,ta,tb)else V
  |_,_,_=>V
 |_=>V
def K8(P:Program)(C:Cx)(run:St->Option Tr)(T:TypeId)(k:IntKind)(m:Nat)(fn:Func)(A:Code)(td ta tb:Tmp)(ps:List PT)(rs:List Ty)(xs:ag ps):Option (Fr (aa rs)):=
 if (fn.name == "runtime.NumGoroutine")=Y/\ps.length<=fn.ntmps/\td<fn.ntmps then match cr P C 0 bw A 0 (sj fn.ntmps (eI ps xs))with
  |some (.leaf .normal s1)=>match s1.sl ta,s1.sl tb with
   |.c (.ptr i 0),.c (.ptr j 0)=>if s1.n=fn.ntmps then match run (fk ⟨s1.n,e8 s1.sl (U td) .dead,s1.mem,λt=>if t=0 then .c (.ptr i 0)else if t=1 then .c (.ptr j 0)else .dead⟩)with
    |some t=>iM P T k m fn.results.toList rs t
    |none=>V
    else V
   |_,_=>V
  |_=>V
 else V
section
variable {P:Program} {w w':World} {E:Env} {F F':Nat->Prop} {γ γ':Nat->Value}
def ub{T:TypeId}{u:List ResultVar}{rs:List Ty}:{t:Tr} -> {f:Fr (aa rs)}->iM P T k m u rs t=U f->f.ok->t.sat λe s=>match e with
  |.ret=>∃ n,dh P u rs s=U (Fr.needL n (.val f.get))/\av n
  |.normal=>∃ n,dh P u rs s=U (Fr.needL n (.val f.get))/\av n
  |.panic p=>∃ w n,En T k m p s=U w/\inR k p.n/\dh P u rs w=U (Fr.needL n (.val f.get))/\av n
  |_=>False
 |.leaf e s,f,h,j=>by
  cases e with
  |exit i=>simp[iM]at h
  |val i=>simp[iM]at h
  |jump i=>simp[iM]at h
  |normal=>exact tO h j
  |ret=>exact tO h j
  |panic p=>
   simp only[iM]at h;split at h<;>try trivial
   rename_i w H;split at h<;>try trivial
   rename_i f' F;cases h;obtain⟨n,S,C⟩:=tO F j.2;exact⟨w,n,H,j.1,S,C⟩
 |.br b x y,f,h,j=>by
  simp only[iM]at h;split at h<;>try trivial
  rename_i Q W q N;cases h;refine⟨λhb=>?_,λhb=>?_⟩;have:=ub q (j.1 hb);simpa only[Fr.get,hb,if_true]using this;have:=ub N (j.2 hb);simpa only[Fr.get,hb,ub2,ufn]using this
 |.need p x,f,h,j=>by
  simp only[iM]at h;split at h<;>try trivial
  rename_i Q q;cases h;have:=ub q j.2;exact⟨j.1,this⟩
 |.two p x y,f,h,j=>by
  simp only[iM]at h;split at h<;>try trivial
  rename_i Q W q N;cases h;have C:=ub N j.2;refine⟨λO=>?_,C⟩;have:=ub q (j.1 O).1
  rwa [(j.1 O).2]at this
def qoh{s:St}{a:Act}(hi:InvG P E s a w [] F γ)(h:Aa w' w):InvG P E s a w' [] F γ:=by
 obtain⟨m,q,u,C⟩:=h;have j:∀ b:Nat,w'.heap[b]?= w.heap[b]? := λb=>by rw[m]
 have i:Step E.B w F γ s.mem w' F γ s.mem:=⟨λ_ h=>h,λb _=>j b,λ_ _ h=>h,λb _=>j b,q,u,C,by rw[m];exact ue6 _,λb hb=>by rw[m];exact dv hi b hb,λ_ h=>.inl h⟩;refine⟨hi.n,hi.df,?_,hi.mem.keep (λ_ h=>h) (λb _=>j b) (λid o b N H=>⟨j b,(gZ (hi.mem.ob id o N) H).2.1⟩),λt=>(hi.sl t).mono i.hF i.hw i.hR,hi.hg,λt=>i.repA (hi.gh t)⟩;obtain⟨γ0,h0⟩:=hi.step;exact⟨γ0,h0.trans i⟩
def WK:(m:Nat) -> {g:Nat->Value->Prop}->(∀ j,j<m->g j (.int .i64 0))->aN P w F R (zH m) g
 |0,_,_=>trivial
 |m+1,_,h=>⟨⟨.int .i64 0,h 0 (by omega),rfl,rfl,by decide,by decide⟩,WK m λj i=>h (j+1) (by omega)⟩
def qvv{old new:Array Value}(h:old.size=new.size):cF old 0 new.toList=new:=by
 apply ufj;rw[yy (by simp;omega)];exact h;intro i m j;simp only[cF,List.take_zero,List.getElem_toArray];rw[List.getElem_append_left (by simpa using j)];simp
def zb1{T:TypeId}{p:PV}{s s':St}{a:Act}(hi:InvG P E s a w [] F γ)(h:En T k m p s=U s')(hr:inR k p.n):
  p.ty=T+1000000/\p.k=k/\∃ b1 b2 t1 t2 o1 o2,E.G 0=.pointer (U ⟨b1,0,V⟩)/\E.G 1=.pointer (U ⟨b2,0,V⟩)/\b1≠b2/\w.heap[b1]?= U (.cells o1 t1 (0,0))/\o1.size=m/\w.heap[b2]?= U (.cells o2 t2 (0,0))/\o2.size=1 /\
   InvG P E s' a ((w.setRow b1 (Array.replicate m (.int .i64 0))).setRow b2 #[.int k p.n]) [] F γ:=by
 unfold En at h;split at h<;>try trivial
 rename_i i j hg0 hg1;split at h<;>try trivial
 rename_i e cs e2 c0 H N;split at h<;>try trivial
 rename_i hp;cases h;obtain⟨hp1,hp2,hij,q⟩:=hp;have h0:=hi.gh 0;rw[hg0]at h0;have h1:=hi.gh 1;rw[hg1]at h1;obtain⟨b1,o1,O,e12,Q,e14,e15,C,e17⟩:=lw hi.mem H h0.2;obtain⟨b2,o2,S,e22,W,e24,e25,e26,e27⟩:=lw hi.mem N h1.2;have hne:b1≠b2:=by
  rintro rfl;exact hi.mem.apart i j _ _ b1 hij H N ⟨_,O,rfl⟩ ⟨_,S,rfl⟩
 have ho1:cF o1 0 (Array.replicate m (.int .i64 0):Array Value).toList=Array.replicate m (.int .i64 0):=qvv (by simp[C,q]);obtain⟨s1,s2⟩:=pJ (off:=0) (cs':=zH m) (vs:=(Array.replicate m (.int .i64 0):Array Value).toList) hi.mem (dv hi) H O Q e14 e15 (by simp[C,q]) (by simp[zH,C,q]) (by
  rw[ho1];exact WK m λj hj=>by simp[hj])
 rw[ho1]at s1 s2;have hM2':upd s.mem i (.box e (zH m)) j=U (.box e2 [c0]):=(fa _ _ (Ne.symm hij)).trans N;obtain⟨old,rfl⟩:=JO (by simpa using e26);have hov:cF #[old] 0 [.int k p.n] = #[.int k p.n]:=by simp[cF]
 have hb2:(w.setRow b1 (Array.replicate m (.int .i64 0))).heap[b2]?= U (.cells #[old] e2 (0,0)):=(uew w b1 b2 _ (Ne.symm hne)).trans W;obtain⟨s3,s4⟩:=pJ (off:=0) (cs':=[.int k p.n]) (vs:=[.int k p.n]) s2 s1.bd hM2' S hb2 e24 e25 (by simp) rfl ⟨⟨.int k p.n,by rw[hov];rfl,rfl,rfl,hr⟩,uT⟩;have u:=s1.trans s3;refine⟨hp1,hp2,b1,b2,e,e2,o1,#[old],e12,e22,hne,Q,C.trans q,W,rfl,⟨hi.n,hi.df,?_,s4,λt=>(hi.sl t).mono u.hF u.hw u.hR,hi.hg,λt=>u.repA (hi.gh t)⟩⟩;obtain⟨γ0,h0⟩:=hi.step;exact⟨γ0,h0.trans u⟩
def qf9{C:Cx}(hC:CxOK P C){run:St->Option Tr}{g:FuncId}{T:TypeId}{fn:Func}{A c:Code}{rid:Nat}{ops:Array Oper}{td ta tb:Tmp}{ps:List PT}{rs:List Ty}{fr:ag ps->Fr (aa rs)}(x0:ag ps)(hf:P.funcs[f]?= some fn)(hb:fn.body=some (.seq A (.seq (.region rid ops false) c)))(hd:Po ops.toList=some (g,td,ta,tb))(hT:ToldTwo P g T k m)(hR:∀ E,lr P E c run)(hrun:∀ xs,K8 P C run T k m fn A td ta tb ps rs xs=some (fr xs)):af P f ⟨ps,rs,λxs=>(fr xs).get,λxs=>[(fr xs).ok]⟩:=by
 have h0:=hrun x0
 unfold K8 at h0
 split at h0<;>try (cases h0;done)
 rename_i hc
 refine⟨enters hf hb hc.1,λw F xs vs hbd hr hok=>ucd hf hb ?_⟩
 have hr':=hrun xs
 unfold K8 at hr'
 simp only[hc,ufm,if_true]at hr'
 split at hr'<;>try (cases hr';done)
 rename_i s1 ht1
 split at hr'<;>try (cases hr';done)
 rename_i i j hsl1 hsl2
 split at hr'<;>try (cases hr';done)
 rename_i hsn
 split at hr'<;>try (cases hr';done)
 rename_i t ht2
 have hlen:vs.length=ps.length:=rV hr
 have hstart:=vV (D:=[]) (n:=fn.ntmps) hbd (λR=>mO hr) (by have:=hc.2.1;omega)
 have hsz:(vs.toArray).size=vs.length:=by simp
 refine wp_seq (wp_mono (fR hC A 0 (aY A 0) ht1 (Q:=λe s=>e=.normal/\s=s1) ⟨rfl,rfl⟩ hstart) ?_)
 rintro e a1 w1 ⟨xe,s,rfl,⟨F1,γ1,hi⟩,rfl,rfl⟩
 have hva:=rm hi ta
 rw[hsl1]at hva
 obtain⟨_,b1,hR1,hva⟩:=hva
 have hvb:=rm hi tb
 rw[hsl2]at hvb
 obtain⟨_,b2,hR2,hvb⟩:=hvb
 refine wp_seq (ufl ?_)
 obtain⟨ol⟩:=ops
 simp only at hd
 unfold Po at hd
 split at hd<;>try (cases hd;done)
 rename_i td0 f0 first caps ty pos aft td1 args ats ty' pos' aft'
 split at hd<;>try (cases hd;done)
 rename_i ta0 tb0 hfirst hcaps hargs
 split at hd<;>try (cases hd;done)
 rename_i htd
 subst htd
 simp at hd
 obtain⟨rfl,rfl,rfl,rfl⟩:=hd
 have h1':first = #[]:=by
  obtain⟨l⟩:=first
  simp only at hfirst
  rw[hfirst]
 have h2':caps = #[.tmp ta0,.tmp tb0]:=by
  obtain⟨l⟩:=caps
  simp only at hcaps
  rw[hcaps]
 have h3':args = #[]:=by
  obtain⟨l⟩:=args
  simp only at hargs
  rw[hargs]
 subst h1'
 subst h2'
 subst h3'
 have hev1:a1.eval (.tmp ta0)=.pointer (some ⟨b1,0,none⟩):=hva
 have hev2:a1.eval (.tmp tb0)=.pointer (some ⟨b2,0,none⟩):=hvb
 let cl:Value:=.func (.func f0) #[] #[.pointer (some ⟨b1,0,none⟩),.pointer (some ⟨b2,0,none⟩)]
 let o0:Oper:=⟨some td1,.makeFunc (.func f0) #[] #[.tmp ta0,.tmp tb0],ty,pos,aft,none⟩
 let o1:Oper:=⟨none,.defer ⟨.value (.tmp td1),#[],ats⟩,ty',pos',aft',none⟩
 have hx0:(execOp a1.eval o0).run P w1=.ok (.value cl) w1:=by
  have hmf:∀ (fn:Fn) (first cap:Array Value) (w:World),(Instr.makeFunc fn first cap).run P w=.ok (.func fn first cap) w:=λ_ _ _ _=>rfl
  simp[execOp,o0,hev1,hev2,hmf,cl]
 have hput:(a1.put (some td1) cl).eval (.tmp td1)=cl:=by
  show(a1.put (some td1) cl).tmps.getD td1 undef=cl
  rw[Du _ _ _ _ (λx hx=>by cases hx;rw[hi.n,hsn];exact hc.2.2),if_pos rfl]
 have hx1:(execOp (a1.put (some td1) cl).eval o1).run P w1=.ok (.defer { target:=.fn (.func f0) #[.pointer (some ⟨b1,0,none⟩),.pointer (some ⟨b2,0,none⟩)],args:=#[] }) w1:=by
  simp[execOp,resolve,o1,hput,cl,Deferred.ofValue]
 have hrange:List.range ((#[o0,o1]:Array Oper)).size=[0,1]:=rfl
 show wpOps P #[o0,o1] _ (List.range ((#[o0,o1]:Array Oper)).size) a1 w1
 rw[hrange]
 unfold wpOps
 simp
 refine .inl ?_
 unfold Oper.wp
 rw[hx0,Oper.upon_value]
 unfold wpOps
 simp
 refine .inl ?_
 unfold Oper.wp
 rw[show o0.dst=some td1 from rfl,hx1,Oper.upon_defer]
 have hip:=oV (lJ (d:=some td1) (v:=.dead) (u:=cl) (wr:=[]) hi (λx hx=>by cases hx;exact⟨by rw[hsn];exact hc.2.2,by simp⟩) (Step.refl (dv hi)) hi.mem trivial (λ_ _ _ h=>by cases h))
 let D:List Deferred:=[{ target:=.fn (.func f0) #[.pointer (some ⟨b1,0,none⟩),.pointer (some ⟨b2,0,none⟩)],args:=#[] }]
 let E2:Env:=⟨w,F,λt=>if t=0 then .pointer (some ⟨b1,0,none⟩)else .pointer (some ⟨b2,0,none⟩),D,w.heap.size,ue6 _⟩
 have hi':InvG P E2 (fk ⟨s.n,e8 s.sl (some td1) .dead,s.mem,λt=>if t=0 then .c (.ptr i 0)else if t=1 then .c (.ptr j 0)else .dead⟩) { (a1.put (some td1) cl)with defers:={ target:=.fn (.func f0) #[.pointer (some ⟨b1,0,none⟩),.pointer (some ⟨b2,0,none⟩)],args:=#[] }::(a1.put (some td1) cl).defers } w1 [] F1 γ1:=by
  refine⟨hip.n,?_,hip.step,hip.mem,hip.sl,hip.hg,λt=>?_⟩
  ·show _::(a1.put (some td1) cl).defers=D
   rw[show(a1.put (some td1) cl).defers=a1.defers from rfl,hi.df]
  ·show aE P w1 F1 (ap s.mem γ1) (if t=0 then .c (.ptr i 0)else if t=1 then .c (.ptr j 0)else .dead) (if t=0 then .pointer (some ⟨b1,0,none⟩)else .pointer (some ⟨b2,0,none⟩))
   by_cases ht0:t=0
   ·rw[if_pos ht0,if_pos ht0]
    exact⟨rfl,b1,hR1,rfl⟩
   ·rw[if_neg ht0,if_neg ht0]
    by_cases ht1':t=1
    ·rw[if_pos ht1']
     exact⟨rfl,b2,hR2,rfl⟩
    ·rw[if_neg ht1']
     trivial
 have hwp:=hR E2 _ _ ht2 _ (ub hr' hok) _ _ ⟨F1,γ1,hi'⟩
 refine wp_mono hwp ?_
 rintro e a2 w2 ⟨xe,s2,rfl,⟨F2,γ2,hi2⟩,hx⟩
 have hinv:∀ W,(invoke (.fn (.func f0) #[.pointer (some ⟨b1,0,none⟩),.pointer (some ⟨b2,0,none⟩)]) #[]).run P W=.ok (.enter f0 #[.pointer (some ⟨b1,0,none⟩),.pointer (some ⟨b2,0,none⟩)]) W:=λW=>by
  have:=hT.enter #[.pointer (some ⟨b1,0,none⟩),.pointer (some ⟨b2,0,none⟩)] W
  simp[invoke,this]
 have hdf:a2.defers=[{ target:=.fn (.func f0) #[.pointer (some ⟨b1,0,none⟩),.pointer (some ⟨b2,0,none⟩)],args:=#[] }]:=hi2.df
 have hfin:(∃ n,dh P fn.results.toList rs s2=some (Fr.needL n (.val (fr xs).get))/\av n)->Leaves P fn a2.tmps (fJ w F rs (fr xs).get) a2.defers .returning w2:=by
  rintro⟨n,hend,hn⟩
  rw[hdf]
  refine ufb (by simp) (hinv w2) ((hT.idle _ _ w2).mono ?_)
  rintro e u' w' ⟨⟨v,rfl⟩,rfl,rfl⟩
  exact tP hi2 rfl hend hn
 cases xe with
 |normal=>exact hfin hx
 |ret=>exact hfin hx
 |exit _=>exact hx.elim
 |val _=>exact hx.elim
 |jump _=>exact hx.elim
 |panic p=>
  obtain⟨s',n,hs',hin,hend,hn⟩:=hx
  obtain⟨hty,hk,c1,c2,t1,t2,o1,o2,hG1,hG2,hne,hh1,hs1,hh2,hs2,hi3⟩:=zb1 hi2 hs' hin
  have hG1':(Value.pointer (some ⟨b1,0,none⟩))=.pointer (some ⟨c1,0,none⟩):=hG1
  have hG2':(Value.pointer (some ⟨b2,0,none⟩))=.pointer (some ⟨c2,0,none⟩):=hG2
  simp at hG1' hG2'
  subst hG1'
  subst hG2'
  show Leaves P fn a2.tmps _ a2.defers (.panicking [{ v:=p.val,recovered:=false }]) w2
  rw[WF hty,hdf,hk]
  refine ufb (by simp) (hinv w2) ((hT.told b1 b2 t1 t2 o1 o2 p.n w2 hne hh1 hs1 hh2 hs2).mono ?_)
  rintro e u' w' ⟨⟨v,rfl⟩,rfl,hsw⟩
  exact tP (qoh hi3 hsw) rfl hend hn
end
section
variable {P:Program} {w w':World} {F:Nat->Prop}
def D7(w:World)(Q sT ty q:TypeId)(k g o m C:Nat)(a:Addr)(u N:Nat)(cs:List Value)(cur:Array Value)(t:TypeId)(hu:P.underlying Q=U (.slice q))(S:(P.info? q).map (·.size)=U k)(hn:cs.length=Nat.min u m*k)(H:∀ j v,cs[j]?= U v->w.cell? (a.add j)=U v)(hg:w.heap[g]?= U (.cells cur t (0,0)))(F:o+cs.length<=cur.size)(W:∀ v∈cs,v.oneCell'=Z):
  (Builtin.copy_ #[Q,sT] ty #[.slice (U ⟨g,o,V⟩) m C,.slice (U a) u N]).run P w=.ok (goInt (Nat.min u m)) (w.setRow g (cur.toList.take o++cs++cur.toList.drop (o+cs.length)).toArray):=by
 have hl:=run_loadCells_list (P:=P) w a cs H;have O:=run_storeCells_at P g o t cs 0 cur w hg (by simpa using F) W;cases hq:P.info? q with
 |none=>simp[hq]at S
 |some i=>
  have hi:i.size=k:=by simpa[hq]using S
  simp[Builtin.copy_,ud2 hu,Builtin.lenOf,Builtin.firstCells,sizeOf,typeInfo,hq,hi,<- hn,hl,O]
def qym(l m:List α)(p q:Nat)(h:p<=q)(hq:q<=l.length):(l.take q++m).take p=l.take p:=by
 rw[List.take_append_of_le_length (by simp;omega),ud5,udm h]
def qob(cur xs news:List α)(q p k:Nat)(t:cur.take q=xs)(F:q+k<=cur.length)(w:p<=q)(u:news.length=k)(C1 C2:List α)(i:C1=cur.take (p+k)++xs.drop p++cur.drop (p+k+(xs.drop p).length))(j:C2=C1.take p++news++C1.drop (p+news.length)):
  C1.length=cur.length/\C2.length=cur.length/\C2.take (q+k)=xs.take p++news++xs.drop p:=by
 have C:xs.length=q:=by rw[<- t,uc3];omega
 have m:C1.length=cur.length:=by rw[i];simp;omega
 have e1:C1.take p=xs.take p:=by
  rw[i,ucq,qym cur _ p (p+k) (by omega) (by omega),<- t,ud5,udm w]
 have e2:C1.drop (p+k)=xs.drop p++cur.drop (p+k+(xs.drop p).length):=by
  rw[i,ucq];exact udx (by rw[uc3];omega)
 rw[u,e1,e2]at j;refine⟨m,?_,?_⟩;rw[j];simp;omega;rw[j,<- ucq];exact udw (by simp;omega)
def qoa(row xs news:List α)(q p k:Nat)(w:xs.length=q)(H:p<=q)(u:row.take p=xs.take p)(C:q+k<=row.length)(F:news.length=k)(C1 C2:List α)(m:C1=row.take p++news++row.drop (p+news.length))(t:C2=C1.take (p+k)++xs.drop p++C1.drop (p+k+(xs.drop p).length)):
  C1.length=row.length/\C2.length=row.length/\C2.take (q+k)=xs.take p++news++xs.drop p:=by
 have i:C1.length=row.length:=by rw[m];simp;omega
 have e1:C1.take (p+k)=xs.take p++news:=by
  rw[m,u];exact udw (by simp;omega)
 have j:C2.length=row.length:=by rw[t];simp;omega
 refine⟨i,j,?_⟩;rw[t,e1];exact udw (by simp;omega)
end
def W8(w:World){a:Act}{K:Act->World->Prop}{Q:Exit->Act->World->Prop}(d s:Operand)(t i:TypeId)(q:o.op=.call { callee:=.builtin .copy,args:=#[d,s],argTypes:=#[t,i] })(v u:Value)(m:a.eval d=v)(F:a.eval s=u){j:Value}{w':World}(C:(Builtin.copy_ #[t,i] o.type #[v,u]).run P w=.ok j w')(h:K (a.put o.dst j) w'):o.wp P a w K Q:=by
 unfold Oper.wp execOp;simp only[q,resolve,invoke,builtin,uep,uer,ucl,List.map_toArray,ueh,List.map_nil,m,F,C];exact h
def nI(w:World){ops:Array Oper}{rest:List Oper}{a:Act}{Q:Exit->Act->World->Prop}(i:o.guard=V)(d s:Operand)(t j:TypeId)(F:o.op=.call { callee:=.builtin .copy,args:=#[d,s],argTypes:=#[t,j] })(v u:Value)(C:a.eval d=v)(N:a.eval s=u){m:Value}{w':World}(H:(Builtin.copy_ #[t,j] o.type #[v,u]).run P w=.ok m w')(h:wpList P ops Q rest (a.put o.dst m) w'):wpList P ops Q (o::rest) a w:=
 wpList_plain i λ_ q=>W8 w d s t j F v u C N H (q _ _ h)
def vX{ops:Array Oper}{a:Act}{K:Act->World->Prop}{Q:Exit->Act->World->Prop}{E:Prop}(hg:o.guard=V)(d x:Operand)(i m:TypeId)(j:o.op=Op.call { callee:=Callee.builtin Builtin.copy,args:=#[d,x],argTypes:=#[i,m] })(v u:Value)(C:a.eval d=v)(H:a.eval x=u){q:Value}{w':World}(F:(Builtin.copy_ #[i,m] o.type #[v,u]).run P w=.ok q w')(t:K (a.put o.dst q) w'):
  if Region.wanted o (yielded ops a.tmps)=Z then Oper.wp P o a w K Q else E:=by
 have hw:Region.wanted o (yielded ops a.tmps)=true:=by simp[Region.wanted,hg]
 rw[if_pos hw];exact W8 w d x i m j v u C H F t
def xk{g q:Nat}(hg:w.heap[g]?= U (.cells cur t (0,0)))(m:cur.toList.take q=xs)(i:xs[j]?= U v):w.cell? ⟨g,j,V⟩=U v:=by
 rw[cell_of_row w g j cur t (0,0) hg];rw[<- m,ub1]at i;split at i;simpa using i;cases i
section
open Go.Lib
section
variable {P:Program} {ts te tn:TypeId} {i0:TypeInfo} {z:Value} {q by_:Nat} {f:FuncId}
structure InsTy (P:Program) (ts te tn:TypeId) (i0:TypeInfo) (z:Value) (q by_:Nat):Prop where
 us:P.underlying ts=some (.slice te)
 un:P.underlying tn=some (.int .i64)
 hi:P.info? te=some i0
 hz:i0.zero=some z
 hq:i0.size=q
 hb:i0.bytes=by_
 hc:z.cells.size=q
 h0:0<q
def InsTy.sz(T:InsTy P ts te tn i0 z q by_):(P.info? te).map (·.size)=U q:=by rw[T.hi];simp[T.hq]
def zV(P:Program)(f:FuncId)(te:TypeId)(q by_:Nat):Prop:=
 ∀ (w:World) (B n:Nat) (s v:Value) (xs news:List Value),B<=w.heap.size->w.ownsRow B te q s n xs->w.ownsRow B te q v 1 news->(∀ u∈news,u.oneCell'=Z)->n+1<=maxLen->(n+1)*by_<=140737488355328 ->
  Calls P f #[s,.int .i64 n,v] w λj w'=>∃ i,j=.returned i/\w.grownBy w' s.ownBlock/\w'.ownsRow B te q i (n+1) (xs++news)/\(i.ownBlock=s.ownBlock\/i.ownBlock=U w.heap.size)
def zX(P:Program)(f:FuncId)(te:TypeId)(q:Nat):Prop:=
 ∀ (w:World) (n i g j C vc:Nat) (cur:Array Value) (xs news:List Value),i<n->w.heap[g]?= U (.cells cur te (0,0))->cur.size=j*q->n+1<=j->j<=maxLen->cur.toList.take (n*q)=xs ->
  ∀ (t:Array Value),w.heap[C]?= U (.cells t te (0,0))->C≠g->news.length=q->t.toList.take q=news->1<=vc->t.size=vc*q->(∀ u∈xs,u.oneCell'=Z)->(∀ u∈news,u.oneCell'=Z) ->
  Calls P f #[.slice (U ⟨g,0,V⟩) n j,.int .i64 i,.slice (U ⟨C,0,V⟩) 1 vc] w λF w'=>∃ m,F=.returned (.slice (U ⟨g,0,V⟩) (n+1) j)/\w'=w.drew.setRow g m/\m.size=cur.size/\m.toList.take ((n+1)*q)=xs.take (i*q)++news++xs.drop (i*q)
def zW(P:Program)(f:FuncId)(te:TypeId)(q by_:Nat):Prop:=
 ∀ (w:World) (n i g j t vc:Nat) (cur:Array Value) (xs news:List Value),i<n->w.heap[g]?= U (.cells cur te (0,0))->cur.size=j*q->n<=j->j<n+1->cur.toList.take (n*q)=xs ->
  ∀ (m:Array Value),w.heap[t]?= U (.cells m te (0,0))->news.length=q->m.toList.take q=news->(∀ u∈xs,u.oneCell'=Z)->(∀ u∈news,u.oneCell'=Z)->n+1<=maxLen->(n+1)*by_<=140737488355328 ->
  Calls P f #[.slice (U ⟨g,0,V⟩) n j,.int .i64 i,.slice (U ⟨t,0,V⟩) 1 vc] w λF w'=>∃ G C,F=.returned (.slice (U ⟨w.heap.size,0,V⟩) (n+1) G)/\w.grownBy w' V/\w'.heap[w.heap.size]?= U (.cells C te (0,0))/\n+1<=G/\G<=maxLen/\C.size=G*q /\
   C.toList.take ((n+1)*q)=xs.take (i*q)++news++xs.drop (i*q)
def TK{q:Nat}(m:w.ownsRow B te q v 1 news):∃ g i cur,v=.slice (U ⟨g,0,V⟩) 1 i/\B<=g/\w.heap[g]?= U (.cells cur te (0,0))/\1<=i/\i<=maxLen/\cur.size=i*q/\cur.toList.take (1*q)=news:=by
 rcases m.2 with ⟨_,h0⟩|j
 exact absurd h0 (by omega);exact j
def IY{T:Ty}(hen:∀ args w,(callFunc f args).run P w=.ok (.enter f args) w)(he:zV P f te T.size by_)(hg:zW P f te T.size by_)(hs':zX P f te T.size):InsOK P f te T by_:=by
 refine⟨hen,λw B n i s v xs news hB hs hv hne hi W h1 h63 hby=>?_⟩;rcases uem i n with N|N
 obtain⟨vb,vc,u,rfl,hvb,hvg,hv1,hv2,hv3,O⟩:=TK hv;have hnl:news.length=T.size:=by have:=hv.1;omega
 rw[Nat.one_mul]at O;rcases hs.2 with ⟨rfl,h0⟩|⟨g,q,cur,rfl,hbg,H,hnc,hcm,F,m⟩
 omega;have hne':vb≠g:=λe=>hne vb rfl (by rw[e];rfl);rcases uem q (n+1)with hr|hr
 refine(hg w n i g q vb vc cur xs news N H F hnc hr m u hvg hnl O W h1 h63 hby).mono λen w' hp=>?_;obtain⟨G,C,rfl,j,hh,a1,a2,Q,S⟩:=hp;refine⟨_,rfl,⟨j.os,j.tape,j.output,j.size,λk hk _=>j.block k hk (by simp)⟩,⟨?_,.inr ⟨_,_,_,rfl,hB,hh,a1,a2,Q,S⟩⟩,.inr rfl⟩;rw[<- S,uc3,ubt,Q];exact udm (ubd _ a1);refine(hs' w n i g q vb vc cur xs news N H F hr hcm m u hvg hne' hnl O hv1 hv3 W h1).mono λen w' hp=>?_;obtain⟨t,rfl,rfl,Q,S⟩:=hp;have a5:=Q.trans F;refine⟨_,rfl,⟨rfl,rfl,rfl,by simp,λk _ hk=>uew w.drew g k _ (λe=>hk (by simp[Value.ownBlock,e]))⟩,⟨?_,.inr ⟨g,q,t,rfl,hbg,ue9 w.drew g cur t _ _ H,hr,hcm,a5,S⟩⟩,.inl rfl⟩;rw[<- S,uc3,ubt,a5];exact udm (ubd _ hr);have e:i=n:=by omega
 subst e;refine(he w B i s v xs news hB hs hv h1 h63 hby).mono λen w' hp=>?_;obtain⟨v',rfl,a1,a2,Q⟩:=hp;refine⟨v',rfl,a1,?_,Q⟩;have hx:=hs.1;rw[ua3 (by omega),ua2 (by omega),udo];exact a2
def RN{j q:Nat}(m:cur.size=j*q)(t:n<=j)(i:cur.toList.take (n*q)=xs):xs.length=n*q:=by
 rw[<- i,uc3,ubt,m];exact udm (ubd _ t)
def InsTy.shift(T:InsTy P ts te tn i0 z q by_){g C W vc:Nat}(hi:i<n)(hg:w.heap[g]?= U (.cells cur te (0,0)))(hcs:cur.size=C*q)(N:n+1<=C)(m:cur.toList.take (n*q)=xs){t:Array Value}(hvg:w.heap[W]?= U (.cells t te (0,0)))(hne:W≠g)(H:news.length=q)(hvt:t.toList.take q=news)(h1x:∀ u∈xs,u.oneCell'=Z)(h1:∀ u∈news,u.oneCell'=Z):
  ∃ C1 C2:Array Value,(∀ ty F sc,(Builtin.copy_ #[ts,ts] ty #[.slice (U ⟨g,(i+1)*q,V⟩) (n-i) F,.slice (U ⟨g,i*q,V⟩) (n+1-i) sc]).run P w.drew=.ok (goInt (Nat.min (n+1-i) (n-i))) (w.drew.setRow g C1)) /\
   (∀ ty F,(Builtin.copy_ #[ts,ts] ty #[.slice (U ⟨g,i*q,V⟩) (n+1-i) F,.slice (U ⟨W,0,V⟩) 1 vc]).run P (w.drew.setRow g C1)=.ok (goInt (Nat.min 1 (n+1-i))) (w.drew.setRow g C2)) /\
   C2.size=cur.size/\C2.toList.take ((n+1)*q)=xs.take (i*q)++news++xs.drop (i*q):=by
 have e1:(i+1)*q=i*q+q:=uet _ _;have e2:(n+1)*q=n*q+q:=uet _ _;have e3:(n-i)*q=n*q-i*q:=Nat.sub_mul _ _ _;have m1:(i+1)*q<=n*q:=ubd _ hi;have m2:(n+1)*q<=C*q:=ubd _ N;have hxl:=RN hcs (by omega) m;have S:(xs.drop (i*q)).length=(n-i)*q:=by rw[uc4,hxl];omega
 obtain⟨C1,O⟩:∃ C1:Array Value,C1=(cur.toList.take ((i+1)*q)++xs.drop (i*q)++cur.toList.drop ((i+1)*q+(xs.drop (i*q)).length)).toArray:=⟨_,rfl⟩;obtain⟨C2,Q⟩:∃ C2:Array Value,C2=(C1.toList.take (i*q)++news++C1.toList.drop (i*q+news.length)).toArray:=⟨_,rfl⟩;obtain⟨k1,k2,k3⟩:=qob cur.toList xs news (n*q) (i*q) q m (by simp;omega) (by omega) H C1.toList C2.toList (by rw[O];simp only[e1]) (by rw[Q]);refine⟨C1,C2,λty F sc=>?_,λty F=>?_,by rw[<- ubt,k2,ubt],by rw[e2];exact k3⟩;rw[O];exact D7 w.drew _ _ ty te q g ((i+1)*q) (n-i) F ⟨g,i*q,V⟩ (n+1-i) sc (xs.drop (i*q)) cur te T.us T.sz (by rw[S,show Nat.min (n+1-i) (n-i)=n-i from Nat.min_eq_right (by omega)])
  (λj v hj=>by rw[ue4];exact xk hg m (by rwa [ub0]at hj)) hg (by rw[S];omega) (λv hv=>h1x v (ubq hv))
 rw[Q];have h:=D7 (w.drew.setRow g C1) ts ts ty te q g (i*q) (n+1-i) F ⟨W,0,V⟩ 1 vc news C1 te T.us T.sz (by rw[H,show Nat.min 1 (n+1-i)=1 from udm (by omega),Nat.one_mul])
  (λj v hj=>by
   rw[ue4,ueu];exact xk ((uew w.drew g W C1 hne).trans hvg) hvt hj) (ue9 w.drew g cur C1 _ _ hg) (by rw[H,<- ubt,k1,ubt];omega) h1
 rw[setRow_setRow]at h;exact h
def InsTy.grow(T:InsTy P ts te tn i0 z q by_){g t vb vc:Nat}(hi:i<n)(hg:w.heap[g]?= U (.cells cur te (0,0)))(hcs:cur.size=t*q)(hnc:n<=t)(S:t<n+1)(C:cur.toList.take (n*q)=xs){O:Array Value}(hvg:w.heap[vb]?= U (.cells O te (0,0)))(hnl:news.length=q)(hvt:O.toList.take q=news)(h1x:∀ u∈xs,u.oneCell'=Z)(h1:∀ u∈news,u.oneCell'=Z)(W:n+1<=maxLen)(hby:(n+1)*by_<=140737488355328):
  ∃ (G:Nat) (m C1 C2:Array Value),(∀ ty,(Builtin.append_ #[ts,tn] ty #[.slice (U ⟨g,0,V⟩) i t,.int .i64 ((n:Int)+1-(i:Int))]).run P w=.ok (.slice (U ⟨w.heap.size,0,V⟩) (n+1) G) (w.drew.alloc (.cells m te))) /\
   (∀ ty Q,(Builtin.copy_ #[ts,ts] ty #[.slice (U ⟨w.heap.size,i*q,V⟩) (n+1-i) Q,.slice (U ⟨vb,0,V⟩) 1 vc]).run P (w.alloc (.cells m te)).drew=.ok (goInt (Nat.min 1 (n+1-i))) ((w.alloc (.cells m te)).drew.setRow w.heap.size C1)) /\
   (∀ ty Q sc,(Builtin.copy_ #[ts,ts] ty #[.slice (U ⟨w.heap.size,(i+1)*q,V⟩) (n-i) Q,.slice (U ⟨g,i*q,V⟩) (n-i) sc]).run P ((w.alloc (.cells m te)).drew.setRow w.heap.size C1).drew=.ok (goInt (Nat.min (n-i) (n-i))) (((w.alloc (.cells m te)).drew.setRow w.heap.size C1).drew.setRow w.heap.size C2)) /\
   n+1<=G/\G<=maxLen/\w.grownBy (((w.alloc (.cells m te)).drew.setRow w.heap.size C1).drew.setRow w.heap.size C2) V/\(((w.alloc (.cells m te)).drew.setRow w.heap.size C1).drew.setRow w.heap.size C2).heap[w.heap.size]?= U (.cells C2 te (0,0)) /\
   C2.size=G*q/\C2.toList.take ((n+1)*q)=xs.take (i*q)++news++xs.drop (i*q):=by
 have h63':n+1<=9223372036854775807:=by unfold maxLen at W;omega
 have e1:(i+1)*q=i*q+q:=uet _ _;have e2:(n+1)*q=n*q+q:=uet _ _;have e3:(n-i)*q=n*q-i*q:=Nat.sub_mul _ _ _;have m1:(i+1)*q<=n*q:=ubd _ hi;have hxl:=RN hcs hnc C;have hdl:(xs.drop (i*q)).length=(n-i)*q:=by rw[uc4,hxl];omega
 have hgw:=(uaf.1 hg).1;have hvw:=(uaf.1 hvg).1;have hkk:(n:Int)+1-(i:Int)=((n+1-i:Nat):Int):=by omega
 have hik:i+(n+1-i)=n+1:=by omega
 have hold:(Builtin.firstCells i0.size i (.slice (U ⟨g,0,V⟩) i t)).run P w.drew=.ok (xs.take (i*q)).toArray w.drew:=by
  rw[T.hq];exact run_firstCells_some w.drew q i ⟨g,0,V⟩ i t (xs.take (i*q)) (by rw[uc3];omega) (λj v N=>by
   rw[ue4,ueu];rw[ub1]at N;split at N;exact xk hg C N;cases N)
 obtain⟨G,hG⟩:∃ G,G=grownCap w (n+1) t te:=⟨_,rfl⟩;have hGn:n+1<=G:=by rw[hG];exact grownCap_ge w _ _ _
 have hGm:G<=maxLen:=by rw[hG];exact ub6 w _ _ _ W
 have m3:(n+1)*q<=G*q:=ubd _ hGn;obtain⟨m,F⟩:∃ m:Array Value,m=(xs.take (i*q)).toArray++Builtin.zeroCells z.cells (n+1-i)++Builtin.zeroCells z.cells (G-(n+1)):=⟨_,rfl⟩;have hrz:∀ ty,(Builtin.append_ #[ts,tn] ty #[.slice (U ⟨g,0,V⟩) i t,.int .i64 ((n:Int)+1-(i:Int))]).run P w =
   .ok (.slice (U ⟨w.heap.size,0,V⟩) (n+1) G) (w.drew.alloc (.cells m te)):=λty=>by
  have h:=Lib.run_append_grow_zeros w ts tn ty te i0 _ .i64 .i64 T.us T.un T.hi T.hz (U ⟨g,0,V⟩) i t (xs.take (i*q)) hold (n+1-i) (by omega) (by have:=T.h0;have:=T.hq;omega) (by omega) (by omega) (by
   rw[T.hb];have:(n+1-i)*by_<=(n+1)*by_:=ubd _ (by omega);omega) (by rw[T.hb,hik];exact growslice_fits S hby)
  rw[hik,<- hG,<- F]at h;rw[hkk];exact h
 have e4:(n+1-i)*q=(n+1)*q-i*q:=Nat.sub_mul _ _ _;have e5:(G-(n+1))*q=G*q-(n+1)*q:=Nat.sub_mul _ _ _;have hRs:m.size=G*q:=by
  rw[F];simp only[uco,ucp,size_zeroCells,T.hc,uc3];omega
 have hRt:m.toList.take (i*q)=xs.take (i*q):=by
  rw[F,Array.toList_append,Array.toList_append,ucq];exact udw (by rw[uc3];omega)
 obtain⟨C1,hC1⟩:∃ C1:Array Value,C1=(m.toList.take (i*q)++news++m.toList.drop (i*q+news.length)).toArray:=⟨_,rfl⟩;obtain⟨C2,hC2⟩:∃ C2:Array Value,C2=(C1.toList.take ((i+1)*q)++xs.drop (i*q)++C1.toList.drop ((i+1)*q+(xs.drop (i*q)).length)).toArray:=⟨_,rfl⟩;obtain⟨k1,k2,k3⟩:=qoa m.toList xs news (n*q) (i*q) q hxl (by omega) hRt (by rw[ubt];omega) hnl C1.toList C2.toList (by rw[hC1]) (by rw[hC2];simp only[e1]);have H:(w.drew.alloc (.cells m te)).heap[w.heap.size]?= U (.cells m te (0,0)):=ud4 w.drew _;refine⟨G,m,C1,C2,hrz,λty Q=>?_,λty Q sc=>?_,hGn,hGm,⟨rfl,rfl,rfl,?_,λk hk _=>?_⟩,?_,by rw[<- ubt,k2,ubt,hRs],by rw[e2];exact k3⟩;rw[hC1];exact D7 _ _ _ ty te q w.heap.size (i*q) (n+1-i) Q ⟨vb,0,V⟩ 1 vc news m te T.us T.sz (by rw[hnl,show Nat.min 1 (n+1-i)=1 from udm (by omega),Nat.one_mul])
  (λj v N=>by
   rw[ue4,ueu];exact xk ((nY w.drew _ vb hvw).trans hvg) hvt N) H (by omega) h1
 rw[hC2];exact D7 _ _ _ ty te q w.heap.size ((i+1)*q) (n-i) Q ⟨g,i*q,V⟩ (n-i) sc (xs.drop (i*q)) C1 te T.us T.sz (by rw[hdl,show Nat.min (n-i) (n-i)=n-i from Nat.min_self _])
  (λj v N=>by
   rw[ue4];exact xk (((uew (w.alloc (.cells m te)).drew w.heap.size g C1 (by omega)).trans (nY w.drew _ g hgw)).trans hg) C (by rwa [ub0]at N))
  (ue9 (w.alloc (.cells m te)).drew w.heap.size m C1 _ _ H) (by rw[hdl,<- ubt,k1,ubt];omega) (λv hv=>h1x v (ubq hv))
 simp;exact(uew ((w.alloc (.cells m te)).drew.setRow w.heap.size C1).drew w.heap.size k C2 (by omega)).trans ((uew (w.alloc (.cells m te)).drew w.heap.size k C1 (by omega)).trans (nY w _ k hk));exact ue9 ((w.alloc (.cells m te)).drew.setRow w.heap.size C1).drew w.heap.size C1 C2 _ _ (ue9 (w.alloc (.cells m te)).drew w.heap.size m C1 _ _ H)
def InsTy.fin(T:InsTy P ts te tn i0 z q by_){s:Value}(hB:B<=w.heap.size)(S:w.ownsRow B te q s n xs)(C:w.ownsRow B te q v 1 news)(O:∀ u∈news,u.oneCell'=Z)(m:n+1<=maxLen)(t:(n+1)*by_<=140737488355328):
  ∃ j vc i w',v=.slice (U ⟨j,0,V⟩) 1 vc/\(∀ ty,(Builtin.append_ #[ts,ts] ty #[s,.slice (U ⟨j,0,V⟩) 1 vc]).run P w=.ok i w')/\w.grownBy w' s.ownBlock/\w'.ownsRow B te q i (n+1) (xs++news)/\(i.ownBlock=s.ownBlock\/i.ownBlock=U w.heap.size):=by
 obtain⟨j,vc,F,rfl,hvb,hvg,W,hv2,hv3,hv4⟩:=TK C;obtain⟨i,w',Q,e2,H,N⟩:=qr ts ts te i0 _ q T.us T.hi T.hz T.hq T.hc T.h0 s n xs S (U ⟨j,0,V⟩) 1 vc news (λh=>by cases h) C.1 (λad e=>by cases e;exact C.cells rfl) O m (by rw[T.hb];exact t) hB;exact⟨j,vc,i,w',rfl,λty=>Q,H,e2,N⟩
def InsTy.nil(T:InsTy P ts te tn i0 z q by_)(w:World)(A:Option Addr)(n c:Nat):(binOp .eql ts (.slice A n c) (.slice V 0 0)).run P w=.ok (.bool A.isNone) w:=by
 have i:binOp .eql ts (.slice A n c) (.slice V 0 0)=(do pure (.bool (<- Op.equal ts (.slice A n c) (.slice V 0 0)))):=rfl;have j:Op.equal ts (.slice A n c) (.slice V 0 0)=Op.equalIn (9999+1) ts (.slice A n c) (.slice V 0 0):=rfl;rw[i,j];simp[JJ T.us]
def InsTy.clone(T:InsTy P ts te tn i0 z q by_)(N:xs.length=n*q)(H:∀ (j:Nat) u,xs[j]?= U u->w.cell? (ad.add j)=U u)(Q:∀ u∈xs,u.oneCell'=Z)(C:n<=maxLen)(F:n*by_<=140737488355328):
  ∃ t w',(∀ ty,(Builtin.append_ #[ts,ts] ty #[.slice (U ⟨w.heap.size,0,V⟩) 0 0,.slice (U ad) n c]).run P (w.alloc (.cells #[] te))=.ok t w')/\w.grownBy w' V/\w'.ownsRow w.heap.size te q t n xs:=by
 have S:(w.alloc (.cells #[] te)).ownsRow w.heap.size te q (.slice (U ⟨w.heap.size,0,V⟩) 0 0) 0 []:=World.ownsRow_lit w #[] 0 (ue6 _) (by unfold maxLen;omega) (by simp);have i:∀ (j:Nat) u,xs[j]?= U u->(w.alloc (.cells #[] te)).cell? (ad.add j)=U u:=λj u W=>by
  have h:=H j u W;have hb:=block_lt_of_cell h;rw[ubc (nY w _ _ hb)];exact h
 obtain⟨t,w',hr,e2,m,e4⟩:=qr ts ts te i0 _ q T.us T.hi T.hz T.hq T.hc T.h0 _ 0 [] S (U ad) n c xs (λh=>by cases h) N (λO e=>by cases e;exact i) Q (by rw[ueu];exact C) (by rw[T.hb,ueu];exact F) (by simp);rw[ueu,udj]at e2;refine⟨t,w',λty=>hr,⟨m.os,m.tape,m.output,uel (by simp) m.size,λk hk _=>(m.block k (by simp;omega) (λe=>?_)).trans (nY w _ k hk)⟩,e2⟩;have:k=w.heap.size:=by simpa[Value.ownBlock]using e
 omega
def ul(hi:i<n)(j:n<=9223372036854775806):¬ ((i:Int)=(n:Int))/\I6.wrap ((i:Int)+(1:Int))=(i:Int)+(1:Int)/\(0:Int)<=(i:Int)+(1:Int)/\((i:Int)+(1:Int)).toNat=i+1/\i<=n/\(i:Int)<=(n:Int)/\(i:Int)<=(n:Int)+(1:Int):=
 ⟨by omega,by rw[udd];omega,by omega,by omega,by omega,by omega,by omega⟩
end
end
def da(step:Int->T->σ->Fr (σ ⊕ ρ)):Int->List T->σ->σ ⊕ ρ
 |_,[],s=>.inl s
 |i,x::r,s=>match (step i x s).get with
  |.inl j=>da step (i+1) r j
  |.inr y=>.inr y
def eJ(step:Int->T->σ->Fr (σ ⊕ ρ)):Int->List T->σ->Prop
 |_,[],_=>True
 |i,x::r,s=>(step i x s).ok/\match (step i x s).get with
  |.inl j=>eJ step (i+1) r j
  |.inr _=>True
def bO(step:Int->T->σ->Fr σ):Int->List T->σ->σ
 |_,[],s=>s
 |i,x::r,s=>bO step (i+1) r (step i x s).get
def bM(step:Int->T->σ->Fr σ):Int->List T->σ->Prop
 |_,[],_=>True
 |i,x::r,s=>(step i x s).ok/\bM step (i+1) r (step i x s).get
section
variable {P:Program} {c:Code} {L Eo R:LS} {n id:Nat} {κ T σ ρ:Type}
structure InK (n i:Int) (l:Nat):Prop where
 n:n=(l:Int)
 lo:0<=i
 hi:0<=(l:Int)
 big:(l:Int)<=9223372036854775807
def FK(un:L.X->Int×κ×σ)(nf:κ->Int)(i:κ->List T)(step:κ->Prop->Int->T->σ->Fr (σ ⊕ ρ))(ca:κ->σ->Eo.X)(outR:κ->ρ->Rd Empty Eo.X R.X)(d:σ)(j:ρ)(x:L.X):Fr (Rd L.X Eo.X R.X):=
 Fr.need (InK (nf (un x).2.1) (un x).1 (i (un x).2.1).length) (Fr.need (eJ (step (un x).2.1 True) (un x).1 ((i (un x).2.1).drop (un x).1.toNat) (un x).2.2)
  (Fr.br (dF (da (step (un x).2.1 True) (un x).1 ((i (un x).2.1).drop (un x).1.toNat) (un x).2.2)) (Fr.val (Rd.out (ca (un x).2.1 (dO d (da (step (un x).2.1 True) (un x).1 ((i (un x).2.1).drop (un x).1.toNat) (un x).2.2)))))
   (Fr.val (Rd.up (outR (un x).2.1 (zej j (da (step (un x).2.1 True) (un x).1 ((i (un x).2.1).drop (un x).1.toNat) (un x).2.2)))))))
def yu(mk:Int->κ->σ->L.X)(outR:κ->ρ->Rd Empty Eo.X R.X)(i:Int)(k:κ):σ ⊕ ρ->Rd L.X Eo.X R.X
 |.inl s=>.next (mk (I6.wrap (i+1)) k s)
 |.inr y=>Rd.up (outR k y)
def lm {C:Cx} (hC:CxOK P C) {Λ:Nat->St->Option Tr} (mk:Int->κ->σ->L.X) {un:L.X->Int×κ×σ} {nf:κ->Int} {j:κ->List T} (W:T) {step:κ->Prop->Int->T->σ->Fr (σ ⊕ ρ)} {ca:κ->σ->Eo.X} {outR:κ->ρ->Rd Empty Eo.X R.X} {d:σ} {d2:ρ}
  (hΛ:∀ E,bP P E Λ c 0:=by exact λ_=>aY _ 0)
  (hr:∀ i k s,nB P C 0 Λ c L ⟨n,id,L,Eo,R⟩ (mk i k s)=U (Fr.br (J (i<nf k)) ((step k (0<=i/\i<((j k).length:Int)) i ((j k).getD i.toNat W) s).mapR (yu mk outR i k)) (Fr.val (Rd.out (ca k s)))):=by intro i k s;kernel_rfl)
  (hun:∀ x,mk (un x).1 (un x).2.1 (un x).2.2=x:=by intro _;rfl) (hmk:∀ i k s,un (mk i k s)=(i,k,s):=by intro _ _ _;rfl)
  (hM:L.low=true:=by rfl) (hE:Eo.low=true:=by rfl) (hR:R.low=true:=by rfl) :
  ae P (.loop c) L ⟨n,id,L,Eo,R⟩ (FK un nf j step ca outR d d2):=by
 have hs:ae P c L ⟨n,id,L,Eo,R⟩ (λx=>Fr.br (J ((un x).1<nf (un x).2.1)) ((step (un x).2.1 (0<=(un x).1/\(un x).1<((j (un x).2.1).length:Int)) (un x).1 ((j (un x).2.1).getD (un x).1.toNat W) (un x).2.2).mapR (yu mk outR (un x).1 (un x).2.1)) (Fr.val (Rd.out (ca (un x).2.1 (un x).2.2)))):=
  ae.of_run hC (bs:=0) (Λ:=Λ) hM hE hR hΛ λx=>by
   have h:=hr (un x).1 (un x).2.1 (un x).2.2
   rwa [hun]at h
 refine ae.loop (n:=n) (id:=id) hs (inv:=λx=>InK (nf (un x).2.1) (un x).1 (j (un x).2.1).length) (μ:=λx=>(((j (un x).2.1).length:Int)-(un x).1).toNat) ?_ (λx Q hq=>hq.1);intro x S Q hq;obtain⟨_,t,m,q⟩:=hq;generalize hu:un x=u at *;obtain⟨i,k,s⟩:=u;dsimp only at S t m q |-;have hn:=S.n;have hlo:=S.lo;have H:=S.big;refine⟨λhc=>?_,λhc=>?_⟩
 ·have hi:i<((j k).length:Int):=by rw[<- hn];exact ucw hc
  have O:i.toNat<(j k).length:=by omega
  have hb:(0<=i/\i<((j k).length:Int))=True:=eq_true ⟨hlo,hi⟩;have e1:(j k).drop i.toNat=(j k)[i.toNat]::(j k).drop (i.toNat+1):=ual O;have hd:(j k).getD i.toNat W=(j k)[i.toNat]:=by rw[uah,uaq O];rfl
  have hw:I6.wrap (i+1)=i+1:=IntWalk.i64_in _ (by omega);rw[e1]at t m q;rw[hb,hd];generalize (j k)[i.toNat]=e at t m q |-;refine su (nL t.1 ?_);have w:=t.2;simp only[da]at m q;cases hg:(step k True i e s).get with
  |inl s'=>
   simp only[hg]at w m q;show InK _ _ _/\_<_/\(FK un nf j step ca outR d d2 (mk (I6.wrap (i+1)) k s')).satP Q;rw[hw];unfold FK;rw[hmk];have N:InK (nf k) (i+1) (j k).length:=⟨hn,by omega,by omega,H⟩;have hnt:(i+1).toNat=i.toNat+1:=by omega
   refine⟨N,by dsimp only;omega,N,?_⟩;dsimp only;rw[hnt];exact⟨w,m,q⟩
  |inr y=>
   simp only[hg]at m q;have:=q rfl;simp only[zej]at this;cases F:outR k y with
   |next x=>exact nomatch x
   |out y2=>rw[F]at this;simp only[yu,F,Rd.up];exact this
   |back z=>rw[F]at this;simp only[yu,F,Rd.up];exact this
   |pan p=>rw[F]at this;simp only[yu,F,Rd.up];exact this
 have hi:¬ i<((j k).length:Int):=by rw[<- hn];exact ucg hc
 have O:(j k).drop i.toNat=[]:=ua2 (by omega);rw[O]at m;exact m rfl
def FG(un:L.X->Int×κ×σ)(nf:κ->Int)(i:κ->List T)(step:κ->Prop->Int->T->σ->Fr σ)(ca:κ->σ->Eo.X)(x:L.X):Fr (Rd L.X Eo.X R.X):=
 Fr.need (InK (nf (un x).2.1) (un x).1 (i (un x).2.1).length) (Fr.need (bM (step (un x).2.1 True) (un x).1 ((i (un x).2.1).drop (un x).1.toNat) (un x).2.2)
  (Fr.val (Rd.out (ca (un x).2.1 (bO (step (un x).2.1 True) (un x).1 ((i (un x).2.1).drop (un x).1.toNat) (un x).2.2)))))
def cN {C:Cx} (hC:CxOK P C) {Λ:Nat->St->Option Tr} (mk:Int->κ->σ->L.X) {un:L.X->Int×κ×σ} {nf:κ->Int} {j:κ->List T} (N:T) {step:κ->Prop->Int->T->σ->Fr σ} {ca:κ->σ->Eo.X}
  (hΛ:∀ E,bP P E Λ c 0:=by exact λ_=>aY _ 0)
  (hr:∀ i k s,nB P C 0 Λ c L ⟨n,id,L,Eo,R⟩ (mk i k s)=U (Fr.br (J (i<nf k)) ((step k (0<=i/\i<((j k).length:Int)) i ((j k).getD i.toNat N) s).mapR (λs=>Rd.next (mk (I6.wrap (i+1)) k s))) (Fr.val (Rd.out (ca k s)))):=by intro i k s;kernel_rfl)
  (hun:∀ x,mk (un x).1 (un x).2.1 (un x).2.2=x:=by intro _;rfl) (S:∀ i k s,un (mk i k s)=(i,k,s):=by intro _ _ _;rfl)
  (hM:L.low=true:=by rfl) (hE:Eo.low=true:=by rfl) (hR:R.low=true:=by rfl) :
  ae P (.loop c) L ⟨n,id,L,Eo,R⟩ (FG un nf j step ca):=by
 have hs:ae P c L ⟨n,id,L,Eo,R⟩ (λx=>Fr.br (J ((un x).1<nf (un x).2.1)) ((step (un x).2.1 (0<=(un x).1/\(un x).1<((j (un x).2.1).length:Int)) (un x).1 ((j (un x).2.1).getD (un x).1.toNat N) (un x).2.2).mapR (λs=>Rd.next (mk (I6.wrap ((un x).1+1)) (un x).2.1 s))) (Fr.val (Rd.out (ca (un x).2.1 (un x).2.2)))):=
  ae.of_run hC (bs:=0) (Λ:=Λ) hM hE hR hΛ λx=>by
   have h:=hr (un x).1 (un x).2.1 (un x).2.2
   rwa [hun]at h
 refine ae.loop (n:=n) (id:=id) hs (inv:=λx=>InK (nf (un x).2.1) (un x).1 (j (un x).2.1).length) (μ:=λx=>(((j (un x).2.1).length:Int)-(un x).1).toNat) ?_ (λx Q hq=>hq.1);intro x H Q hq;obtain⟨_,q,m⟩:=hq;generalize hu:un x=u at *;obtain⟨i,k,s⟩:=u;dsimp only at H q m |-;have W:=H.n;have O:=H.lo;have t:=H.big;refine⟨λhc=>?_,λhc=>?_⟩;have hi:i<((j k).length:Int):=by rw[<- W];exact ucw hc
 have F:i.toNat<(j k).length:=by omega
 have hb:(0<=i/\i<((j k).length:Int))=True:=eq_true ⟨O,hi⟩;have e1:(j k).drop i.toNat=(j k)[i.toNat]::(j k).drop (i.toNat+1):=ual F;have hd:(j k).getD i.toNat N=(j k)[i.toNat]:=by rw[uah,uaq F];rfl
 have hw:I6.wrap (i+1)=i+1:=IntWalk.i64_in _ (by omega);rw[e1]at q m;rw[hb,hd];generalize (j k)[i.toNat]=e at q m |-;refine su (nL q.1 ?_);show InK _ _ _/\_<_/\(FG un nf j step ca (mk (I6.wrap (i+1)) k (step k True i e s).get)).satP Q;rw[hw];unfold FG;rw[S];have w:InK (nf k) (i+1) (j k).length:=⟨W,by omega,by omega,t⟩;have hnt:(i+1).toNat=i.toNat+1:=by omega
 refine⟨w,by dsimp only;omega,w,?_⟩;dsimp only;rw[hnt];exact⟨q.2,m⟩;have hi:¬ i<((j k).length:Int):=by rw[<- W];exact ucg hc
 have F:(j k).drop i.toNat=[]:=ua2 (by omega);rw[F]at m;exact m
end
structure Ht where
 pt:TypeId
 bt:TypeId
 e:TypeId
 T:Ty
 ps:List PT
 rs:List Ty
 f:List T.den->ag ps->List T.den×aa rs
 ok:List T.den->ag ps->List Prop
section
variable {P:Program} {w w':World} {E:Env} {F F':Nat->Prop} {γ γ':Nat->Value}
def Nv(w:World)(j:Ht)(b:Nat)(s:Value)(y:List j.T.den×aa j.rs)(e:Ending)(w':World):Prop:=
 ∃ u m i,e=.returned u/\w'.os=w.os/\w'.tape=w.tape/\w'.output=w.output/\w.heap.size<=w'.heap.size/\(∀ k,k<w.heap.size->k≠b->s.ownBlock≠U k->w'.heap[k]?= w.heap[k]?) /\
  w'.heap[b]?= U (.cells #[m] j.bt (0,0))/\w'.ownsRow 0 j.e j.T.size m y.1.length i/\(∀ g,m.ownBlock=U g->(s.ownBlock=U g\/w.heap.size<=g)/\g≠b) /\
  bU w' (λ_=>False) j.T y.1 i/\(∀ u∈i,u.oneCell'=Z)/\m.oneCell'=Z/\gT w' (λ_=>False) j.rs y.2 u
structure SoundHt (P:Program) (f:FuncId) (ht:Ht):Prop where
 lt:ht.e<cj
 flat:ht.T.flat=true
 flats:ht.rs.all Ty.flat=true
 enters:∀ args w,(callFunc f args).run P w=.ok (.enter f args) w
 calls:∀ (w:World) (F:Nat->Prop) (l:List ht.T.den) (xs:ag ht.ps) (b:Nat) (s:Value) (vs rows:List Value),(∀ b,F b->b<w.heap.size)->w.heap[b]?= some (.cells #[s] ht.bt (0,0))->¬ F b ->
  w.ownsRow 0 ht.e ht.T.size s l.length rows->(∀ g,s.ownBlock=some g->¬ F g/\g≠b)->bU w F ht.T l rows->(∀ u∈rows,u.oneCell'=true)->cJ P w F ht.ps xs vs->av (ht.ok l xs) ->
  Calls P f (.iface ht.pt (.pointer (some ⟨b,0,none⟩))::vs).toArray w (Nv w ht b s (ht.f l xs))
def ue(Γ:Gm)(f:FuncId)(i:Ht)(d:Nat)(g:FuncId)(args:List AV)(s:St):Option Tr:=
 if g=f then match args with
  |.c (.ifp pt id)::rest=>match dK s.mem rest with
   |some (xs,u)=>match ax s.mem u id with
    |some (.box bt [.own r])=>match ax s.mem u r,ax s.mem u d with
     |some (.arr e t l),V=>if h:t=i.T then if e=i.e/\pt=i.pt/\bt=i.bt then match jf Γ i.ps xs with
       |some (x,n)=>U (needL (n++i.ok (cA h l) x) (.leaf (.val (jg i.rs (i.f (cA h l) x).2)) ⟨s.n,s.sl,ax (ax s.mem u) [(r,.gone),(d,.arr i.e i.T (i.f (cA h l) x).1),(id,.box i.bt [.own d])],s.gs⟩))
       |none=>V
      else V else V
     |_,_=>V
    |_=>V
   |none=>V
  |_=>V
 else V
def Ch{Γ:Gm}(hΓ:kN P Γ){m:Ht}(h:SoundHt P f m):gQ P (ue Γ f m):=by
 intro d g args s t q;unfold ue at q;split at q<;>try trivial
 rename_i hg;subst hg;split at q<;>try trivial
 rename_i pt id rest;split at q<;>try trivial
 rename_i xs u hrs;split at q<;>try trivial
 rename_i bt r C;split at q<;>try trivial
 rename_i e ty l hr hd;split at q<;>try trivial
 rename_i hty;split at q<;>try trivial
 rename_i hc;obtain⟨rfl,rfl,rfl⟩:=hc;split at q<;>try trivial
 rename_i x n hdec;cases q;subst hty;refine⟨h.enters,λE a w F γ vs Q hi O hq=>?_⟩;obtain⟨hn,hqv⟩:=jm _ hq;obtain⟨hn1,hn2⟩:=jd.1 hn;cases vs with
 |nil=>exact O.elim
 |cons v vs=>
  obtain⟨⟨_,b0,hv1,rfl⟩,O⟩:=O;obtain⟨F1,s1,m1,_,r1⟩:=iy hi.mem (dv hi) (cX.of λ_ _ h=>h) hrs O;have hps:=mK hΓ hdec hn1 r1;generalize hM:ax s.mem u=M at *;obtain⟨b,arr,k1,k2,k3,k4,k5,k6⟩:=m1.ob id _ C;have hb0:b0=b:=by
   have h2:ap M γ id (.pointer (U ⟨b0,0,V⟩)):=s1.hR id _ hv1;unfold ap at h2;rw[C]at h2;have h3:Value.pointer (U ⟨b0,0,V⟩)=γ id:=h2;rw[k1]at h3;cases h3;rfl
  subst hb0;obtain⟨⟨sv,z1,z2,z3⟩,_⟩:=k6;have hsv:sv=γ r:=ez hr (by simp) z3;subst hsv;have du:arr = #[γ r]:=by
   refine uch λj=>?_;cases j with
   |zero=>simpa using z1
   |succ j=>
    have:arr.size=1:=k5;rw[ua1 (by omega),ua1 (by simp)]
  subst du;obtain⟨rows,o1,o2,o3,o4⟩:=gg.of (m1.ob r _ hr) h.lt;have hrid:r≠id:=by rintro rfl;rw[hr]at C;cases C
  have H:d≠id:=by rintro rfl;rw[hd]at C;cases C
  have hdr:d≠r:=by rintro rfl;rw[hd]at hr;cases hr
  have hgb:∀ g,(γ r).ownBlock=U g->g≠b0:=λg hg he=>m1.apart r id _ _ g hrid hr C (.inl hg) ⟨_,k1,he.symm⟩;have hblk:∀ g,(γ r).ownBlock=U g->E.B<=g/\g<w.heap.size:=λg hg=>o1.lt g hg;have hc:=h.calls w F1 l x b0 (γ r) vs rows s1.bd k2 k3 (rD o1 (λ_ _=>ufc _)) (λg hg=>⟨o2 g hg,hgb g hg⟩) o3 o4 hps hn2;refine hc.mono λen w2 hp=>?_;obtain⟨u2,s',rows2,rfl,p1,p2,p3,p4,p5,p6,p7,p8,p9,p10,p11,p12⟩:=hp;have hBs:=nM hi;have hM':∀ j,ax M [(r,Ob.gone),(d,.arr m.e m.T (m.f l x).1),(id,.box m.bt [.own d])] j=if j=id then U (.box m.bt [.own d])else if j=d then U (.arr m.e m.T (m.f l x).1)else if j=r then U .gone else M j:=λj=>by
   simp only[ax,upd]
  have N:∀ k,k<w.heap.size->k≠b0->(γ r).ownBlock≠U k->w2.heap[k]?= w.heap[k]? := p5;have hFk:∀ k,F1 k->w2.heap[k]?= w.heap[k]? := λk q=>N k (s1.bd k q) (λe=>k3 (e ▸ q)) (λe=>o2 k e q);have hR:∀ i v',ap M γ i v'->ap (ax M [(r,Ob.gone),(d,.arr m.e m.T (m.f l x).1),(id,.box m.bt [.own d])]) (cU γ d s') i v':=λi v' W=>by
   unfold ap at W |-;rw[hM'];by_cases h1:i=id;subst h1;rw[C]at W;rw[if_pos rfl,eC _ _ H.symm];exact W;rw[if_neg h1];by_cases h2:i=d;subst h2;rw[hd]at W;exact W.elim;rw[if_neg h2];by_cases h3:i=r;rw[if_pos h3];trivial;rw[if_neg h3,eC _ _ h2];exact W
  have hat:∀ i o,(i=id\/i=d\/i=r)->ax M [(r,Ob.gone),(d,.arr m.e m.T (m.f l x).1),(id,.box m.bt [.own d])] i=U o->(i=id/\o=.box m.bt [.own d])\/(i=d/\o=.arr m.e m.T (m.f l x).1)\/o=.gone:=λi o hs ho=>by
   rw[hM']at ho;by_cases h1:i=id;rw[if_pos h1]at ho;exact .inl ⟨h1,(ud0 ho).symm⟩;rw[if_neg h1]at ho;by_cases h2:i=d;rw[if_pos h2]at ho;exact .inr (.inl ⟨h2,(ud0 ho).symm⟩);rw[if_neg h2,if_pos ((hs.resolve_left h1).resolve_left h2)]at ho;exact .inr (.inr (ud0 ho).symm)
  have hnm:=nq p7;have hB2:∀ g,s'.ownBlock=U g->E.B<=g:=λg hg=>(p8 g hg).1.elim (λh=>(hblk g h).1) (λh=>by omega);have hF2:∀ g,s'.ownBlock=U g->¬ F1 g:=λg hg hF=>(p8 g hg).1.elim (λh=>o2 g h hF) (λh=>by have:=s1.bd g hF;omega);have s2:Step E.B w F1 γ M w2 F1 (cU γ d s') (ax M [(r,Ob.gone),(d,.arr m.e m.T (m.f l x).1),(id,.box m.bt [.own d])]):=
   ⟨λ_ h=>h,hFk,hR,λk q=>N k (by omega) (λe=>by omega) (λe=>by have:=(hblk k e).1;omega),p1,p2,p3,p4,λk q=>uca (s1.bd k q) p4,λ_ h=>.inl h⟩
  have m2:MemOK P E.B w2 F1 (cU γ d s') (ax M [(r,Ob.gone),(d,.arr m.e m.T (m.f l x).1),(id,.box m.bt [.own d])]):=by
   refine m1.re (λi=>i=id\/i=d\/i=r) (λi hi=>?_) (λi hi=>eC _ _ (λe=>hi (.inr (.inl e)))) hFk hR (λk q hno=>N k q (λe=>hno id _ (.inl rfl) C ⟨_,k1,e.symm⟩) (λe=>hno r _ (.inr (.inr rfl)) hr (.inl e))) ?_ ?_ ?_;rw[hM',if_neg (λe=>hi (.inl e)),if_neg (λe=>hi (.inr (.inl e))),if_neg (λe=>hi (.inr (.inr e)))];intro i o hs ho;rcases hat i o hs ho with ⟨rfl,rfl⟩|⟨rfl,rfl⟩|rfl
   rw[eC _ _ H.symm];refine⟨b0,#[s'],k1,p6,k3,k4,rfl,⟨s',rfl,p11,?_⟩,uT⟩;simp only[bc];unfold ap;rw[hM',if_neg H,if_pos rfl,fy];rw[fy];exact .inl ⟨h.lt,rows2,rD p7 hB2,hF2,p9.flat h.flat,p10⟩;trivial;intro i o k hs ho q;rcases hat i o hs ho with ⟨rfl,rfl⟩|⟨rfl,rfl⟩|rfl
   rw[eC _ _ H.symm]at q;exact .inl ⟨i,_,.inl rfl,C,q⟩;rw[fy]at q;exact(p8 k ((lE h.lt hnm).1 q)).1.imp (λh=>⟨r,_,.inr (.inr rfl),hr,.inl h⟩) (λh=>h);exact q.elim;have key:∀ k,bK w2 (.arr m.e m.T (m.f l x).1) s' k->¬ bK w2 (.box m.bt [.own d]) (γ id) k:=λk q ⟨ad,q1,q2⟩=>by
    rw[k1]at q1;cases q1;exact(p8 k ((lE h.lt hnm).1 q)).2 q2.symm
   intro i j oi oj k hs hs' hij hoi hoj hki S;rcases hat i oi hs hoi with ⟨rfl,rfl⟩|⟨rfl,rfl⟩|rfl
   rw[eC _ _ H.symm]at hki;rcases hat j oj hs' hoj with ⟨rfl,rfl⟩|⟨rfl,rfl⟩|rfl
   exact hij rfl;rw[fy]at S;exact key k S hki;exact S;rw[fy]at hki;rcases hat j oj hs' hoj with ⟨rfl,rfl⟩|⟨rfl,rfl⟩|rfl
   rw[eC _ _ H.symm]at S;exact key k hki S;exact hij rfl;exact S;exact hki
  have s3:=s1.trans s2;have hinv:InvG P E ⟨s.n,s.sl,ax M [(r,Ob.gone),(d,.arr m.e m.T (m.f l x).1),(id,.box m.bt [.own d])],s.gs⟩ a w2 [] F1 (cU γ d s'):=by
   refine⟨hi.n,hi.df,?_,m2,λt=>(hi.sl t).mono s3.hF s3.hw s3.hR,hi.hg,λt=>s3.repA (hi.gh t)⟩;obtain⟨γ0,h0⟩:=hi.step;exact⟨γ0,h0.trans s3⟩
  exact⟨.val (jg m.rs (m.f l x).2),_,F1,_,hqv,hinv,u2,rfl,tN (p12.flat h.flats)⟩
def sk(n:Nat)(pt bt e:TypeId)(T:Ty)(l:List T.den)(args:List AV):St:=
 ⟨n,λi=>(AV.c (.ifp pt (9999))::args).getD i .dead,λi=>if i=9999 then U (.box bt [.own (ba 0)])else if i=ba 0 then U (.arr e T l)else V,λi=>if i=0 then .c (.ptr (9999) 0)else .dead⟩
def qQ(P:Program)(q:List ResultVar)(bt e:TypeId)(T:Ty)(rs:List Ty)(s:St):Option (Fr (List T.den×aa rs)):=
 match s.gs 0 with
 |.c (.ptr i 0)=>match s.mem i with
  |some (.box j [.own k])=>match s.mem k with
   |some (.arr m t l)=>if h:t=T then if m=e/\j=bt then match gv P s q with
     |some (vs,n)=>match g9 rs vs with
      |some y=>U (Fr.needL n (.val (cA h l,y)))
      |none=>V
     |none=>V
    else V else V
   |_=>V
  |_=>V
 |_=>V
def iJ(P:Program)(i:List ResultVar)(bt e:TypeId)(T:Ty)(rs:List Ty):Tr->Option (Fr (List T.den×aa rs))
 |.leaf .ret s=>qQ P i bt e T rs s
 |.leaf .normal s=>qQ P i bt e T rs s
 |.leaf _ _=>V
 |.br b x y=>match iJ P i bt e T rs x,iJ P i bt e T rs y with
  |some j,U m=>U (.br b j m)
  |_,_=>V
 |.need p x=>match iJ P i bt e T rs x with
  |some j=>U (.need p j)
  |none=>V
 |.two p x y=>match iJ P i bt e T rs x,iJ P i bt e T rs y with
  |some j,U m=>U (.need (p->j.ok/\j.get=m.get) m)
  |_,_=>V
def tY{q:List ResultVar}{bt:TypeId}{T:Ty}{rs:List Ty}:{t:Tr} -> {f:Fr (List T.den×aa rs)}->iJ P q bt e T rs t=U f->f.ok->t.sat λx s=>(x=.ret\/x=.normal)/\∃ n,qQ P q bt e T rs s=U (Fr.needL n (.val f.get))/\av n
 |.leaf x s,f,h,j=>by
  have key:qQ P q bt e T rs s=U f->∃ n,qQ P q bt e T rs s=U (Fr.needL n (.val f.get))/\av n:=λh=>by
   have h0:=h;unfold qQ at h;split at h<;>try trivial
   split at h<;>try trivial
   split at h<;>try trivial
   split at h<;>try trivial
   split at h<;>try trivial
   split at h<;>try trivial
   split at h<;>try trivial
   cases h;refine⟨_,?_,(uM _ j).1⟩;rw[uK];exact h0
  cases x with
  |exit i=>simp[iJ]at h
  |panic i=>simp[iJ]at h
  |val i=>simp[iJ]at h
  |jump i=>simp[iJ]at h
  |normal=>exact⟨.inr rfl,key h⟩
  |ret=>exact⟨.inl rfl,key h⟩
 |.br b x y,f,h,j=>by
  simp only[iJ]at h;split at h<;>try trivial
  rename_i C H m u;cases h;refine⟨λhb=>?_,λhb=>?_⟩;have:=tY m (j.1 hb);simpa only[Fr.get,hb,if_true]using this;have:=tY u (j.2 hb);simpa only[Fr.get,hb,ub2,ufn]using this
 |.need p x,f,h,j=>by
  simp only[iJ]at h;split at h<;>try trivial
  rename_i C m;cases h;have:=tY m j.2;exact⟨j.1,this⟩
 |.two p x y,f,h,j=>by
  simp only[iJ]at h;split at h<;>try trivial
  rename_i C H m u;cases h;have F:=tY u j.2;refine⟨λw=>?_,F⟩;have:=tY m (j.1 w).1
  rwa [(j.1 w).2]at this
def KD(P:Program)(C:Cx)(Λ:Nat->St->Option Tr)(fn:Func)(pt bt e:TypeId)(T:Ty)(ps:List PT)(rs:List Ty)(l:List T.den)(xs:ag ps):Option (Fr (List T.den×aa rs)):=
 match fn.body with
 |some c=>if (fn.name == "runtime.NumGoroutine")=Y/\ps.length+1<=fn.ntmps then match cr P C 0 Λ c 0 (sk fn.ntmps pt bt e T l (eI ps xs))with
   |some t=>iJ P fn.results.toList bt e T rs t
   |none=>V
  else V
 |none=>V
def Ci{C:Cx}(hC:CxOK P C){Λ:Nat->St->Option Tr}{fn:Func}{pt bt:TypeId}{T:Ty}{ps:List PT}{rs:List Ty}{fr:List T.den->ag ps->Fr (List T.den×aa rs)}(x0:ag ps)(hf:P.funcs[f]?= U fn)(hΛ:∀ c E,fn.body=U c->bP P E Λ c 0)(hrun:∀ l xs,KD P C Λ fn pt bt e T ps rs l xs=U (fr l xs))(hT:T.flat=true:=by rfl)(hTs:rs.all Ty.flat=true:=by rfl)(q:e<cj:=by decide):
  SoundHt P f ⟨pt,bt,e,T,ps,rs,λl xs=>(fr l xs).get,λl xs=>[(fr l xs).ok]⟩:=by
 have h0:=hrun [] x0;unfold KD at h0;split at h0<;>try trivial
 rename_i c hb;split at h0<;>try trivial
 rename_i hc;refine⟨q,hT,hTs,enters hf hb hc.1,λw F l xs b s vs rows hbd hbox hbF hown hnF hrows hcell hr hok=>ufa hf hb ?_⟩;have hr':=hrun l xs;unfold KD at hr';simp only[hb,hc,ufm,if_true]at hr';split at hr'<;>try trivial
 rename_i t ht;have hlen:vs.length=ps.length:=rV hr;have hone:=kT hown;have hblt:b<w.heap.size:=(uaf.1 hbox).1;have hFb:∀ k,F k->(k<w.heap.size/\k≠b/\s.ownBlock≠U k):=λk S=>⟨hbd k S,λh=>hbF (h ▸ S),λh=>(hnF k h).1 S⟩;have hps:cJ P w (λk=>k<w.heap.size/\k≠b/\s.ownBlock≠U k) ps xs vs:=cJ.mono hFb (λ_ _=>rfl) hr;have O:∀ R:Nat->Value->Prop,R (9999) (.pointer (U ⟨b,0,V⟩))->bj P w (λk=>k<w.heap.size/\k≠b/\s.ownBlock≠U k) R (AV.c (.ifp pt (9999))::eI ps xs) (.iface pt (.pointer (U ⟨b,0,V⟩))::vs):=λR hR=>⟨⟨rfl,b,hR,rfl⟩,mO hps⟩;have Q:9999≠ba 0:=by unfold ba;omega
 have hstart:I P ⟨w,λk=>k<w.heap.size/\k≠b/\s.ownBlock≠U k,λ_=>.pointer (U ⟨b,0,V⟩),[],0,ufc _⟩ (sk fn.ntmps pt bt e T l (eI ps xs)) { tmps:=(Value.iface pt (.pointer (U ⟨b,0,V⟩))::vs).toArray++Array.replicate (fn.ntmps-(Value.iface pt (.pointer (U ⟨b,0,V⟩))::vs).length) undef,defers:=[] } w:=by
  have hm1:(sk fn.ntmps pt bt e T l (eI ps xs)).mem (9999)=U (.box bt [.own (ba 0)]):=by
   simp only[sk,if_true]
  have hm0:(sk fn.ntmps pt bt e T l (eI ps xs)).mem (ba 0)=U (.arr e T l):=by
   simp only[sk,if_true,if_neg Q.symm]
  have hat:∀ i o,(sk fn.ntmps pt bt e T l (eI ps xs)).mem i=U o->(i=9999/\o=.box bt [.own (ba 0)])\/(i=ba 0/\o=.arr e T l):=λi o ho=>by
   have ho':(if i=9999 then U (Ob.box bt [.own (ba 0)])else if i=ba 0 then U (.arr e T l)else V)=U o:=ho;split at ho';rename_i N;cases ho';exact .inl ⟨N,rfl⟩;split at ho';rename_i N;cases ho';exact .inr ⟨N,rfl⟩;cases ho'
  have hnm:=nq hown;refine⟨_,λi=>if i=9999 then .pointer (U ⟨b,0,V⟩)else s,?_,rfl,⟨λ_=>undef,⟨λ_ h=>h,λ_ _=>rfl,λ_ _ h=>h.elim,λk S=>absurd S (Nat.not_lt_zero k),rfl,rfl,rfl,ue6 _,λk S=>S.1,λk S=>.inl S⟩⟩,⟨λid o ho=>?_,λi j oi oj k hij hi hj W hkj=>?_⟩,λt=>?_,λt g want v ht=>?_,λt=>?_⟩;show _=fn.ntmps;simp only[uco,ucp,Array.size_replicate,uc7];omega;rcases hat id o ho with ⟨rfl,rfl⟩|⟨rfl,rfl⟩
  refine⟨b,#[s],if_pos rfl,hbox,λh=>h.2.1 rfl,ufc _,rfl,⟨s,rfl,hone,?_⟩,uT⟩;simp only[bc];unfold ap;rw[hm0];exact(if_neg Q.symm).symm;refine .inl ⟨q,rows,?_,λg hg h=>?_,hrows.flat hT,hcell⟩;show w.ownsRow 0 e T.size (if ba 0=9999 then _ else s) _ _;rw[if_neg Q.symm];exact hown;have hg':(if ba 0=9999 then Value.pointer (U ⟨b,0,V⟩)else s).ownBlock=U g:=hg;rw[if_neg Q.symm]at hg';exact h.2.2 hg';have key:bK w (.box bt [.own (ba 0)]) (if 9999=9999 then .pointer (U ⟨b,0,V⟩)else s) k->¬ bK w (.arr e T l) (if ba 0=9999 then .pointer (U ⟨b,0,V⟩)else s) k:=by
   rw[if_pos rfl,if_neg Q.symm];rintro⟨a,N,h2⟩ h3;cases N;exact(hnF k ((lE q hnm).1 h3)).2 h2.symm
  rcases hat i oi hi with ⟨rfl,rfl⟩|⟨rfl,rfl⟩
  rcases hat j oj hj with ⟨rfl,rfl⟩|⟨rfl,rfl⟩
  exact hij rfl;exact key W hkj;rcases hat j oj hj with ⟨rfl,rfl⟩|⟨rfl,rfl⟩
  exact key hkj W;exact hij rfl;have hg:((Value.iface pt (.pointer (U ⟨b,0,V⟩))::vs).toArray++Array.replicate (fn.ntmps-(Value.iface pt (.pointer (U ⟨b,0,V⟩))::vs).length) undef).getD t undef=(Value.iface pt (.pointer (U ⟨b,0,V⟩))::vs).getD t undef:=by
   simp only[uac,uah];rcases uem t (Value.iface pt (.pointer (U ⟨b,0,V⟩))::vs).length with q|hge
   rw[uai (by simpa using q)];simp;rw[uad (by simpa using hge),ua4 hge];simp only[uas];split<;>rfl
  show dP P w _ _ _ ((AV.c (.ifp pt (9999))::eI ps xs).getD t .dead) (((Value.iface pt (.pointer (U ⟨b,0,V⟩))::vs).toArray++Array.replicate (fn.ntmps-(Value.iface pt (.pointer (U ⟨b,0,V⟩))::vs).length) undef).getD t undef);rw[hg];refine vG (ny (O _ ?_) t);unfold ap;rw[hm1];exact(if_pos rfl).symm;exfalso;have:=ny (O (λ_ _=>True) trivial) t;have ht':(AV.c (.ifp pt (9999))::eI ps xs).getD t .dead=.maybe g want v:=ht;rw[ht']at this;exact this;show aE P w _ _ (if t=0 then .c (.ptr (9999) 0)else .dead) _;split;refine⟨rfl,b,?_,rfl⟩;unfold ap;rw[hm1];exact(if_pos rfl).symm;trivial
 have hwp:=fR hC c 0 (hΛ c _ hb) ht (tY hr' hok) hstart;have hsz:((Value.iface pt (.pointer (U ⟨b,0,V⟩))::vs).toArray).size=(Value.iface pt (.pointer (U ⟨b,0,V⟩))::vs).length:=by simp
 rw[hsz];refine wp_mono hwp ?_;rintro ex a' w' ⟨xe,st,rfl,⟨F',γ',hi⟩,hxe,n,m,hnn⟩;have hfin:a'.defers=[]/\∃ u,(results fn a'.tmps).run P w'=.ok u w'/\Nv w ⟨pt,bt,e,T,ps,rs,λl xs=>(fr l xs).get,λl xs=>[(fr l xs).ok]⟩ b s (fr l xs).get (.returned u) w':=by
  unfold qQ at m;split at m<;>try trivial
  rename_i i hgs;split at m<;>try trivial
  rename_i bt' k H;split at m<;>try trivial
  rename_i e' t' l' hmk;split at m<;>try trivial
  rename_i hty;split at m<;>try trivial
  rename_i hee;split at m<;>try trivial
  rename_i vs' n' hres;split at m<;>try trivial
  rename_i y hdec;injection m with m
  obtain⟨hn',hy⟩:=uL m hnn;subst hty;obtain⟨rfl,rfl⟩:=hee;obtain⟨us,hran,hreps⟩:=nz hi hres hn';obtain⟨γ0,N⟩:=hi.step;obtain⟨b2,arr,g1,g2,g3,g4,g5,g6⟩:=hi.mem.ob i _ H;have hb2:b2=b:=by
   have h2:=hi.gh 0;rw[hgs]at h2;obtain⟨_,b3,h3,h4⟩:=h2;have h5:Value.pointer (U ⟨b3,0,V⟩)=γ' i:=by simpa[ap,H]using h3
   have h4':Value.pointer (U ⟨b,0,V⟩)=.pointer (U ⟨b3,0,V⟩):=h4;cases h4';rw[g1]at h5;cases h5;rfl
  subst hb2;obtain⟨⟨sv,z1,z2,z3⟩,_⟩:=g6;have hsv:sv=γ' k:=ez hmk (by simp) z3;subst hsv;have du:arr = #[γ' k]:=by
   refine uch λj=>?_;cases j with
   |zero=>simpa using z1
   |succ j=>
    have:arr.size=1:=g5;rw[ua1 (by omega),ua1 (by simp)]
  subst du;obtain⟨rows2,q1,q2,q3,q4⟩:=gg.of (hi.mem.ob k _ hmk) q;have W:k≠i:=by rintro rfl;rw[hmk]at H;cases H
  refine⟨hi.df,_,pz hran,_,γ' k,rows2,rfl,N.os,N.tape,N.output,N.size,λk S hne hno=>N.hw k ⟨S,hne,hno⟩,g2,?_,λg hg=>⟨?_,λhe=>hi.mem.apart k i _ _ g W hmk H (.inl hg) ⟨_,g1,he.symm⟩⟩,?_,q4,z2,?_⟩;rw[<- hy];exact rD q1 (λ_ _=>ufc _);rcases uem g w.heap.size with hgl|hgl
  by_cases hso:s.ownBlock=U g;exact .inl hso;exfalso;by_cases hgb:g=b2;exact hi.mem.apart k i _ _ g W hmk H (.inl hg) ⟨_,g1,hgb.symm⟩;exact q2 g hg (N.hF g ⟨hgl,hgb,hso⟩);exact .inr hgl;rw[<- hy];exact q3.flat hT;rw[<- hy];exact(vH (lC hdec hreps)).flat hTs
 rcases hxe with rfl|rfl
 exact hfin;exact hfin
def Bf{i:Ht}(h:SoundHt P f i)(g:List i.T.den->ag i.ps->List i.T.den×aa i.rs)(ok:List i.T.den->ag i.ps->List Prop)(hg:∀ w F l xs vs,cJ P w F i.ps xs vs->l.length<=maxLen->(∀ x∈l,Wf i.T x)->av (ok l xs)->av (i.ok l xs)/\i.f l xs=g l xs):SoundHt P f ⟨i.pt,i.bt,i.e,i.T,i.ps,i.rs,g,ok⟩:=by
 refine⟨h.lt,h.flat,h.flats,h.enters,λw F l xs b s vs m hb O N u hc t Q j q=>?_⟩;obtain⟨C,H⟩:=hg w F l xs vs j (TP u) (UH t) q;have:=h.calls w F l xs b s vs m hb O N u hc t Q j C;rw[H]at this;exact this
end
end Go.Ab
