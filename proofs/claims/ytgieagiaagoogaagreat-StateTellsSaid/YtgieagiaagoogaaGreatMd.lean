/-
  Parts of the proof, one behind the other: AbG, B1, B2, B3, B4, B5, D1, D2, D3, D4, D5, C1, C4, C5, C2, C3, D6, D7, D8, E1, E2, H1, I1.
-/
import Derived.Test.YtgieagiaagoogaaGreatMc
import Derived.RangeFuncNested
import Derived.Lib.Overlaps
import Derived.Lib.AppendZerosOnto
import Derived.Laws.NewBlocks
import Derived.Test.YtgieagiaagoogaaGreatProg
import Derived.WalkKit
import Derived.IntWalk
import Derived.RangeFuncBound
import Derived.RangeFuncCalls
import Derived.RangeFuncLeaves
import Derived.Shelf.Abstract
import Derived.Shelf.RegionOpen
import Derived.OwnWalkIn
import Derived.TacticsInMore
import Derived.LoopNIn
import Derived.LoopIn
import Derived.Lib.Hide
import Derived.Tactics2
import Derived.Laws.Pointers
set_option linter.all false
namespace Go.Ab
open Go Go.RowKit
def quh (pc:Pc):Ct:=⟨pc.ps,pc.rs,pc.f,λx=>(pc.bad x=false)::pc.ok x⟩
def gP (C:Cx) (f:FuncId):Option Ct:=match C.Γ f with
 |some ct=>some ct
 |none=>(C.Pi f).map quh
structure Pan where
 bad:Bool
 pv:PV
 good:List Prop
def kY (C:Cx) (o:Oper) (sl:Nat->AV):Option Pan:=
 match o.guard,o.op,o.op.operands.toList.map (gN sl) with
 |none,.call ⟨.value _,_,_⟩,.c (.fn f caps)::args=>match C.Pi f with
  |some pc=>match eF (λ_=>none) (args++caps.map .c) with
   |some (xs,[])=>match lD C.Γ pc.ps xs with
    |some (x,n)=>some ⟨pc.bad x,pc.pv x,n++pc.ok x⟩
    |none=>none
   |_=>none
  |none=>none
 |_,_,_=>none
def my (P:Program) (C:Cx) (b:Nat) (ops:List Oper):List Oper->St->Option (List (Ef×Option Pan)×St)
 |[],s=>some ([],s)
 |o::r,s=>match eW P (gP C) b ops o s.sl s.mem with
  |some e=>match my P C b ops r (e.go s) with
   |some (es,s')=>some ((e,kY C o s.sl)::es,s')
   |none=>none
  |none=>none
def JC (pv:PV):Ef×Option Pan->List Prop
 |(e,none)=>e.need
 |(e,some p)=>[p.bad=false->aE e.need,p.bad=true->aE p.good/\p.pv=pv]
def LQ (d:St) (all:List (Ef×Option Pan)) (good:Tr):List Pan->Tr
 |[]=>good
 |p::r=>.br p.bad (needL (all.flatMap (JC p.pv)) (.leaf (.panic p.pv) d)) (LQ d all good r)
def Fu (ops:List Oper) (es:List (Ef×Option Pan)):Bool:=
 let ms:=gr [] ops
 (List.range es.length).all λk=>match es[k]?,ms[k]? with
  |some (f,_),some mask=>f.wr.isEmpty || (List.range es.length).all λi=>match es[i]? with
   |some (_,some _)=>mask.testBit i
   |_=>true
  |_,_=>false
def vK (ops:List Oper) (es:List (Ef×Option Pan)):List Tmp:=
 let ms:=gr [] ops
 (List.range es.length).filterMap λk=>match es[k]?,ms[k]? with
  |some (f,_),some mask=>if (List.range es.length).all (λi=>match es[i]? with
   |some (_,some _)=>mask.testBit i
   |_=>true) then none else f.dst
  |_,_=>none
def zW (D:List Tmp) (sl:Nat->AV) (t:Tmp):AV:=if D.contains t then .dead else jh sl t
def KS (P:Program) (C:Cx) (b:Nat) (ops:List Oper) (s:St):Option Tr:=
 if rb s.n 0 [] ops then match my P C b ops ops s with
  |some (es,s')=>if tf ops (es.map (·.1))=true/\Fu ops es=true then
    some (LQ ⟨s.n,zW (vK ops es) s.sl,s.mem,s.gs⟩ es (DV (es.map (·.1)) (.leaf .normal (iH s'))) (es.filterMap (·.2)))
   else none
  |none=>none
 else none
section
variable {P:Program} {w w':World} {E:Env} {F F':Nat->Prop} {b:Nat} {γ γ' γ0:Nat->Value} {ops:Array Oper} {es:List (Ef×Option Pan)} {C:Cx}
def qnl (hC:CxOK P C):∀ f ct,gP C f=some ct->aa P f ct:=by
 intro f ct h;unfold gP at h;split at h
 ·rename_i ct' hct;cases h;exact hC.ct.1 f _ hct
 ·cases hp:C.Pi f with
  |none=>rw[hp] at h; cases h
  |some pc=>
   rw[hp] at h;cases h;obtain⟨h1,h2⟩:=hC.pc f pc hp;refine⟨h1,λw F xs vs hb hr hok=>?_⟩;obtain⟨hbad,hok⟩:pc.bad xs=false/\aE (pc.ok xs):=jS.1 hok;refine(h2 w F xs vs hb hr hok).mono λe w' h=>?_;rcases h with h|h
   ·exact h.2
   ·rw[hbad] at h;cases h.1
def qxc {o:Oper} {sl sl':Nat->AV} (h:∀ t∈xM o.op,sl' t=sl t):kY C o sl'=kY C o sl:=by
 unfold kY;rw[Qh h]
def T4 {o:Oper} {sl:Nat->AV} (h:o.guard≠none):kY C o sl=none:=by
 unfold kY;split
 ·rename_i hg _ _;exact absurd hg h
 ·rfl
def qgz {Γ:Gm} {o:Oper} {opl:List Oper} {sl:Nat->AV} {m:aY} {e:Ef} (he:eW P Γ b opl o sl m=some e) (hg:o.guard=none):e.rd=xM o.op:=by
 unfold eW at he;rw[hg] at he;simp only at he;split at he<;>try trivial
 cases he;rfl
def T3 {Γ:Gm} {o:Oper} {opl:List Oper} {e f:Ef} {s:St} (hf:eW P Γ b opl o s.sl s.mem=some f) (hd:∀ t,e.dst=some t->t ∉ f.rd):kY C o (e.go s).sl=kY C o s.sl:=by
 cases hg:o.guard with
 |some g=>rw[T4 (by rw[hg]; simp),T4 (by rw[hg]; simp)]
 |none=>
  refine qxc λt ht=>?_;show fp s.sl e.dst e.v t=s.sl t;rw[<- qgz hf hg] at ht;cases hx:e.dst with
  |none=>rfl
  |some x=>
   have hne:t≠x:=λhtx=>hd x hx (htx ▸ ht);exact if_neg hne
def uL (P:Program) (C:Cx) (b:Nat) (ops:Array Oper) (es:List (Ef×Option Pan)) (s':St):List Nat->St->Prop
 |[],s=>s=s'
 |i::r,s=>∃ o e p,ops[i]? = some o/\es[i]? = some (e,p)/\eW P (gP C) b ops.toList o s.sl s.mem=some e/\kY C o s.sl=p/\uL P C b ops es s' r (e.go s)
def UA {s':St}:(l:List Oper)->(k:Nat)->(s:St)->(fs:List (Ef×Option Pan))->my P C b ops.toList l s=some (fs,s')->(∀ i o,l[i]? = some o->ops[k+i]? = some o) ->
  (∀ i e,fs[i]? = some e->es[k+i]? = some e)->uL P C b ops es s' (List.range' k l.length) s
 |[],k,s,fs,h,_,_=>by
  simp only[my,ucj,uee] at h;exact h.2
 |o::r,k,s,fs,h,ho,he=>by
  simp only[my] at h;split at h<;>try trivial
  rename_i e heff;split at h<;>try trivial
  rename_i es' s2 hr;cases h;refine⟨o,e,_,by simpa using ho 0 o rfl,by simpa using he 0 _ rfl,heff,rfl,?_⟩;refine UA r (k+1) _ es' hr (λi o' hi=>?_) (λi e' hi=>?_)
  ·have:=ho (i+1) o' (by simpa using hi)
   rwa [show k+1+i=k+(i+1) by omega]
  ·have:=he (i+1) e' (by simpa using hi)
   rwa [show k+1+i=k+(i+1) by omega]
def U7 {opl:List Oper}:(l:List Oper)->(s:St)->(fs:List (Ef×Option Pan))->(s':St)->my P C b opl l s=some (fs,s')->s'.n=s.n
 |[],s,fs,s',h=>by
  simp only[my,ucj,uee] at h;rw[h.2]
 |o::r,s,fs,s',h=>by
  simp only[my] at h;split at h<;>try trivial
  split at h<;>try trivial
  rename_i es' s2 hr;cases h;exact(U7 r _ es' _ hr).trans rfl
def U6 {opl:List Oper}:(l:List Oper)->(s:St)->(fs:List (Ef×Option Pan))->(s':St)->my P C b opl l s=some (fs,s')->fs.length=l.length
 |[],s,fs,s',h=>by
  simp only[my,ucj,uee] at h;rw[<- h.1];rfl
 |o::r,s,fs,s',h=>by
  simp only[my] at h;split at h<;>try trivial
  split at h<;>try trivial
  rename_i es' s2 hr;cases h;simp[U6 r _ es' _ hr]
def Ri {s':St} {j:Nat}:(rem:List Nat)->(s:St)->uL P C b ops es s' rem s->rem.Pairwise (· < ·)->j∈rem ->
  (∀ i∈rem,i<j->∀ e f,es[i]? = some e->es[j]? = some f->kb e.1 f.1=true) ->
  ∃ o f p,ops[j]? = some o/\es[j]? = some (f,p)/\eW P (gP C) b ops.toList o s.sl s.mem=some f/\kY C o s.sl=p/\uL P C b ops es s' (rem.erase j) (f.go s)
 |[],_,_,_,hj,_=>by simp at hj
 |i::r,s,hr,hp,hj,hi=>by
  obtain⟨o,e,p,ho,he,heff,hpan,hr'⟩:=hr;by_cases hij:i=j
  ·subst hij;refine⟨o,e,p,ho,he,heff,hpan,?_⟩;rw[ubi];exact hr'
  ·have hjr:j∈r:=by
    rcases ueg.1 hj with h|h
    ·exact absurd h.symm hij
    ·exact h
   have hlt:=(ub8.1 hp).1 j hjr;obtain⟨oj,f,pj,hoj,hfj,hf,hpj,hrr⟩:=Ri r (e.go s) hr' (ub8.1 hp).2 hjr (λk hk hkj=>hi k (ubg _ hk) hkj);have hind:=hi i (by simp) hlt _ _ he hfj;have hsp:=D8 hind;have hfs:=PM hind hf;refine⟨oj,f,pj,hoj,hfj,hfs,(T3 hfs (λt ht=>(hsp.1 t ht).1)).symm.trans hpj,?_⟩;rw[List.erase_cons_tail (by simpa using hij)];refine⟨o,e,p,ho,he,PN hind heff,(T3 heff (λt ht=>hsp.2.1 t ht)).trans hpan,?_⟩;rw[<- Rp hind];exact hrr
def qxd (hC:CxOK P C) {o:Oper} {st:St} {a:Act} {W:List Tmp} {p:Pan} (hi:InvG P E st a w W F γ) (h:kY C o st.sl=some p) (hb:p.bad=true) (hn:aE p.good) (K:Act->World->Prop) (Q:Exit->Act->World->Prop)
  (hq:∀ w',I P E (iH st) a w'->Q (.panic [{ v:=p.pv.val,recovered:=false }]) a w'):o.guard=none/\o.wp P a w K Q:=by
 unfold kY at h;split at h<;>try trivial
 rename_i f0 cargs ts f caps args hg ho hvs;refine⟨hg,?_⟩;split at h<;>try trivial
 rename_i pc hpc;split at h<;>try trivial
 rename_i xs hrs;split at h<;>try trivial
 rename_i x n hdec;cases h;obtain⟨hn1,hn2⟩:=lB.1 hn;have hev:=vS hi.sl o.op.operands.toList;rw[hvs] at hev;have hops:o.op.operands.toList.map a.eval=a.eval f0::(cargs.map a.eval).toList:=by simp[ho,Op.operands,Call.operands]
 rw[hops] at hev;obtain⟨⟨_,hfv⟩,hargs⟩:=hev;obtain⟨cv,e1,e2,e3⟩:=hfv;have hcaps:=O8 e2 e3;have hrun:(∀ args w,(callFunc f args).run P w = .ok (.enter f args) w)->(execOp a.eval o).run P w = .ok (.enter f (cargs.map a.eval++cv)) w:=λhen=>by
  unfold execOp;rw[ho];simp[resolve,e1,Deferred.ofValue,invoke,hen]
 have harr:((cargs.map a.eval).toList++cv.toList).toArray=cargs.map a.eval++cv:=by simp
 have hall:(args++caps.map AV.c).all iS=true:=by
  have:∀ (l:List AV),(∃ xs u',eF (λ_=>none) l=some (xs,u'))->l.all iS=true:=by
   intro l
   induction l with
   |nil=>intros; rfl
   |cons y l ih=>
    rintro⟨xs,u',hx⟩;simp only[eF] at hx;split at hx<;>try trivial
    rename_i h1 h2;simp only[ueh,uc9];refine⟨?_,ih ⟨_,_,h2⟩⟩;cases y<;>first|rfl|(simp[qQ] at h1)
  exact this _ ⟨_,_,hrs⟩
 have hargs':bC P w F (aA st.mem γ) (args++caps.map AV.c) ((cargs.map a.eval).toList++cv.toList):=by
  refine EB (EA hargs ?_) hcaps;rw[udl,uc9] at hall;exact hall.1
 obtain⟨F1,s1,m1,_,r1⟩:=ko hi.mem (eo hi) (g6 λ_ _ h=>by cases h) hrs hargs';have hps:=sy hC.ct hdec hn1 r1;obtain⟨hen,hcalls⟩:=hC.pc f pc hpc;have hc:=hcalls w F1 x _ s1.bd hps hn2;unfold Oper.wp;rw[hrun hen];rw[harr] at hc;have hb':pc.bad x=true:=hb;refine hc.mono λe w2 hp=>?_;rcases hp with ⟨hbad,_⟩|⟨hbad,rfl,hbel⟩
 ·rw[hb'] at hbad;cases hbad
 ·refine hq w2 ⟨F1,γ,?_⟩;obtain⟨s2,m2⟩:=Step.below m1 (rL hi) s1.bd hbel (λ_ h=>h) (λb hb=>⟨.inl hb,ub9 (s1.bd b hb) hbel.size⟩);have s3:=s1.trans s2;obtain⟨γ0,h0⟩:=hi.step;exact qC ⟨hi.n,hi.df,⟨γ0,h0.trans s3⟩,m2,λt=>(hi.sl t).mono s3.hF s3.hw s3.hR,hi.hg,λt=>s3.repA (hi.gh t)⟩
def qo5 {st:St} {a:Act} {D:List Tmp} {s0:St} (h:InvG P E (iH st) a w [] F γ) (hs:∀ t,t ∉ D->st.sl t=s0.sl t):InvG P E ⟨st.n,zW D s0.sl,st.mem,st.gs⟩ a w [] F γ:=by
 refine⟨h.n,h.df,h.step,h.mem,λt=>?_,λt g want v ht=>?_,h.gh⟩
 ·show eL P w F _ _ (if D.contains t then AV.dead else jh s0.sl t) _;split
  ·trivial
  ·rename_i hd;have hd':=λhm=>hd (by simpa using hm);have e:jh s0.sl t=jh st.sl t:=by
    unfold jh;rw[hs t hd']
   rw[e];exact h.sl t
 ·have ht':(if D.contains t then AV.dead else jh s0.sl t) = .maybe g want v:=ht;split at ht'
  ·cases ht'
  ·rename_i hd;have hd':=λhm=>hd (by simpa using hm);have e:jh s0.sl t=jh st.sl t:=by
    unfold jh;rw[hs t hd']
   rw[e] at ht';exact h.hg t g want v ht'
def B9 (pv:PV) (x:Ef×Option Pan):Prop:=match x.2 with
 |none=>aE x.1.need
 |some p=>(p.bad=false->aE x.1.need)/\(p.bad=true->aE p.good/\p.pv=pv)
def qnp {pv:PV} {x:Ef×Option Pan} (h:aE (JC pv x)):B9 pv x:=by
 obtain⟨e,p⟩:=x;cases p with
 |none=>exact h
 |some p=>exact⟨h.1,h.2⟩
def uK (P:Program) (E:Env) (C:Cx) (b:Nat) (ops:Array Oper) (es:List (Ef×Option Pan)) (D:List Tmp) (s0 s':St) (rem:List Nat) (a:Act) (w:World):Prop:=
 ∃ st W F γ,InvG P E st a w W F γ/\(∀ t,t∈W↔∃ k o,ops[k]? = some o/\k ∉ rem/\o.dst=some t)/\uL P C b ops es s' rem st/\st.n=s'.n/\st.gs=s0.gs /\
  (∀ (k:Nat) e p,es[k]? = some (e,some p)->k ∉ rem->p.bad=false)/\((∃ k:Nat,∃ e p,k∈rem/\es[k]? = some (e,some p))->st.mem=s0.mem/\∀ t,t ∉ D->st.sl t=s0.sl t)
def qys (hC:CxOK P C) {D:List Tmp} {s0 s':St} {rem:List Nat} {a:Act} (hi:uK P E C b ops es D s0 s' rem a w) {j:Nat} (hj:j∈rem) (hp:rem.Pairwise (· < ·))
  (hfront:∀ i∈rem,i<j->∀ e f,es[i]? = some e->es[j]? = some f->kb e.1 f.1=true) (hguard:∀ o j' want,ops[j]? = some o->o.guard=some (j',want)->j' ∉ rem) (hst:StatOK s'.n ops)
  {pv:PV} (hgood:∀ (i:Nat) x,es[i]? = some x->B9 pv x) (hwr:∀ f p,es[j]? = some (f,p)->(f.wr ≠ [] \/ ∃ t,f.dst=some t/\t ∉ D)->∀ (k:Nat) e q,es[k]? = some (e,some q)->k ∉ rem) (hn0:s0.n=s'.n)
  (K:Act->World->Prop) (Q:Exit->Act->World->Prop) (hK:∀ a' w',uK P E C b ops es D s0 s' (rem.erase j) a' w'->K a' w')
  (hQ:(∃ k:Nat,∃ e p,es[k]? = some (e,some p)/\p.bad=true)->∀ a' w',I P E ⟨s0.n,zW D s0.sl,s0.mem,s0.gs⟩ a' w'->Q (.panic [{ v:=pv.val,recovered:=false }]) a' w'):wpOp P ops Q j K a w:=by
 obtain⟨st,W,F,γ,hinv,hW,hruns,hn,hgs,hdone,hmem⟩:=hi;obtain⟨o,f,p,ho,hf,heff,hpan,hr⟩:=Ri rem st hruns hp hj hfront;have hnd:=Ag hp;have hmemE:∀ k,k ∉ rem.erase j↔k=j\/k ∉ rem:=λk=>by
  rw[hnd.mem_erase_iff];constructor
  ·intro h;by_cases hk:k=j
   ·exact .inl hk
   ·exact .inr λh'=>h ⟨hk,h'⟩
  ·rintro(h|h) ⟨h1,h2⟩
   ·exact h1 h
   ·exact h h2
 unfold wpOp;rw[ho];simp only;have hg:=hgood j _ hf;by_cases hbad:∃ q,p=some q/\q.bad=true
 ·obtain⟨q,rfl,hq⟩:=hbad;obtain⟨hgq,hpv⟩:=hg.2 hq;have hm0:=hmem ⟨j,f,q,hj,hf⟩;have key:=qxd hC (K:=K) (Q:=Q) hinv hpan hq hgq (λw' hiw=>by
   rw[hpv];refine hQ ⟨j,f,q,hf,hq⟩ a w' ?_;obtain⟨F1,γ1,hiw⟩:=hiw;rw[hn0,<- hn,<- hm0.1,<- hgs];exact⟨F1,γ1,qo5 hiw hm0.2⟩)
  have hw:Region.wanted o (yielded ops a.tmps)=true:=by simp[Region.wanted,key.1]
  rw[if_pos hw];exact .inl key.2
 ·have hneed:aE f.need:=by
   cases p with
   |none=>exact hg
   |some q=>
    refine hg.1 ?_;cases hq:q.bad with
    |false=>rfl
    |true=>exact absurd ⟨q,rfl,hq⟩ hbad
  have key:=K0 (Γ:=⟨gP C,λ_=>none⟩) ⟨qnl hC,λ_ _ h=>(nomatch h)⟩ hinv heff hneed (λx hx=>⟨by rw[hn]; exact hst.lt j o x ho hx,λhxW=>by
    obtain⟨k,ok,hok,hk,hd⟩:=(hW x).1 hxW;have:=hst.once j k o ok x ho hok hx hd;subst this;exact hk hj⟩)
   (λj' want g hg hd=>by
    have h1:=hguard o j' want ho hg;cases ho':ops[j']? with
    |none=>rw[ho'] at hd; cases hd
    |some o'=>
     rw[ho'] at hd;exact(hW g).2 ⟨j',o',ho',h1,hd⟩)
   K Q (λa' w' F' γ' hinv'=>hK a' w' ⟨f.go st,_,F',γ',hinv',λt=>?_,hr,hn,hgs,λk e q hk hkr=>?_,λhex=>?_⟩)
  ·split
   ·rename_i hw;rw[if_pos hw] at key;exact .inl key
   ·rename_i hw;rw[if_neg hw] at key;exact key
  ·rw[udq,hW];constructor
   ·rintro(h|⟨k,ok,h1,h2,h3⟩)
    ·exact⟨j,o,ho,(hmemE j).2 (.inl rfl),by simpa using h⟩
    ·exact⟨k,ok,h1,(hmemE k).2 (.inr h2),h3⟩
   ·rintro⟨k,ok,h1,h2,h3⟩;rcases(hmemE k).1 h2 with rfl|h
    ·rw[ho] at h1;cases h1;exact .inl (by simp[h3])
    ·exact .inr ⟨k,ok,h1,h,h3⟩
  ·rcases(hmemE k).1 hkr with rfl|h
   ·rw[hf] at hk;cases hk;cases hq:q.bad with
    |false=>rfl
    |true=>exact absurd ⟨q,rfl,hq⟩ hbad
   ·exact hdone k e q hk h
  ·obtain⟨k,e,q,hk,hke⟩:=hex;have hkr:=ua6 hk;have hm0:=hmem ⟨k,e,q,hkr,hke⟩;refine⟨?_,λt ht=>?_⟩
   ·show aK st.mem f.wr=s0.mem;have hnil:f.wr=[]:=by
     apply Classical.byContradiction;intro hne;exact hwr f p hf (.inl hne) k e q hke hkr
    rw[hnil];exact hm0.1
   ·show fp st.sl f.dst f.v t=s0.sl t;rw[<- hm0.2 t ht];cases hx:f.dst with
    |none=>rfl
    |some x=>
     have hne:t≠x:=λhtx=>by
      subst htx;exact hwr f p hf (.inr ⟨t,hx,ht⟩) k e q hke hkr
     exact if_neg hne
def zfh (h:Fu ops.toList es=true) {j:Nat} {f:Ef} {p:Option Pan} (hj:es[j]? = some (f,p)) (hne:f.wr ≠ []) {k:Nat} {e:Ef} {q:Pan} (hk:es[k]? = some (e,some q)):((gr [] ops.toList).getD j 0).testBit k=true:=by
 unfold Fu at h;rw[uc6] at h;have hjl:=(uak.1 hj).1;have hkl:=(uak.1 hk).1;have h1:=h j (ud7.2 hjl);rw[hj] at h1;split at h1
 ·rename_i f' p' mask hf' hm;cases hf';rw[udr] at h1;rcases h1 with h1|h1
  ·exact absurd (by simpa using h1) hne
  ·rw[uc6] at h1;have h2:=h1 k (ud7.2 hkl);rw[hk] at h2;rw[uah,hm];exact h2
 ·cases h1
def qgy {j:Nat} {f:Ef} {p:Option Pan} {t:Tmp} (hj:es[j]? = some (f,p)) (hd:f.dst=some t) (ht:t ∉ vK ops.toList es) {mask:Nat} (hm:(gr [] ops.toList)[j]? = some mask) {k:Nat} {e:Ef} {q:Pan} (hk:es[k]? = some (e,some q)):mask.testBit k=true:=by
 apply Classical.byContradiction;intro hn;apply ht;have hjl:=(uak.1 hj).1;have hkl:=(uak.1 hk).1;refine ub7.2 ⟨j,ud7.2 hjl,?_⟩;rw[hj,hm];show(if _ then none else f.dst)=some t;rw[if_neg,hd];intro hall;rw[uc6] at hall;have:=hall k (ud7.2 hkl);rw[hk] at this;exact hn this
def TS (hC:CxOK P C) {D:List Tmp} (hD:D=vK ops.toList es) {s0 s':St} (hst:StatOK s'.n ops) (hord:tf ops.toList (es.map (·.1))=true) (hwro:Fu ops.toList es=true) {pv:PV} (hgood:∀ (i:Nat) x,es[i]? = some x->B9 pv x) (hn0:s0.n=s'.n) (Q:Exit->Act->World->Prop)
  (hQ:∀ a w,uK P E C b ops es D s0 s' [] a w->Q .normal a w)
  (hQp:(∃ k:Nat,∃ e p,es[k]? = some (e,some p)/\p.bad=true)->∀ a' w',I P E ⟨s0.n,zW D s0.sl,s0.mem,s0.gs⟩ a' w'->Q (.panic [{ v:=pv.val,recovered:=false }]) a' w') :
  (fuel:Nat)->∀ (rem:List Nat) (listed:Array Bool) (a:Act) (w:World),rem.length<=fuel->rem.Pairwise (· < ·)->listed.size=ops.size->(∀ i,i<ops.size->(listed.getD i true=false↔i∈rem))->(∀ i∈rem,i<ops.size) ->
   (∀ k,k<ops.size->k ∉ rem->∀ i,((gr [] ops.toList).getD k 0).testBit i=true->i ∉ rem)->uK P E C b ops es D s0 s' rem a w->wpAny P .any ops Q fuel listed a w
 |fuel,[],listed,a,w,_,_,hsz,hl,_,_,hi=>by
  have hnil:Region.ready .any ops listed=[]:=by
   apply List.eq_nil_iff_forall_not_mem.2;intro i hmem;obtain⟨h1,o,ho,_⟩:=ufp.1 hmem;have hlt:=(uaf.1 ho).1;simpa using (hl i hlt).1 h1
  cases fuel with
  |zero=>exact⟨hnil,hQ a w hi⟩
  |succ fuel=>exact⟨λ_=>hQ a w hi,λi hmem=>by rw[hnil] at hmem; simp at hmem⟩
 |0,i::r,_,_,_,hlen,_,_,_,_,_,_=>by simp at hlen
 |fuel+1,i::r,listed,a,w,hlen,hp,hsz,hl,hlt,hmask,hi=>by
  have hready:i∈Region.ready .any ops listed:=by
   have hio:=hlt i (by simp);refine ufp.2 ⟨(hl i hio).2 (by simp),ops[i],by simp,λe he hb=>?_⟩;have hback:=hst.back i ops[i] (by simp) e he hb;have hnot:e.on ∉ i::r:=λhh=>by
    rcases ueg.1 hh with h|h
    ·omega
    ·have:=(ub8.1 hp).1 _ h;omega
   have h1:=λh=>hnot ((hl e.on (by omega)).1 h);have hsz':e.on<listed.size:=by omega
   simp only[uac,uam hsz'] at h1 |-;simpa using h1
  refine⟨λhnil=>by rw[hnil] at hready; simp at hready,λj hj=>?_⟩;obtain⟨hj1,o,ho,hjall⟩:=ufp.1 hj;have hjlt:=(uaf.1 ho).1;have hjrem:=(hl j hjlt).1 hj1;have hlisted:∀ b,listed.getD b false=true->b<ops.size/\b ∉ i::r:=λb hb=>by
   have hbs:b<listed.size:=by
    rcases ueo b listed.size with h|h
    ·exact h
    ·simp[uaz h] at hb
   refine⟨by omega,λhmem=>?_⟩;have:=(hl b (by omega)).2 hmem;simp only[uac,uam hbs,uda] at hb this;rw[hb] at this;cases this
  obtain⟨m,hm1,hm2⟩:=(Kl ops.toList []).2 j o (by simpa using ho);simp at hm1;have hmj:∀ b,((gr [] ops.toList).getD j 0).testBit b=true->b ∉ i::r:=λb hb=>by
   rw[uah,hm1] at hb;obtain⟨e,he,hb',hor⟩:=hm2 b hb;obtain⟨h1,h2⟩:=hlisted e.on (hjall e he hb');rcases hor with rfl|h
   ·exact h2
   ·exact hmask e.on h1 h2 b h
  have hnd:=Ag hp;refine qys hC hi hjrem hp (λk hk hkj e f he hf=>?_) (λo' j' want ho' hg hmem=>?_) hst hgood (λf p hf hne k e q hk=>?_) hn0 _ Q (λa' w' h'=>?_) hQp
  ·have he':(es.map (·.1))[k]? = some e.1:=by rw[ucm,he]; rfl
   have hf':(es.map (·.1))[j]? = some f.1:=by rw[ucm,hf]; rfl
   exact(Td hord he' hf' hkj).resolve_left λh=>hmj k h hk
  ·obtain⟨_,e,he,heq,hb⟩:=hst.guard j o' j' want ho' hg;rw[ho] at ho';cases ho';have:=(hlisted e.on (hjall e he hb)).2;rw[heq] at this;exact this hmem
  ·rcases hne with hne|⟨t,hdt,htD⟩
   ·exact hmj k (zfh hwro hf hne hk)
   ·refine hmj k ?_;rw[uah,hm1];exact qgy hf hdt (hD ▸ htD) hm1 hk
  ·refine TS hC hD hst hord hwro hgood hn0 Q hQ hQp fuel _ (listed.setIfInBounds j true) a' w' ?_ (T0 hp j) (by simpa using hsz) (λk hk=>?_) (λk hk=>hlt k (ua6 hk)) (λk hk hkr b hb=>?_) h'
   ·rw[List.length_erase_of_mem hjrem];omega
   ·rw[hnd.mem_erase_iff];by_cases hkj:j=k
    ·subst hkj;simp[hsz]
    ·simp only[uac,uaa hkj];rw[<- uac,hl k hk];constructor
     ·exact λh=>⟨Ne.symm hkj,h⟩
     ·exact λh=>h.2
   ·rw[hnd.mem_erase_iff] at hkr |-;rintro⟨h1,h2⟩;by_cases hkj:k=j
    ·subst hkj;exact hmj b hb h2
    ·exact hmask k hk (λhh=>hkr ⟨hkj,hh⟩) b hb h2
def VN {d:St} {all:List (Ef×Option Pan)} {good:Tr} {Q:XE->St->Prop}:{ps:List Pan}->(LQ d all good ps).sat Q->(∃ p∈ps,p.bad=true/\aE (all.flatMap (JC p.pv))/\Q (.panic p.pv) d)\/((∀ p∈ps,p.bad=false)/\good.sat Q)
 |[],h=>.inr ⟨λp hp=>by simp at hp,h⟩
 |p::r,h=>by
  cases hb:p.bad with
  |true=>
   obtain⟨h1,h2⟩:=kW _ (h.1 hb);exact .inl ⟨p,by simp,hb,h1,h2⟩
  |false=>
   rcases VN (h.2 hb) with ⟨q,h1,h2⟩|⟨h1,h2⟩
   ·exact .inl ⟨q,ubg _ h1,h2⟩
   ·refine .inr ⟨λq hq=>?_,h2⟩;rcases ueg.1 hq with rfl|hq
    ·exact hb
    ·exact h1 q hq
def ON {A:Type} {f:A->List Prop}:{l:List A}->aE (l.flatMap f)->∀ x∈l,aE (f x)
 |[],_,x,hx=>by simp at hx
 |y::r,h,x,hx=>by
  obtain⟨h1,h2⟩:=lB.1 h;rcases ueg.1 hx with rfl|hx
  ·exact h1
  ·exact ON h2 x hx
def qyt (hC:CxOK P C) {id:Nat}:mK P E (.region id ops true) (KS P C b ops.toList):=by
 intro s t h Q hq a w hi;unfold KS at h;split at h<;>try trivial
 rename_i hstat;split at h<;>try trivial
 rename_i es s' hrun;split at h<;>try trivial
 rename_i hord;cases h;have hn:=U7 _ _ _ _ hrun;have hst:StatOK s'.n ops:=by rw[hn]; exact EU hstat
 have hruns:uL P C b ops es s' (List.range' 0 ops.size) s:=by
  have:=UA ops.toList 0 s es hrun (λi o hi=>by simpa using hi) (λi e hi=>by simpa using hi);simpa using this
 have hlen:es.length=ops.size:=by
  have:=U6 _ _ _ _ hrun;simpa using this
 obtain⟨F,γ,hi⟩:=hi;have hstart:∀ w',InvG P E s a w' [] F γ->uK P E C b ops es (vK ops.toList es) s s' (List.range' 0 ops.size) a w':=λw' hi'=>by
  refine⟨s,[],F,γ,hi',λt=>?_,hruns,hn.symm,rfl,λk e p hk hnot=>?_,λ_=>⟨rfl,λ_ _=>rfl⟩⟩
  ·constructor
   ·intro hh; simp at hh
   ·rintro⟨k,o,hk,hnot,_⟩;exfalso;apply hnot;rw[ucu];have:=(uaf.1 hk).1;omega
  ·exfalso;apply hnot;rw[ucu];have:=(uak.1 hk).1;omega
 have key:∀ pv:PV,(∀ (i:Nat) x,es[i]? = some x->B9 pv x)->(∀ a' w',uK P E C b ops es (vK ops.toList es) s s' [] a' w'->fb P E Q .normal a' w') ->
   ((∃ k:Nat,∃ e p,es[k]? = some (e,some p)/\p.bad=true)->∀ a' w',I P E ⟨s.n,zW (vK ops.toList es) s.sl,s.mem,s.gs⟩ a' w'->fb P E Q (.panic [{ v:=pv.val,recovered:=false }]) a' w')->(Code.region id ops true).wp P (fb P E Q) a w:=by
  intro pv hg hend hpan;refine wp_region_any hC.mo ?_;refine TS hC rfl hst hord.1 hord.2 hg hn.symm _ hend hpan ops.size (List.range' 0 ops.size) _ a _ (by simp) uav (by simp) (λi hi'=>?_) (λi hi'=>?_) (λk hk hnot=>?_) (hstart _ (Sh hi))
  ·simp only[ucu,uac,uar,hi',if_true,uda,true_iff];omega
  ·rw[ucu] at hi';omega
  ·exfalso;apply hnot;rw[ucu];omega
 rcases VN hq with ⟨p,hp,hb,hall,hQ⟩|⟨hno,hgood⟩
 ·refine key p.pv (λi x hx=>qnp (ON hall x (ube hx))) ?_ (λ_ a' w' hiw=>⟨.panic p.pv,_,rfl,hiw,hQ⟩);rintro a' w' ⟨st,W,F',γ',hinv,_,_,_,_,hdone,_⟩;obtain⟨x,hx,hxp⟩:=ub7.1 hp;obtain⟨i,hi⟩:=ubq hx;obtain⟨e,q⟩:=x;subst hxp;have:=hdone i e p hi (by simp);rw[hb] at this;cases this
 ·obtain⟨hneed,hq'⟩:=Kr _ hgood;have hbadF:∀ (k:Nat) e p,es[k]? = some (e,some p)->p.bad=false:=λk e p hk=>hno p (ub7.2 ⟨(e,some p),ube hk,rfl⟩);refine key ⟨0,.i64,0⟩ (λi x hx=>?_) ?_ ?_
  ·obtain⟨e,p⟩:=x;have hne:=hneed e (ue7.2 ⟨(e,p),ube hx,rfl⟩);cases p with
   |none=>exact hne
   |some q=>exact⟨λ_=>hne,λhb=>by rw[hbadF i e q hx] at hb; cases hb⟩
  ·rintro a' w' ⟨st,W,F',γ',hinv,_,hr,_⟩;have hr':=hr;subst hr';exact⟨.normal,_,rfl,⟨F',γ',qC hinv⟩,hq'⟩
  ·rintro⟨k,e,p,hk,hb⟩;rw[hbadF k e p hk] at hb;cases hb
end
def P7:List Oper->Option (FuncId×Tmp)
 |[⟨none,.defer ⟨.value (.func f),args,_⟩,_,_,_,none⟩]=>match args.toList with
  |[.tmp tp]=>some (f,tp)
  |_=>none
 |_=>none
def Ls (P:Program) (C:Cx) (run:St->Option Tr) (T:TypeId) (k:IntKind) (fn:Func) (A:Code) (tp:Tmp) (ps:List PT) (rs:List Ty) (xs:aq ps):Option (Fr (ae rs)):=
 if (fn.name == "runtime.NumGoroutine")=false/\ps.length<=fn.ntmps then match cU P C 0 dM A 0 (tV fn.ntmps (jU ps xs)) with
  |some (.leaf .normal s1)=>match s1.sl tp with
   |.c (.ptr id 0)=>match run ⟨s1.n,s1.sl,s1.mem,λt=>if t=0 then .c (.ptr id 0) else .dead⟩ with
    |some t=>iM P T k fn.results.toList rs t
    |none=>none
   |_=>none
  |_=>none
 else none
section
variable {P:Program} {w w':World} {E:Env} {F F':Nat->Prop} {γ γ':Nat->Value}
def qgt {C:Cx} (hC:CxOK P C) {run:St->Option Tr} {f g:FuncId} {T:TypeId} {k:IntKind} {fn:Func} {A c:Code} {rid:Nat} {ops:Array Oper} {tp:Tmp} {ps:List PT} {rs:List Ty} {fr:aq ps->Fr (ae rs)} (x0:aq ps)
  (hf:P.funcs[f]? = some fn) (hb:fn.body=some (.seq A (.seq (.region rid ops false) c))) (hd:P7 ops.toList=some (g,tp)) (hT:TolOK P g T k) (hR:∀ E,mK P E c run)
  (hrun:∀ xs,Ls P C run T k fn A tp ps rs xs=some (fr xs)):aa P f ⟨ps,rs,λxs=>(fr xs).get,λxs=>[(fr xs).ok]⟩:=by
 have h0:=hrun x0
 unfold Ls at h0
 split at h0<;>try (cases h0; done)
 rename_i hc
 refine⟨enters hf hb hc.1,λw F xs vs hbd hr hok=>ucc hf hb ?_⟩
 have hr':=hrun xs
 unfold Ls at hr'
 simp only[hc,ufs,if_true] at hr'
 split at hr'<;>try (cases hr'; done)
 rename_i s1 ht1
 split at hr'<;>try (cases hr'; done)
 rename_i id hsl
 split at hr'<;>try (cases hr'; done)
 rename_i t ht2
 have hlen:vs.length=ps.length:=wR hr
 have hstart:=xu (D:=[]) (n:=fn.ntmps) hbd (λR=>qm hr) (by have:=hc.2; omega)
 have hsz:(vs.toArray).size=vs.length:=by simp
 refine wp_seq (wp_mono (gF hC A 0 (bL A 0) ht1 (Q:=λe s=>e = .normal/\s=s1) ⟨rfl,rfl⟩ hstart) ?_)
 rintro e a1 w1 ⟨xe,s,rfl,⟨F1,γ1,hi⟩,rfl,rfl⟩
 have hv0:=sM hi tp
 rw[hsl] at hv0
 obtain⟨_,b0,hR0,hv0⟩:=hv0
 refine wp_seq (ufq ?_)
 unfold P7 at hd
 split at hd<;>try (cases hd; done)
 rename_i f0 args ats ty pos aft hops
 split at hd<;>try (cases hd; done)
 rename_i tp0 hargs
 simp at hd
 obtain⟨rfl,rfl⟩:=hd
 obtain⟨ol⟩:=ops
 subst hops
 have hargs':args = #[.tmp tp0]:=by
  obtain⟨l⟩:=args
  simp only at hargs
  rw[hargs]
 subst hargs'
 have hev:a1.eval (.tmp tp0) = .pointer (some ⟨b0,0,none⟩):=hv0
 have hexec:(execOp a1.eval ⟨none,.defer ⟨.value (.func f0),#[.tmp tp0],ats⟩,ty,pos,aft,none⟩).run P w1 = .ok (.defer { target:=.fn (.func f0) #[],args:=#[.pointer (some ⟨b0,0,none⟩)] }) w1:=by
  have hef:a1.eval (.func f0) = .func (.func f0) #[] #[]:=rfl
  simp[execOp,resolve,hev,hef,Deferred.ofValue]
 have hrange:List.range (#[(⟨none,.defer ⟨.value (.func f0),#[.tmp tp0],ats⟩,ty,pos,aft,none⟩:Oper)]:Array Oper).size=[0]:=rfl
 unfold wpOps
 simp
 have hw:Region.wanted (⟨none,.defer ⟨.value (.func f0),#[.tmp tp0],ats⟩,ty,pos,aft,none⟩:Oper) (yielded #[(⟨none,.defer ⟨.value (.func f0),#[.tmp tp0],ats⟩,ty,pos,aft,none⟩:Oper)] a1.tmps)=true:=rfl
 refine .inl ?_
 unfold Oper.wp
 rw[hexec]
 have hi':InvG P ⟨w,F,λ_=>.pointer (some ⟨b0,0,none⟩),[{ target:=.fn (.func f0) #[],args:=#[.pointer (some ⟨b0,0,none⟩)] }],w.heap.size,ufa _⟩ ⟨s.n,s.sl,s.mem,λt=>if t=0 then .c (.ptr id 0) else .dead⟩ { a1 with defers:={ target:=.fn (.func f0) #[],args:=#[.pointer (some ⟨b0,0,none⟩)] }::a1.defers } w1 [] F1 γ1:=by
  refine⟨hi.n,?_,hi.step,hi.mem,hi.sl,hi.hg,λt=>?_⟩
  ·show _::a1.defers=[_]
   rw[hi.df]
  ·show aM P w1 F1 _ (if t=0 then .c (.ptr id 0) else .dead) _
   split
   ·exact⟨rfl,b0,hR0,rfl⟩
   ·trivial
 have hwp:=hR ⟨w,F,λ_=>.pointer (some ⟨b0,0,none⟩),[{ target:=.fn (.func f0) #[],args:=#[.pointer (some ⟨b0,0,none⟩)] }],w.heap.size,ufa _⟩ _ _ ht2 _ (sE hr' hok) _ _ ⟨F1,γ1,hi'⟩
 refine wp_mono hwp ?_
 rintro e a2 w2 ⟨xe,s2,rfl,⟨F2,γ2,hi2⟩,hx⟩
 have hinv:∀ W,(invoke (.fn (.func f0) #[]) #[.pointer (some ⟨b0,0,none⟩)]).run P W = .ok (.enter f0 #[.pointer (some ⟨b0,0,none⟩)]) W:=λW=>by
  have:=hT.enter #[.pointer (some ⟨b0,0,none⟩)] W
  simp[invoke,this]
 have hfin:(∃ n,dS P fn.results.toList rs s2=some (Fr.needL n (.val (fr xs).get))/\aE n)->Leaves P fn a2.tmps (fy w F rs (fr xs).get) a2.defers .returning w2:=by
  rintro⟨n,hend,hn⟩
  rw[hi2.df]
  refine uff (by simp) (hinv w2) ((hT.idle _ w2).mono ?_)
  rintro e u' w' ⟨⟨v,rfl⟩,rfl,rfl⟩
  exact vN hi2 rfl hend hn
 cases xe with
 |normal=>exact hfin hx
 |ret=>exact hfin hx
 |exit _=>exact hx.elim
 |val _=>exact hx.elim
 |jump _=>exact hx.elim
 |panic p=>
  obtain⟨s',n,hs',hin,hend,hn⟩:=hx
  obtain⟨hty,hk,hlow,b,tyb,old,hG,hheap,hi3⟩:=VJ hi2 hs' hin
  have hG':=hG
  simp at hG'
  subst hG'
  show Leaves P fn a2.tmps _ a2.defers (.panicking [{ v:=p.val,recovered:=false }]) w2
  rw[W6 (by rw[hty]; exact hlow),hi2.df,hty,hk]
  refine uff (by simp) (hinv w2) ((hT.told b0 tyb old p.n w2 hheap).mono ?_)
  rintro e u' w' ⟨⟨v,rfl⟩,rfl,rfl⟩
  exact vN hi3 rfl hend hn
end
end Go.Ab

namespace Go.Ab
open Go Go.RowKit
section
variable {P:Program} {E:Env}
def zfp {c rest:Code} {L0 L N Eo R:LS} {n id l:Nat} {f0:L0.X->Fr (Rd L.X Eo.X R.X)} {f:L.X->Fr (Rd L.X Eo.X R.X)} (hf:findLabel c l=some rest) (h1:g7 P l c L0 ⟨n,id,L,Eo,R⟩ f0) (h2:g7 P l rest L ⟨n,id,L,Eo,R⟩ f)
  {F0:L0.X->Fr (Rd N.X Eo.X R.X)} {F:L.X->Fr (Rd N.X Eo.X R.X)} {inv:L.X->Prop} {μ:L.X->Nat}
  (hlaw0:∀ x,∀ Q:Rd N.X Eo.X R.X->Prop,(F0 x).satP Q->(f0 x).satP λ
   |.next x'=>inv x'/\(F x').satP Q
   |.out y=>Q (.out y)
   |.back z=>Q (.back z)
   |.pan p=>Q (.pan p))
  (hlaw:∀ x,inv x->∀ Q:Rd N.X Eo.X R.X->Prop,(F x).satP Q->(f x).satP λ
   |.next x'=>inv x'/\μ x'<μ x/\(F x').satP Q
   |.out y=>Q (.out y)
   |.back z=>Q (.back z)
   |.pan p=>Q (.pan p)):ah P (.scope c) L0 ⟨n,id,N,Eo,R⟩ F0:=by
 intro E a w x Q hi hq;refine wp_scope_jumps l (λa w=>∃ m,∃ x,inv x/\μ x=m/\I P E (L.tpl n x) a w/\(F x).satP Q) (λa w=>wu λm=>∃ x,inv x/\μ x=m/\I P E (L.tpl n x) a w/\(F x).satP Q) hf ?_ ?_
 ·refine wp_mono (h1 E a w x _ hi (hlaw0 x Q hq)) ?_;rintro e a' w' ⟨r,hr,hm⟩;cases r with
  |next x'=>
   obtain⟨rfl,hi'⟩:=hm;exact⟨rfl,⟨μ x',x',hr.1,rfl,hi',hr.2⟩⟩
  |out y=>
   obtain⟨rfl,hi'⟩:=hm;exact⟨.out y,hr,rfl,hi'⟩
  |back z=>
   obtain⟨rfl,hi'⟩:=hm;exact⟨.back z,hr,rfl,hi'⟩
  |pan v=>
   obtain⟨rfl,hi'⟩:=hm;exact⟨.pan v,hr,rfl,hi'⟩
 ·rintro a w ⟨m,hm⟩;obtain⟨⟨x',q1,q2,q3,q4⟩,_⟩:=wv (p:=λm=>∃ x,inv x/\μ x=m/\I P E (L.tpl n x) a w/\(F x).satP Q) ⟨m,hm⟩;refine wp_mono (h2 E a w x' _ q3 (hlaw x' q1 Q q4)) ?_;rintro e a1 w1 ⟨r,hr,hm1⟩;cases r with
  |next y=>
   obtain⟨rfl,hi'⟩:=hm1;refine⟨rfl,⟨μ y,y,hr.1,rfl,hi',hr.2.2⟩,?_⟩;rw[<- q2];exact ucb ((wv ⟨μ y,y,hr.1,rfl,hi',hr.2.2⟩).2 (μ y) ⟨y,hr.1,rfl,hi',hr.2.2⟩) hr.2.1
  |out y=>
   obtain⟨rfl,hi'⟩:=hm1;exact⟨.out y,hr,rfl,hi'⟩
  |back z=>
   obtain⟨rfl,hi'⟩:=hm1;exact⟨.back z,hr,rfl,hi'⟩
  |pan v=>
   obtain⟨rfl,hi'⟩:=hm1;exact⟨.pan v,hr,rfl,hi'⟩
end
end Go.Ab

namespace Go.Ab
open Go Go.RowKit
structure GrowOK (P:Program) (f:FuncId) (e:TypeId) (T:Ty) (bytes:Nat):Prop where
 enters:∀ args w,(callFunc f args).run P w = .ok (.enter f args) w
 calls:∀ (w:World) (n:Nat),n<=maxLen->n*bytes<=140737488355328->Calls P f #[.slice none 0 0,.int .i64 n] w λen w'=>
  ∃ v,en = .returned v/\w.grownBy w' none/\w'.ownsRow w.heap.size e T.size v 0 []
def JI (f:FuncId) (e:TypeId) (T:Ty) (bytes:Nat) (d:Nat) (g:FuncId) (args:List AV) (s:St):Option Tr:=
 if g=f then match args,s.mem d with
  |[.c .nil,.c (.int .i64 n)],none=>some (needL [0<=n/\n<=maxLen/\n*bytes<=140737488355328] (.leaf (.val (.c (.own d))) ⟨s.n,s.sl,upd s.mem d (.arr e T []),s.gs⟩))
  |_,_=>none
 else none
def pU (w:World) (o:Obj) (i:Nat) (h:i<w.heap.size):(w.alloc o).heap[i]? = w.heap[i]? := by
 first
  |exact heap_alloc_old w o h
def qxb {w:World} {B B':Nat} {e:TypeId} {size n:Nat} {v:Value} {xs:List Value} (h:w.ownsRow B e size v n xs) (hb:B'<=B):w.ownsRow B' e size v n xs:=
 Ek h λg hg=>uen hb (h.lt g hg).1
def qnt {P:Program} {f:FuncId} {e:TypeId} {T:Ty} {bytes:Nat} (h:GrowOK P f e T bytes):kv P (JI f e T bytes):=by
 intro d g args s t ht;unfold JI at ht;split at ht<;>try trivial
 rename_i hg;subst hg;split at ht<;>try trivial
 rename_i n hmd;cases ht;refine⟨h.enters,λE a w F γ vs Q hi hr hq=>?_⟩;obtain⟨⟨h0,h1,h2⟩,hqv⟩:=hq
 match vs,hr with
 |[v1,v2],⟨⟨_,hv1⟩,⟨_,hv2,_⟩,_⟩=>
  have e1:=hv1;have e2:=hv2;subst e1;subst e2;obtain⟨m,rfl⟩:∃ m:Nat,n=m:=⟨n.toNat,by omega⟩;have h4:m*bytes<=140737488355328:=by omega
  refine(h.calls w m (by omega) h4).mono λen w2 hp=>?_;obtain⟨v,rfl,hgr,hown⟩:=hp;have hBs:=rL hi;have hlow:=qxb hown hBs;obtain⟨s1,m1⟩:=wz (l:=([]:List T.den)) hi.mem (eo hi) hBs hmd hgr hlow (λg hg=>(hown.lt g hg).1) (λi x hx=>by simp at hx);have hinv:InvG P E ⟨s.n,s.sl,upd s.mem d (.arr e T []),s.gs⟩ a w2 [] F (eG γ d v):=by
   refine⟨hi.n,hi.df,?_,m1,λt=>(hi.sl t).mono s1.hF s1.hw s1.hR,hi.hg,λt=>s1.repA (hi.gh t)⟩;obtain⟨γ0,h0⟩:=hi.step;exact⟨γ0,h0.trans s1⟩
  exact⟨.val (.c (.own d)),_,F,_,hqv,hinv,v,rfl,ny (wD hown)⟩
end Go.Ab

namespace Go.Ab
open Go Go.RowKit
section
variable {F:Fence} {n:Nat} {P:Program} {w:World}
def BH {α:Type} (F:Fence) (n:Nat) (P:Program) (gf:Nat) (lb:Array Value) (encs:α->Array Value) (E:α->World->World->Prop) (Kp:World->World->Prop) (S:List α->Prop) (N:Nat) (w0:World):Prop:=
 ∀ (l:Nat) (J:List α->World->Prop) (W:World),Below w0.heap.size w0 W->AbidesFrom W.heap.size J ->
  (∀ pre x W0 W1,J pre W0->Below W0.heap.size W0 W1->E x W0 W1->pre.length<N->YieldAt F (n-1) P l (encs x) W1 λe W'=>e = .returned (.bool true)/\J (pre++[x]) W'/\Kp W1 W') ->
  J [] W->CallsIn F n P gf (#[.func (.yield l) #[] #[]]++lb) W λe W'=>(∃ v,e = .returned v)/\∃ xs,S xs/\J xs W'
def qzp {α:Type} (b:Nat) (Kp:World->World->Prop) (I:List α->World->Prop) (xs:List α) (W:World) (e:Exit) (_:Act) (W':World):Prop:=
 e = .normal/\KeepsFrom b W W'/\Kp W W'/\I xs W'
def zff {α:Type} {g:Operand} {ps:Array Tmp} {assign body:Code} {Q:Exit->Act->World->Prop} {a:Act}
  (hro:F.round=none) (h1:1<=n) {gf:Nat} {lb:Array Value} (hg:a.eval g = .func (.func gf) #[] lb) (hFg:F.fn gf) (eg:∀ args w,(callFunc gf args).run P w = .ok (.enter gf args) w)
  {encs:α->Array Value} {E:α->World->World->Prop} {Kp:World->World->Prop} {S:List α->Prop} {N:Nat} (hseq:BH F (n-1) P gf lb encs E Kp S N w)
  (hKt:∀ {A B C:World},Kp A B->Kp B C->Kp A C) (hKb:∀ (W:World) (l:Nat) (o o':Obj),w.heap.size<=l->W.heap[l]? = some o->o.isCells=false->Kp W (W.putObj l o')) (hps:∀ x,(encs x).size=ps.size)
  (I:List α->World->Prop) (hI:OwnFrom w.heap.size I) (h0:I [] w) (A:List α->α->Act->World->Prop) (hA:∀ pre x a',OwnFrom w.heap.size (λ(_:Unit) W=>A pre x a' W))
  (hassign:∀ (l:Nat) (pre:List α) (x:α) (W0 W:World) (K:Act->World->Prop),I pre W0->Below W0.heap.size W0 W->E x W0 W->(∀ a' W',KeepsFrom w.heap.size W W'->Kp W W'->A pre x a' W'->K a' W') ->
   assign.wpIn (F.inRound l) (n-1-1) P (Exit.then K (λ_ _ _=>False)) { tmps:=(ps.zip (encs x)).foldl (λt (p,v)=>t.setIfInBounds p v) a.tmps,defers:=[] } W)
  (hbody:∀ (l:Nat) (pre:List α) (x:α) (a':Act) (W:World),A pre x a' W->pre.length<N->body.wpIn (F.inRound l) (n-1-1) P (qzp w.heap.size Kp I (pre++[x]) W) a' W)
  (hdone:∀ (D:Nat) (xs:List α) (W:World),w.heap.size<=D->S xs->I xs W->W.heap[D]? = some (.deferred (some []))->Q .normal { a with defers:={ target:=.collected D,args:=#[] }::a.defers } W) :
  (Code.rangeFunc g ps assign body).wpIn F n P Q a w:=by
 refine wpIn_rangeFunc λfn hfn=>?_;rw[hro]
 let mk:LoopState->Option Code->Loop:=λst pe=>{ state:=st,pending:=pe,fn,tmps:=a.tmps,params:=ps,assign,body,defers:=w.heap.size }
 let d0:Obj:=.deferred (some [])
 have hsz:(w.alloc d0).heap.size=w.heap.size+1:=by simp
 have hL:((w.alloc d0).alloc (.loop (mk .ready none))).heap[w.heap.size+1]? = some (.loop (mk .ready none)):=by
  have:=World.alloc_heap_new (w.alloc d0) (.loop (mk .ready none))
  rwa [hsz] at this
 have hD:((w.alloc d0).alloc (.loop (mk .ready none))).heap[w.heap.size]? = some d0:=
  (uc8 _ _ _ (by rw[hsz]; omega)).trans (World.alloc_heap_new w _)
 have hbel:Below w.heap.size w ((w.alloc d0).alloc (.loop (mk .ready none))):=((ufi _ w).alloc (ufa _) _).alloc (by rw[hsz]; omega) _;generalize hW1:(w.alloc d0).alloc (.loop (mk .ready none))=W1 at hL hD hbel;have hI1:I [] W1:=by rw[<- hW1]; exact hI.alloc _ (hI.alloc _ h0)
 have hs1:W1.heap.size=w.heap.size+2:=by rw[<- hW1]; simp
 refine⟨w.heap.size+1,[{ target:=.collected w.heap.size,args:=#[] }],W1,{ target:=.fn (.func gf) lb,args:=#[.func (.yield (w.heap.size+1)) #[] #[]] },W1,gf,
  #[.func (.yield (w.heap.size+1)) #[] #[]]++lb,W1,?_,?_,?_,?_,λ_=>h1,?_⟩
 ·rw[<- hW1];exact run_enterLoop_outer _ _ _ _ _
 ·simp only[resolve,hg];simp[go_sem]
 ·intro f' hf';simp[Target.leads] at hf';subst hf';exact hFg
 ·simp[invoke,eg]
 have hwalk:∀ {A:World} {row:Option Nat},(∀ r,row=some r->W1.heap.size<=r/\∃ o:Obj,A.heap[r]? = some o/\o.isWalk=true)->∀ r,row=some r->w.heap.size<=r/\∃ o:Obj,A.heap[r]? = some o/\o.isCells=false:=λhr r e=>by
  obtain⟨hb,o,ho,hw⟩:=hr r e;exact⟨by omega,o,ho,Obj.not_cells_of_walk hw⟩
 refine(hseq (w.heap.size+1) (λpre W=>I pre W/\W.heap[w.heap.size+1]? = some (.loop (mk .ready none))/\W.heap[w.heap.size]? = some d0) W1 hbel ?_ ?_ ⟨hI1,hL,hD⟩).mono ?_
 ·rintro s X Y row ⟨q1,q2,q3⟩ hgr hr;exact⟨hI s X Y row q1 hgr (hwalk hr),(grownBy_keeps hgr (λr e=>(hr r e).2) q2 rfl).trans q2,(grownBy_keeps hgr (λr e=>(hr r e).2) q3 rfl).trans q3⟩
 ·rintro pre x W0 W ⟨hi0,hl0,hd0⟩ hb0 hE hlen;have hl:=(hb0.block _ (uaf.1 hl0).1).trans hl0;have hd:=(hb0.block _ (uaf.1 hd0).1).trans hd0;refine⟨fn,_,assign,body,run_yield hl (hps x),roundIn_of_wpIn hfn (hassign _ pre x W0 W _ hi0 hb0 hE ?_)⟩;intro a' Wa hka hkpa hax;have hla:=hka.same _ _ (by omega) hl rfl;have hda:=hka.same _ _ (ufa _) hd rfl;have hlt:=(uaf.1 hla).1;refine⟨_,run_beginRound hla rfl,?_⟩;have hl2:(Wa.putObj (w.heap.size+1) (.loop { mk .ready none with state:=.busy })).heap[w.heap.size+1]? = some (.loop { mk .ready none with state:=.busy }):=World.putObj_heap_same hlt;have hd2:(Wa.putObj (w.heap.size+1) (.loop { mk .ready none with state:=.busy })).heap[w.heap.size]? = some d0:=(World.putObj_heap_other (by omega)).trans hda;have hk2:Kp Wa (Wa.putObj (w.heap.size+1) (.loop { mk .ready none with state:=.busy })):=hKb _ _ _ _ (by omega) hla rfl;refine wpIn_mono (hbody _ pre x a' _ ((hA pre x a').putObj (s:=()) _ hax (by omega) hla rfl) hlen) ?_;rintro e a3 W3 ⟨rfl,hk3,hkp3,hi3⟩;have hl3:=hk3.same _ _ (by omega) hl2 rfl;have hd3:=hk3.same _ _ (ufa _) hd2 rfl;have hend:=run_endRound (P:=P) none hl3;refine⟨_,_,hend,rfl,⟨hI.putObj _ hi3 (by omega) hl3 rfl,World.putObj_heap_same (uaf.1 hl3).1,(World.putObj_heap_other (by omega)).trans hd3⟩,hKt hkpa (hKt (hKt hk2 hkp3) (hKb _ _ _ _ (by omega) hl3 rfl))⟩
 ·rintro e W2 ⟨⟨v,rfl⟩,xs,hS,hi,hl,hd⟩;exact⟨none,_,run_endLoop hl (by simp),hdone _ xs _ (ufa _) hS (hI.putObj _ hi (by omega) hl rfl) ((World.putObj_heap_other (by omega)).trans hd)⟩
end
end Go.Ab

namespace Go.Ab
open Go Go.RowKit
def BG (w' w:World):Prop:=w'.heap=w.heap/\w'.os=w.os/\w'.tape=w.tape/\w'.output=w.output
structure ToldTwo (P:Program) (g:FuncId) (T:TypeId) (k:IntKind) (m:Nat):Prop where
 enter:∀ args w,(callFunc g args).run P w = .ok (.enter g args) w
 idle:∀ (p q:Addr) (w:World),CallsD P g #[.pointer (some p),.pointer (some q)] .returning w λe u' w'=>(∃ v,e = .returned v)/\u' = .returning/\w'=w
 told:∀ (b1 b2:Nat) (t1 t2:TypeId) (o1 o2:Array Value) (n:Int) (w:World),b1≠b2->w.heap[b1]? = some (.cells o1 t1 (0,0))->o1.size=m->w.heap[b2]? = some (.cells o2 t2 (0,0))->o2.size=1 ->
  CallsD P g #[.pointer (some ⟨b1,0,none⟩),.pointer (some ⟨b2,0,none⟩)] (.panicking [{ v:=.iface T (.agg #[.int k n]),recovered:=false }]) w λe u' w'=>
   (∃ v,e = .returned v)/\u' = .panicking [{ v:=.iface T (.agg #[.int k n]),recovered:=true }]/\BG w' ((w.setRow b1 (Array.replicate m (.int .i64 0))).setRow b2 #[.int k n])
def Bv (m:Nat):List AC:=List.replicate m (.int .i64 0)
def Fk (T:TypeId) (k:IntKind) (m:Nat) (p:PV) (s:St):Option St:=
 match s.gs 0,s.gs 1 with
 |.c (.ptr i 0),.c (.ptr j 0)=>match s.mem i,s.mem j with
  |some (.box e cs),some (.box e2 [_])=>if p.ty=T+1000000/\p.k=k/\i≠j/\cs.length=m then some ⟨s.n,s.sl,upd (upd s.mem i (.box e (Bv m))) j (.box e2 [.int k p.n]),s.gs⟩ else none
  |_,_=>none
 |_,_=>none
def js (P:Program) (T:TypeId) (k:IntKind) (m:Nat) (rv:List ResultVar) (rs:List Ty):Tr->Option (Fr (ae rs))
 |.leaf .ret s=>dS P rv rs s
 |.leaf .normal s=>dS P rv rs s
 |.leaf (.panic p) s=>match Fk T k m p s with
  |some s'=>match dS P rv rs s' with
   |some f=>some (.need (inR k p.n) f)
   |none=>none
  |none=>none
 |.leaf _ _=>none
 |.br b x y=>match js P T k m rv rs x,js P T k m rv rs y with
  |some x',some y'=>some (.br b x' y')
  |_,_=>none
 |.need p x=>match js P T k m rv rs x with
  |some x'=>some (.need p x')
  |none=>none
 |.two p x y=>match js P T k m rv rs x,js P T k m rv rs y with
  |some x',some y'=>some (.need (p->x'.ok/\x'.get=y'.get) y')
  |_,_=>none
def P8:List Oper->Option (FuncId×Tmp×Tmp×Tmp)
 |[⟨some td,.makeFunc (.func f) first caps,_,_,_,none⟩,⟨none,.defer ⟨.value (.tmp td'),args,_⟩,_,_,_,none⟩]=>match first.toList,caps.toList,args.toList with
  |[],[.tmp ta,.tmp tb],[]=>if td'=td then some (f,td,ta,tb) else none
  |_,_,_=>none
 |_=>none
def Lr (P:Program) (C:Cx) (run:St->Option Tr) (T:TypeId) (k:IntKind) (m:Nat) (fn:Func) (A:Code) (td ta tb:Tmp) (ps:List PT) (rs:List Ty) (xs:aq ps):Option (Fr (ae rs)):=
 if (fn.name == "runtime.NumGoroutine")=false/\ps.length<=fn.ntmps/\td<fn.ntmps then match cU P C 0 dM A 0 (tV fn.ntmps (jU ps xs)) with
  |some (.leaf .normal s1)=>match s1.sl ta,s1.sl tb with
   |.c (.ptr i 0),.c (.ptr j 0)=>if s1.n=fn.ntmps then match run (iH ⟨s1.n,fp s1.sl (some td) .dead,s1.mem,λt=>if t=0 then .c (.ptr i 0) else if t=1 then .c (.ptr j 0) else .dead⟩) with
    |some t=>js P T k m fn.results.toList rs t
    |none=>none
    else none
   |_,_=>none
  |_=>none
 else none
section
variable {P:Program} {w w':World} {E:Env} {F F':Nat->Prop} {γ γ':Nat->Value}
def wb {T:TypeId} {k:IntKind} {m:Nat} {rv:List ResultVar} {rs:List Ty}:{t:Tr} -> {f:Fr (ae rs)}->js P T k m rv rs t=some f->f.ok->t.sat λe s=>match e with
  |.ret=>∃ n,dS P rv rs s=some (Fr.needL n (.val f.get))/\aE n
  |.normal=>∃ n,dS P rv rs s=some (Fr.needL n (.val f.get))/\aE n
  |.panic p=>∃ s' n,Fk T k m p s=some s'/\inR k p.n/\dS P rv rs s'=some (Fr.needL n (.val f.get))/\aE n
  |_=>False
 |.leaf e s,f,h,hok=>by
  cases e with
  |exit i=>simp[js] at h
  |val i=>simp[js] at h
  |jump i=>simp[js] at h
  |normal=>exact vM h hok
  |ret=>exact vM h hok
  |panic p=>
   simp only[js] at h;split at h<;>try trivial
   rename_i s' hs';split at h<;>try trivial
   rename_i f' hf';cases h;obtain⟨n,h1,h2⟩:=vM hf' hok.2;exact⟨s',n,hs',hok.1,h1,h2⟩
 |.br b x y,f,h,hok=>by
  simp only[js] at h;split at h<;>try trivial
  rename_i x' y' hx hy;cases h;refine⟨λhb=>?_,λhb=>?_⟩
  ·have:=wb hx (hok.1 hb);simpa only[Fr.get,hb,if_true] using this
  ·have:=wb hy (hok.2 hb);simpa only[Fr.get,hb,ub1,ufu] using this
 |.need p x,f,h,hok=>by
  simp only[js] at h;split at h<;>try trivial
  rename_i x' hx;cases h;have:=wb hx hok.2;exact⟨hok.1,this⟩
 |.two p x y,f,h,hok=>by
  simp only[js] at h;split at h<;>try trivial
  rename_i x' y' hx hy;cases h;have h2:=wb hy hok.2;refine⟨λhp=>?_,h2⟩;have:=wb hx (hok.1 hp).1
  rwa [(hok.1 hp).2] at this
def qo6 {s:St} {a:Act} (hi:InvG P E s a w [] F γ) (h:BG w' w):InvG P E s a w' [] F γ:=by
 obtain⟨h1,h2,h3,h4⟩:=h;have hh:∀ b:Nat,w'.heap[b]? = w.heap[b]? := λb=>by rw[h1]
 have hs:Step E.B w F γ s.mem w' F γ s.mem:=⟨λ_ h=>h,λb _=>hh b,λ_ _ h=>h,λb _=>hh b,h2,h3,h4,by rw[h1]; exact ufa _,λb hb=>by rw[h1]; exact eo hi b hb,λ_ h=>.inl h⟩;refine⟨hi.n,hi.df,?_,hi.mem.keep (λ_ h=>h) (λb _=>hh b) (λid o b ho he=>⟨hh b,(lI (hi.mem.ob id o ho) he).2.1⟩),λt=>(hi.sl t).mono hs.hF hs.hw hs.hR,hi.hg,λt=>hs.repA (hi.gh t)⟩;obtain⟨γ0,h0⟩:=hi.step;exact⟨γ0,h0.trans hs⟩
def W9 {w:World} {F:Nat->Prop} {R:Nat->Value->Prop}:(m:Nat) -> {g:Nat->Value->Prop}->(∀ j,j<m->g j (.int .i64 0))->aR P w F R (Bv m) g
 |0,_,_=>trivial
 |m+1,_,h=>⟨⟨.int .i64 0,h 0 (by omega),rfl,rfl,by decide,by decide⟩,W9 m λj hj=>h (j+1) (by omega)⟩
def qw2 {old new:Array Value} (h:old.size=new.size):d8 old 0 new.toList=new:=by
 apply ufo
 ·rw[Ej (by simp; omega)];exact h
 ·intro i h1 h2;simp only[d8,List.take_zero,List.getElem_toArray];rw[List.getElem_append_left (by simpa using h2)];simp
def zdy {T:TypeId} {k:IntKind} {m:Nat} {p:PV} {s s':St} {a:Act} (hi:InvG P E s a w [] F γ) (h:Fk T k m p s=some s') (hr:inR k p.n) :
  p.ty=T+1000000/\p.k=k/\∃ b1 b2 t1 t2 o1 o2,E.G 0 = .pointer (some ⟨b1,0,none⟩)/\E.G 1 = .pointer (some ⟨b2,0,none⟩)/\b1≠b2/\w.heap[b1]? = some (.cells o1 t1 (0,0))/\o1.size=m/\w.heap[b2]? = some (.cells o2 t2 (0,0))/\o2.size=1 /\
   InvG P E s' a ((w.setRow b1 (Array.replicate m (.int .i64 0))).setRow b2 #[.int k p.n]) [] F γ:=by
 unfold Fk at h;split at h<;>try trivial
 rename_i i j hg0 hg1;split at h<;>try trivial
 rename_i e cs e2 c0 hM1 hM2;split at h<;>try trivial
 rename_i hp;cases h;obtain⟨hp1,hp2,hij,hlen⟩:=hp;have h0:=hi.gh 0;rw[hg0] at h0;have h1:=hi.gh 1;rw[hg1] at h1;obtain⟨b1,o1,e11,e12,e13,e14,e15,e16,e17⟩:=oD hi.mem hM1 h0.2;obtain⟨b2,o2,e21,e22,e23,e24,e25,e26,e27⟩:=oD hi.mem hM2 h1.2;have hne:b1≠b2:=by
  rintro rfl;exact hi.mem.apart i j _ _ b1 hij hM1 hM2 (by rw[e11]; rfl) (by rw[e21]; rfl)
 have ho1:d8 o1 0 (Array.replicate m (.int .i64 0):Array Value).toList=Array.replicate m (.int .i64 0):=qw2 (by simp[e16,hlen]);obtain⟨s1,s2⟩:=qV (off:=0) (cs':=Bv m) (vs:=(Array.replicate m (.int .i64 0):Array Value).toList) hi.mem (eo hi) hM1 e11 e13 e14 e15 (by simp[e16,hlen]) (by simp[Bv,e16,hlen]) (by
  rw[ho1];exact W9 m λj hj=>by simp[hj])
 rw[ho1] at s1 s2;have hM2':upd s.mem i (.box e (Bv m)) j=some (.box e2 [c0]):=(fu _ _ (Ne.symm hij)).trans hM2;obtain⟨old,rfl⟩:=Kz (by simpa using e26);have hov:d8 #[old] 0 [.int k p.n] = #[.int k p.n]:=by simp[d8]
 have hb2:(w.setRow b1 (Array.replicate m (.int .i64 0))).heap[b2]? = some (.cells #[old] e2 (0,0)):=(uey w b1 b2 _ (Ne.symm hne)).trans e23;obtain⟨s3,s4⟩:=qV (off:=0) (cs':=[.int k p.n]) (vs:=[.int k p.n]) s2 s1.bd hM2' e21 hb2 e24 e25 (by simp) rfl ⟨⟨.int k p.n,by rw[hov]; rfl,rfl,rfl,hr⟩,uT⟩;have hst:=s1.trans s3;refine⟨hp1,hp2,b1,b2,e,e2,o1,#[old],e12,e22,hne,e13,e16.trans hlen,e23,rfl,⟨hi.n,hi.df,?_,s4,λt=>(hi.sl t).mono hst.hF hst.hw hst.hR,hi.hg,λt=>hst.repA (hi.gh t)⟩⟩;obtain⟨γ0,h0⟩:=hi.step;exact⟨γ0,h0.trans hst⟩
def qgo {C:Cx} (hC:CxOK P C) {run:St->Option Tr} {f g:FuncId} {T:TypeId} {k:IntKind} {m:Nat} {fn:Func} {A c:Code} {rid:Nat} {ops:Array Oper} {td ta tb:Tmp} {ps:List PT} {rs:List Ty} {fr:aq ps->Fr (ae rs)} (x0:aq ps)
  (hf:P.funcs[f]? = some fn) (hb:fn.body=some (.seq A (.seq (.region rid ops false) c))) (hd:P8 ops.toList=some (g,td,ta,tb)) (hT:ToldTwo P g T k m) (hR:∀ E,mK P E c run)
  (hrun:∀ xs,Lr P C run T k m fn A td ta tb ps rs xs=some (fr xs)):aa P f ⟨ps,rs,λxs=>(fr xs).get,λxs=>[(fr xs).ok]⟩:=by
 have h0:=hrun x0
 unfold Lr at h0
 split at h0<;>try (cases h0; done)
 rename_i hc
 refine⟨enters hf hb hc.1,λw F xs vs hbd hr hok=>ucc hf hb ?_⟩
 have hr':=hrun xs
 unfold Lr at hr'
 simp only[hc,ufs,if_true] at hr'
 split at hr'<;>try (cases hr'; done)
 rename_i s1 ht1
 split at hr'<;>try (cases hr'; done)
 rename_i i j hsl1 hsl2
 split at hr'<;>try (cases hr'; done)
 rename_i hsn
 split at hr'<;>try (cases hr'; done)
 rename_i t ht2
 have hlen:vs.length=ps.length:=wR hr
 have hstart:=xu (D:=[]) (n:=fn.ntmps) hbd (λR=>qm hr) (by have:=hc.2.1; omega)
 have hsz:(vs.toArray).size=vs.length:=by simp
 refine wp_seq (wp_mono (gF hC A 0 (bL A 0) ht1 (Q:=λe s=>e = .normal/\s=s1) ⟨rfl,rfl⟩ hstart) ?_)
 rintro e a1 w1 ⟨xe,s,rfl,⟨F1,γ1,hi⟩,rfl,rfl⟩
 have hva:=sM hi ta
 rw[hsl1] at hva
 obtain⟨_,b1,hR1,hva⟩:=hva
 have hvb:=sM hi tb
 rw[hsl2] at hvb
 obtain⟨_,b2,hR2,hvb⟩:=hvb
 refine wp_seq (ufq ?_)
 obtain⟨ol⟩:=ops
 simp only at hd
 unfold P8 at hd
 split at hd<;>try (cases hd; done)
 rename_i td0 f0 first caps ty pos aft td1 args ats ty' pos' aft'
 split at hd<;>try (cases hd; done)
 rename_i ta0 tb0 hfirst hcaps hargs
 split at hd<;>try (cases hd; done)
 rename_i htd
 subst htd
 simp at hd
 obtain⟨rfl,rfl,rfl,rfl⟩:=hd
 have h1':first = #[]:=by
  obtain⟨l⟩:=first
  simp only at hfirst
  rw[hfirst]
 have h2':caps = #[.tmp ta0,.tmp tb0]:=by
  obtain⟨l⟩:=caps
  simp only at hcaps
  rw[hcaps]
 have h3':args = #[]:=by
  obtain⟨l⟩:=args
  simp only at hargs
  rw[hargs]
 subst h1'
 subst h2'
 subst h3'
 have hev1:a1.eval (.tmp ta0) = .pointer (some ⟨b1,0,none⟩):=hva
 have hev2:a1.eval (.tmp tb0) = .pointer (some ⟨b2,0,none⟩):=hvb
 let cl:Value:=.func (.func f0) #[] #[.pointer (some ⟨b1,0,none⟩),.pointer (some ⟨b2,0,none⟩)]
 let o0:Oper:=⟨some td1,.makeFunc (.func f0) #[] #[.tmp ta0,.tmp tb0],ty,pos,aft,none⟩
 let o1:Oper:=⟨none,.defer ⟨.value (.tmp td1),#[],ats⟩,ty',pos',aft',none⟩
 have hx0:(execOp a1.eval o0).run P w1 = .ok (.value cl) w1:=by
  have hmf:∀ (fn:Fn) (first cap:Array Value) (w:World),(Instr.makeFunc fn first cap).run P w = .ok (.func fn first cap) w:=λ_ _ _ _=>rfl
  simp[execOp,o0,hev1,hev2,hmf,cl]
 have hput:(a1.put (some td1) cl).eval (.tmp td1)=cl:=by
  show(a1.put (some td1) cl).tmps.getD td1 undef=cl
  rw[E6 _ _ _ _ (λx hx=>by cases hx; rw[hi.n,hsn]; exact hc.2.2),if_pos rfl]
 have hx1:(execOp (a1.put (some td1) cl).eval o1).run P w1 = .ok (.defer { target:=.fn (.func f0) #[.pointer (some ⟨b1,0,none⟩),.pointer (some ⟨b2,0,none⟩)],args:=#[] }) w1:=by
  simp[execOp,resolve,o1,hput,cl,Deferred.ofValue]
 have hrange:List.range ((#[o0,o1]:Array Oper)).size=[0,1]:=rfl
 show wpOps P #[o0,o1] _ (List.range ((#[o0,o1]:Array Oper)).size) a1 w1
 rw[hrange]
 unfold wpOps
 simp
 refine .inl ?_
 unfold Oper.wp
 rw[hx0,Oper.upon_value]
 unfold wpOps
 simp
 refine .inl ?_
 unfold Oper.wp
 rw[show o0.dst=some td1 from rfl,hx1,Oper.upon_defer]
 have hip:=qC (ng (d:=some td1) (v:=.dead) (u:=cl) (wr:=[]) hi (λx hx=>by cases hx; exact⟨by rw[hsn]; exact hc.2.2,by simp⟩) (Step.refl (eo hi)) hi.mem trivial (λ_ _ _ h=>by cases h))
 let D:List Deferred:=[{ target:=.fn (.func f0) #[.pointer (some ⟨b1,0,none⟩),.pointer (some ⟨b2,0,none⟩)],args:=#[] }]
 let E2:Env:=⟨w,F,λt=>if t=0 then .pointer (some ⟨b1,0,none⟩) else .pointer (some ⟨b2,0,none⟩),D,w.heap.size,ufa _⟩
 have hi':InvG P E2 (iH ⟨s.n,fp s.sl (some td1) .dead,s.mem,λt=>if t=0 then .c (.ptr i 0) else if t=1 then .c (.ptr j 0) else .dead⟩) { (a1.put (some td1) cl) with defers:={ target:=.fn (.func f0) #[.pointer (some ⟨b1,0,none⟩),.pointer (some ⟨b2,0,none⟩)],args:=#[] }::(a1.put (some td1) cl).defers } w1 [] F1 γ1:=by
  refine⟨hip.n,?_,hip.step,hip.mem,hip.sl,hip.hg,λt=>?_⟩
  ·show _::(a1.put (some td1) cl).defers=D
   rw[show(a1.put (some td1) cl).defers=a1.defers from rfl,hi.df]
  ·show aM P w1 F1 (aA s.mem γ1) (if t=0 then .c (.ptr i 0) else if t=1 then .c (.ptr j 0) else .dead) (if t=0 then .pointer (some ⟨b1,0,none⟩) else .pointer (some ⟨b2,0,none⟩))
   by_cases ht0:t=0
   ·rw[if_pos ht0,if_pos ht0]
    exact⟨rfl,b1,hR1,rfl⟩
   ·rw[if_neg ht0,if_neg ht0]
    by_cases ht1':t=1
    ·rw[if_pos ht1']
     exact⟨rfl,b2,hR2,rfl⟩
    ·rw[if_neg ht1']
     trivial
 have hwp:=hR E2 _ _ ht2 _ (wb hr' hok) _ _ ⟨F1,γ1,hi'⟩
 refine wp_mono hwp ?_
 rintro e a2 w2 ⟨xe,s2,rfl,⟨F2,γ2,hi2⟩,hx⟩
 have hinv:∀ W,(invoke (.fn (.func f0) #[.pointer (some ⟨b1,0,none⟩),.pointer (some ⟨b2,0,none⟩)]) #[]).run P W = .ok (.enter f0 #[.pointer (some ⟨b1,0,none⟩),.pointer (some ⟨b2,0,none⟩)]) W:=λW=>by
  have:=hT.enter #[.pointer (some ⟨b1,0,none⟩),.pointer (some ⟨b2,0,none⟩)] W
  simp[invoke,this]
 have hdf:a2.defers=[{ target:=.fn (.func f0) #[.pointer (some ⟨b1,0,none⟩),.pointer (some ⟨b2,0,none⟩)],args:=#[] }]:=hi2.df
 have hfin:(∃ n,dS P fn.results.toList rs s2=some (Fr.needL n (.val (fr xs).get))/\aE n)->Leaves P fn a2.tmps (fy w F rs (fr xs).get) a2.defers .returning w2:=by
  rintro⟨n,hend,hn⟩
  rw[hdf]
  refine uff (by simp) (hinv w2) ((hT.idle _ _ w2).mono ?_)
  rintro e u' w' ⟨⟨v,rfl⟩,rfl,rfl⟩
  exact vN hi2 rfl hend hn
 cases xe with
 |normal=>exact hfin hx
 |ret=>exact hfin hx
 |exit _=>exact hx.elim
 |val _=>exact hx.elim
 |jump _=>exact hx.elim
 |panic p=>
  obtain⟨s',n,hs',hin,hend,hn⟩:=hx
  obtain⟨hty,hk,c1,c2,t1,t2,o1,o2,hG1,hG2,hne,hh1,hs1,hh2,hs2,hi3⟩:=zdy hi2 hs' hin
  have hG1':(Value.pointer (some ⟨b1,0,none⟩)) = .pointer (some ⟨c1,0,none⟩):=hG1
  have hG2':(Value.pointer (some ⟨b2,0,none⟩)) = .pointer (some ⟨c2,0,none⟩):=hG2
  simp at hG1' hG2'
  subst hG1'
  subst hG2'
  show Leaves P fn a2.tmps _ a2.defers (.panicking [{ v:=p.val,recovered:=false }]) w2
  rw[W5 hty,hdf,hk]
  refine uff (by simp) (hinv w2) ((hT.told b1 b2 t1 t2 o1 o2 p.n w2 hne hh1 hs1 hh2 hs2).mono ?_)
  rintro e u' w' ⟨⟨v,rfl⟩,rfl,hsw⟩
  exact vN (qo6 hi3 hsw) rfl hend hn
end
end Go.Ab

namespace Go.Ab
open Go Go.RowKit
section
variable {P:Program} {w w':World} {F:Nat->Prop}
def EJ (w:World) (dT sT ty elem:TypeId) (k g o dLen dCap:Nat) (a:Addr) (sLen sCap:Nat) (cs:List Value) (cur:Array Value) (t:TypeId)
  (hu:P.underlying dT=some (.slice elem)) (hs:(P.info? elem).map (·.size)=some k) (hn:cs.length=Nat.min sLen dLen*k)
  (hsrc:∀ j v,cs[j]? = some v->w.cell? (a.add j)=some v) (hg:w.heap[g]? = some (.cells cur t (0,0))) (hfit:o+cs.length<=cur.size) (h1:∀ v∈cs,v.oneCell'=true) :
  (Builtin.copy_ #[dT,sT] ty #[.slice (some ⟨g,o,none⟩) dLen dCap,.slice (some a) sLen sCap]).run P w = .ok (goInt (Nat.min sLen dLen)) (w.setRow g (cur.toList.take o++cs++cur.toList.drop (o+cs.length)).toArray):=by
 have hl:=run_loadCells_list (P:=P) w a cs hsrc;have hst:=run_storeCells_at P g o t cs 0 cur w hg (by simpa using hfit) h1;cases hq:P.info? elem with
 |none=>simp[hq] at hs
 |some i=>
  have hi:i.size=k:=by simpa[hq] using hs
  simp[Builtin.copy_,ud3 hu,Builtin.lenOf,Builtin.firstCells,sizeOf,typeInfo,hq,hi,<- hn,hl,hst]
def zah {α:Type} (l m:List α) (p q:Nat) (h:p<=q) (hq:q<=l.length):(l.take q++m).take p=l.take p:=by
 rw[List.take_append_of_le_length (by simp; omega),ud6,udn h]
def qo2 {α:Type} (cur xs news:List α) (q p k:Nat) (hx:cur.take q=xs) (hl:q+k<=cur.length) (hp:p<=q) (hn:news.length=k) (C1 C2:List α)
  (h1:C1=cur.take (p+k)++xs.drop p++cur.drop (p+k+(xs.drop p).length)) (h2:C2=C1.take p++news++C1.drop (p+news.length)) :
  C1.length=cur.length/\C2.length=cur.length/\C2.take (q+k)=xs.take p++news++xs.drop p:=by
 have hxl:xs.length=q:=by rw[<- hx,uc3]; omega
 have hc1:C1.length=cur.length:=by rw[h1]; simp; omega
 have e1:C1.take p=xs.take p:=by
  rw[h1,ucp,zah cur _ p (p+k) (by omega) (by omega),<- hx,ud6,udn hp]
 have e2:C1.drop (p+k)=xs.drop p++cur.drop (p+k+(xs.drop p).length):=by
  rw[h1,ucp];exact udy (by rw[uc3]; omega)
 rw[hn,e1,e2] at h2;refine⟨hc1,?_,?_⟩
 ·rw[h2]; simp; omega
 ·rw[h2,<- ucp];exact udx (by simp; omega)
def qo1 {α:Type} (row xs news:List α) (q p k:Nat) (hxl:xs.length=q) (hp:p<=q) (hx:row.take p=xs.take p) (hl:q+k<=row.length) (hn:news.length=k) (C1 C2:List α)
  (h1:C1=row.take p++news++row.drop (p+news.length)) (h2:C2=C1.take (p+k)++xs.drop p++C1.drop (p+k+(xs.drop p).length)) :
  C1.length=row.length/\C2.length=row.length/\C2.take (q+k)=xs.take p++news++xs.drop p:=by
 have hc1:C1.length=row.length:=by rw[h1]; simp; omega
 have e1:C1.take (p+k)=xs.take p++news:=by
  rw[h1,hx];exact udx (by simp; omega)
 have hc2:C2.length=row.length:=by rw[h2]; simp; omega
 refine⟨hc1,hc2,?_⟩;rw[h2,e1];exact udx (by simp; omega)
end
def Ws {P:Program} (w:World) {o:Oper} {a:Act} {K:Act->World->Prop} {Q:Exit->Act->World->Prop} (d s:Operand) (t t':TypeId)
  (ho:o.op = .call { callee:=.builtin .copy,args:=#[d,s],argTypes:=#[t,t'] }) (v u:Value) (hd:a.eval d=v) (hs:a.eval s=u) {v':Value} {w':World}
  (hr:(Builtin.copy_ #[t,t'] o.type #[v,u]).run P w = .ok v' w') (h:K (a.put o.dst v') w'):o.wp P a w K Q:=by
 unfold Oper.wp execOp;simp only[ho,resolve,invoke,builtin,uer,uet,uck,List.map_toArray,uei,List.map_nil,hd,hs,hr];exact h
def pJ {P:Program} (w:World) {ops:Array Oper} {rest:List Oper} {o:Oper} {a:Act} {Q:Exit->Act->World->Prop} (hgd:o.guard=none) (d s:Operand) (t t':TypeId)
  (ho:o.op = .call { callee:=.builtin .copy,args:=#[d,s],argTypes:=#[t,t'] }) (v u:Value) (hd:a.eval d=v) (hs:a.eval s=u) {v':Value} {w':World}
  (hr:(Builtin.copy_ #[t,t'] o.type #[v,u]).run P w = .ok v' w') (h:wpList P ops Q rest (a.put o.dst v') w'):wpList P ops Q (o::rest) a w:=
 wpList_plain hgd λ_ hK=>Ws w d s t t' ho v u hd hs hr (hK _ _ h)
def xy {P:Program} {ops:Array Oper} {o:Oper} {a:Act} {w:World} {K:Act->World->Prop} {Q:Exit->Act->World->Prop} {E:Prop}
  (hg:o.guard=none) (d x:Operand) (dT sT:TypeId) (hop:o.op=Op.call { callee:=Callee.builtin Builtin.copy,args:=#[d,x],argTypes:=#[dT,sT] })
  (v u:Value) (hd:a.eval d=v) (hx:a.eval x=u) {v':Value} {w':World} (hr:(Builtin.copy_ #[dT,sT] o.type #[v,u]).run P w = .ok v' w') (hK:K (a.put o.dst v') w') :
  if Region.wanted o (yielded ops a.tmps)=true then Oper.wp P o a w K Q else E:=by
 have hw:Region.wanted o (yielded ops a.tmps)=true:=by simp[Region.wanted,hg]
 rw[if_pos hw];exact Ws w d x dT sT hop v u hd hx hr hK
def yM {w:World} {g q:Nat} {cur:Array Value} {t:TypeId} {xs:List Value} (hg:w.heap[g]? = some (.cells cur t (0,0))) (ht:cur.toList.take q=xs) {j:Nat} {v:Value} (hj:xs[j]? = some v):w.cell? ⟨g,j,none⟩=some v:=by
 rw[cell_of_row w g j cur t (0,0) hg];rw[<- ht,ub0] at hj;split at hj
 ·simpa using hj
 ·cases hj
end Go.Ab

namespace Go.Ab
open Go Go.RowKit Go.Lib
section
variable {P:Program} {ts te tn:TypeId} {i0:TypeInfo} {z:Value} {q by_:Nat} {f:FuncId}
structure InsTy (P:Program) (ts te tn:TypeId) (i0:TypeInfo) (z:Value) (q by_:Nat):Prop where
 us:P.underlying ts=some (.slice te)
 un:P.underlying tn=some (.int .i64)
 hi:P.info? te=some i0
 hz:i0.zero=some z
 hq:i0.size=q
 hb:i0.bytes=by_
 hc:z.cells.size=q
 h0:0<q
def InsTy.sz (T:InsTy P ts te tn i0 z q by_):(P.info? te).map (·.size)=some q:=by rw[T.hi]; simp[T.hq]
def BA (P:Program) (f:FuncId) (te:TypeId) (q by_:Nat):Prop:=
 ∀ (w:World) (B n:Nat) (s v:Value) (xs news:List Value),B<=w.heap.size->w.ownsRow B te q s n xs->w.ownsRow B te q v 1 news->(∀ u∈news,u.oneCell'=true)->n+1<=maxLen->(n+1)*by_<=140737488355328 ->
  Calls P f #[s,.int .i64 n,v] w λen w'=>∃ v',en = .returned v'/\w.grownBy w' s.ownBlock/\w'.ownsRow B te q v' (n+1) (xs++news)/\(v'.ownBlock=s.ownBlock\/v'.ownBlock=some w.heap.size)
def BC (P:Program) (f:FuncId) (te:TypeId) (q:Nat):Prop:=
 ∀ (w:World) (n i g cap vb vc:Nat) (cur:Array Value) (xs news:List Value),i<n->w.heap[g]? = some (.cells cur te (0,0))->cur.size=cap*q->n+1<=cap->cap<=maxLen->cur.toList.take (n*q)=xs ->
  ∀ (vcur:Array Value),w.heap[vb]? = some (.cells vcur te (0,0))->vb≠g->news.length=q->vcur.toList.take q=news->1<=vc->vcur.size=vc*q->(∀ u∈xs,u.oneCell'=true)->(∀ u∈news,u.oneCell'=true) ->
  Calls P f #[.slice (some ⟨g,0,none⟩) n cap,.int .i64 i,.slice (some ⟨vb,0,none⟩) 1 vc] w λen w'=>∃ cur',en = .returned (.slice (some ⟨g,0,none⟩) (n+1) cap)/\w'=w.drew.setRow g cur'/\cur'.size=cur.size/\cur'.toList.take ((n+1)*q)=xs.take (i*q)++news++xs.drop (i*q)
def BB (P:Program) (f:FuncId) (te:TypeId) (q by_:Nat):Prop:=
 ∀ (w:World) (n i g cap vb vc:Nat) (cur:Array Value) (xs news:List Value),i<n->w.heap[g]? = some (.cells cur te (0,0))->cur.size=cap*q->n<=cap->cap<n+1->cur.toList.take (n*q)=xs ->
  ∀ (vcur:Array Value),w.heap[vb]? = some (.cells vcur te (0,0))->news.length=q->vcur.toList.take q=news->(∀ u∈xs,u.oneCell'=true)->(∀ u∈news,u.oneCell'=true)->n+1<=maxLen->(n+1)*by_<=140737488355328 ->
  Calls P f #[.slice (some ⟨g,0,none⟩) n cap,.int .i64 i,.slice (some ⟨vb,0,none⟩) 1 vc] w λen w'=>∃ G C,en = .returned (.slice (some ⟨w.heap.size,0,none⟩) (n+1) G)/\w.grownBy w' none/\w'.heap[w.heap.size]? = some (.cells C te (0,0))/\n+1<=G/\G<=maxLen/\C.size=G*q /\
   C.toList.take ((n+1)*q)=xs.take (i*q)++news++xs.drop (i*q)
def Tv {w:World} {B q:Nat} {v:Value} {news:List Value} (hv:w.ownsRow B te q v 1 news):∃ g cap cur,v = .slice (some ⟨g,0,none⟩) 1 cap/\B<=g/\w.heap[g]? = some (.cells cur te (0,0))/\1<=cap/\cap<=maxLen/\cur.size=cap*q/\cur.toList.take (1*q)=news:=by
 rcases hv.2 with ⟨_,h0⟩|h'
 ·exact absurd h0 (by omega)
 ·exact h'
def JX {T:Ty} (hen:∀ args w,(callFunc f args).run P w = .ok (.enter f args) w) (he:BA P f te T.size by_) (hg:BB P f te T.size by_) (hs':BC P f te T.size):InsOK P f te T by_:=by
 refine⟨hen,λw B n i s v xs news hB hs hv hne hi h1x h1 h63 hby=>?_⟩;rcases ueo i n with hin|hin
 ·obtain⟨vb,vc,vcur,rfl,hvb,hvg,hv1,hv2,hv3,hv4⟩:=Tv hv;have hnl:news.length=T.size:=by have:=hv.1; omega
  rw[Nat.one_mul] at hv4;rcases hs.2 with ⟨rfl,h0⟩|⟨g,cap,cur,rfl,hbg,hgg,hnc,hcm,hcs,htake⟩
  ·omega
  ·have hne':vb≠g:=λe=>hne vb rfl (by rw[e]; rfl);rcases ueo cap (n+1) with hr|hr
   ·refine(hg w n i g cap vb vc cur xs news hin hgg hcs hnc hr htake vcur hvg hnl hv4 h1x h1 h63 hby).mono λen w' hp=>?_;obtain⟨G,C,rfl,hgr,hh,a1,a2,a3,a4⟩:=hp;refine⟨_,rfl,⟨hgr.os,hgr.tape,hgr.output,hgr.size,λk hk _=>hgr.block k hk (by simp)⟩,⟨?_,.inr ⟨_,_,_,rfl,hB,hh,a1,a2,a3,a4⟩⟩,.inr rfl⟩;rw[<- a4,uc3,ubs,a3];exact udn (ubc _ a1)
   ·refine(hs' w n i g cap vb vc cur xs news hin hgg hcs hr hcm htake vcur hvg hne' hnl hv4 hv1 hv3 h1x h1).mono λen w' hp=>?_;obtain⟨cur',rfl,rfl,a3,a4⟩:=hp;have a5:=a3.trans hcs;refine⟨_,rfl,⟨rfl,rfl,rfl,by simp,λk _ hk=>uey w.drew g k _ (λe=>hk (by simp[Value.ownBlock,e]))⟩,⟨?_,.inr ⟨g,cap,cur',rfl,hbg,ufd w.drew g cur cur' _ _ hgg,hr,hcm,a5,a4⟩⟩,.inl rfl⟩;rw[<- a4,uc3,ubs,a5];exact udn (ubc _ hr)
 ·have e:i=n:=by omega
  subst e;refine(he w B i s v xs news hB hs hv h1 h63 hby).mono λen w' hp=>?_;obtain⟨v',rfl,a1,a2,a3⟩:=hp;refine⟨v',rfl,a1,?_,a3⟩;have hx:=hs.1;rw[ua1 (by omega),ua0 (by omega),udp];exact a2
def Se {cur:Array Value} {xs:List Value} {n cap q:Nat} (hcs:cur.size=cap*q) (hnc:n<=cap) (htake:cur.toList.take (n*q)=xs):xs.length=n*q:=by
 rw[<- htake,uc3,ubs,hcs];exact udn (ubc _ hnc)
def InsTy.shift (T:InsTy P ts te tn i0 z q by_) {w:World} {n i g cap vb vc:Nat} {cur:Array Value} {xs news:List Value} (hi:i<n) (hg:w.heap[g]? = some (.cells cur te (0,0))) (hcs:cur.size=cap*q) (hroom:n+1<=cap) (htake:cur.toList.take (n*q)=xs)
  {vcur:Array Value} (hvg:w.heap[vb]? = some (.cells vcur te (0,0))) (hne:vb≠g) (hnl:news.length=q) (hvt:vcur.toList.take q=news) (h1x:∀ u∈xs,u.oneCell'=true) (h1:∀ u∈news,u.oneCell'=true) :
  ∃ C1 C2:Array Value,(∀ ty dc sc,(Builtin.copy_ #[ts,ts] ty #[.slice (some ⟨g,(i+1)*q,none⟩) (n-i) dc,.slice (some ⟨g,i*q,none⟩) (n+1-i) sc]).run P w.drew = .ok (goInt (Nat.min (n+1-i) (n-i))) (w.drew.setRow g C1)) /\
   (∀ ty dc,(Builtin.copy_ #[ts,ts] ty #[.slice (some ⟨g,i*q,none⟩) (n+1-i) dc,.slice (some ⟨vb,0,none⟩) 1 vc]).run P (w.drew.setRow g C1) = .ok (goInt (Nat.min 1 (n+1-i))) (w.drew.setRow g C2)) /\
   C2.size=cur.size/\C2.toList.take ((n+1)*q)=xs.take (i*q)++news++xs.drop (i*q):=by
 have e1:(i+1)*q=i*q+q:=uev _ _;have e2:(n+1)*q=n*q+q:=uev _ _;have e3:(n-i)*q=n*q-i*q:=Nat.sub_mul _ _ _;have m1:(i+1)*q<=n*q:=ubc _ hi;have m2:(n+1)*q<=cap*q:=ubc _ hroom;have hxl:=Se hcs (by omega) htake;have hdl:(xs.drop (i*q)).length=(n-i)*q:=by rw[uc4,hxl]; omega
 obtain⟨C1,hC1⟩:∃ C1:Array Value,C1=(cur.toList.take ((i+1)*q)++xs.drop (i*q)++cur.toList.drop ((i+1)*q+(xs.drop (i*q)).length)).toArray:=⟨_,rfl⟩;obtain⟨C2,hC2⟩:∃ C2:Array Value,C2=(C1.toList.take (i*q)++news++C1.toList.drop (i*q+news.length)).toArray:=⟨_,rfl⟩;obtain⟨k1,k2,k3⟩:=qo2 cur.toList xs news (n*q) (i*q) q htake (by simp; omega) (by omega) hnl C1.toList C2.toList (by rw[hC1]; simp only[e1]) (by rw[hC2]);refine⟨C1,C2,λty dc sc=>?_,λty dc=>?_,by rw[<- ubs,k2,ubs],by rw[e2]; exact k3⟩
 ·rw[hC1];exact EJ w.drew _ _ ty te q g ((i+1)*q) (n-i) dc ⟨g,i*q,none⟩ (n+1-i) sc (xs.drop (i*q)) cur te T.us T.sz (by rw[hdl,show Nat.min (n+1-i) (n-i)=n-i from Nat.min_eq_right (by omega)])
   (λj v hj=>by rw[ue8]; exact yM hg htake (by rwa [ubz] at hj)) hg (by rw[hdl]; omega) (λv hv=>h1x v (ubp hv))
 ·rw[hC2];have h:=EJ (w.drew.setRow g C1) ts ts ty te q g (i*q) (n+1-i) dc ⟨vb,0,none⟩ 1 vc news C1 te T.us T.sz (by rw[hnl,show Nat.min 1 (n+1-i)=1 from udn (by omega),Nat.one_mul])
   (λj v hj=>by
    rw[ue8,uew];exact yM ((uey w.drew g vb C1 hne).trans hvg) hvt hj) (ufd w.drew g cur C1 _ _ hg) (by rw[hnl,<- ubs,k1,ubs]; omega) h1
  rw[setRow_setRow] at h;exact h
def InsTy.grow (T:InsTy P ts te tn i0 z q by_) {w:World} {n i g cap vb vc:Nat} {cur:Array Value} {xs news:List Value} (hi:i<n) (hg:w.heap[g]? = some (.cells cur te (0,0))) (hcs:cur.size=cap*q) (hnc:n<=cap) (hroom:cap<n+1) (htake:cur.toList.take (n*q)=xs)
  {vcur:Array Value} (hvg:w.heap[vb]? = some (.cells vcur te (0,0))) (hnl:news.length=q) (hvt:vcur.toList.take q=news) (h1x:∀ u∈xs,u.oneCell'=true) (h1:∀ u∈news,u.oneCell'=true) (h63:n+1<=maxLen) (hby:(n+1)*by_<=140737488355328) :
  ∃ (G:Nat) (ROW C1 C2:Array Value),(∀ ty,(Builtin.append_ #[ts,tn] ty #[.slice (some ⟨g,0,none⟩) i cap,.int .i64 ((n:Int)+1-(i:Int))]).run P w = .ok (.slice (some ⟨w.heap.size,0,none⟩) (n+1) G) (w.drew.alloc (.cells ROW te))) /\
   (∀ ty dc,(Builtin.copy_ #[ts,ts] ty #[.slice (some ⟨w.heap.size,i*q,none⟩) (n+1-i) dc,.slice (some ⟨vb,0,none⟩) 1 vc]).run P (w.alloc (.cells ROW te)).drew = .ok (goInt (Nat.min 1 (n+1-i))) ((w.alloc (.cells ROW te)).drew.setRow w.heap.size C1)) /\
   (∀ ty dc sc,(Builtin.copy_ #[ts,ts] ty #[.slice (some ⟨w.heap.size,(i+1)*q,none⟩) (n-i) dc,.slice (some ⟨g,i*q,none⟩) (n-i) sc]).run P ((w.alloc (.cells ROW te)).drew.setRow w.heap.size C1).drew = .ok (goInt (Nat.min (n-i) (n-i))) (((w.alloc (.cells ROW te)).drew.setRow w.heap.size C1).drew.setRow w.heap.size C2)) /\
   n+1<=G/\G<=maxLen/\w.grownBy (((w.alloc (.cells ROW te)).drew.setRow w.heap.size C1).drew.setRow w.heap.size C2) none/\(((w.alloc (.cells ROW te)).drew.setRow w.heap.size C1).drew.setRow w.heap.size C2).heap[w.heap.size]? = some (.cells C2 te (0,0)) /\
   C2.size=G*q/\C2.toList.take ((n+1)*q)=xs.take (i*q)++news++xs.drop (i*q):=by
 have h63':n+1<=9223372036854775807:=by unfold maxLen at h63; omega
 have e1:(i+1)*q=i*q+q:=uev _ _;have e2:(n+1)*q=n*q+q:=uev _ _;have e3:(n-i)*q=n*q-i*q:=Nat.sub_mul _ _ _;have m1:(i+1)*q<=n*q:=ubc _ hi;have hxl:=Se hcs hnc htake;have hdl:(xs.drop (i*q)).length=(n-i)*q:=by rw[uc4,hxl]; omega
 have hgw:=(uaf.1 hg).1;have hvw:=(uaf.1 hvg).1;have hkk:(n:Int)+1-(i:Int)=((n+1-i:Nat):Int):=by omega
 have hik:i+(n+1-i)=n+1:=by omega
 have hold:(Builtin.firstCells i0.size i (.slice (some ⟨g,0,none⟩) i cap)).run P w.drew = .ok (xs.take (i*q)).toArray w.drew:=by
  rw[T.hq];exact run_firstCells_some w.drew q i ⟨g,0,none⟩ i cap (xs.take (i*q)) (by rw[uc3]; omega) (λj v hj=>by
   rw[ue8,uew];rw[ub0] at hj;split at hj
   ·exact yM hg htake hj
   ·cases hj)
 obtain⟨G,hG⟩:∃ G,G=grownCap w (n+1) cap te:=⟨_,rfl⟩;have hGn:n+1<=G:=by rw[hG]; exact grownCap_ge w _ _ _
 have hGm:G<=maxLen:=by rw[hG]; exact ub5 w _ _ _ h63
 have m3:(n+1)*q<=G*q:=ubc _ hGn;obtain⟨ROW,hROW⟩:∃ ROW:Array Value,ROW=(xs.take (i*q)).toArray++Builtin.zeroCells z.cells (n+1-i)++Builtin.zeroCells z.cells (G-(n+1)):=⟨_,rfl⟩;have hrz:∀ ty,(Builtin.append_ #[ts,tn] ty #[.slice (some ⟨g,0,none⟩) i cap,.int .i64 ((n:Int)+1-(i:Int))]).run P w =
   .ok (.slice (some ⟨w.heap.size,0,none⟩) (n+1) G) (w.drew.alloc (.cells ROW te)):=λty=>by
  have h:=Lib.run_append_grow_zeros w ts tn ty te i0 _ .i64 .i64 T.us T.un T.hi T.hz (some ⟨g,0,none⟩) i cap (xs.take (i*q)) hold (n+1-i) (by omega) (by have:=T.h0; have:=T.hq; omega) (by omega) (by omega) (by
   rw[T.hb];have:(n+1-i)*by_<=(n+1)*by_:=ubc _ (by omega);omega) (by rw[T.hb,hik]; exact growslice_fits hroom hby)
  rw[hik,<- hG,<- hROW] at h;rw[hkk];exact h
 have e4:(n+1-i)*q=(n+1)*q-i*q:=Nat.sub_mul _ _ _;have e5:(G-(n+1))*q=G*q-(n+1)*q:=Nat.sub_mul _ _ _;have hRs:ROW.size=G*q:=by
  rw[hROW];simp only[ucn,uco,size_zeroCells,T.hc,uc3];omega
 have hRt:ROW.toList.take (i*q)=xs.take (i*q):=by
  rw[hROW,Array.toList_append,Array.toList_append,ucp];exact udx (by rw[uc3]; omega)
 obtain⟨C1,hC1⟩:∃ C1:Array Value,C1=(ROW.toList.take (i*q)++news++ROW.toList.drop (i*q+news.length)).toArray:=⟨_,rfl⟩;obtain⟨C2,hC2⟩:∃ C2:Array Value,C2=(C1.toList.take ((i+1)*q)++xs.drop (i*q)++C1.toList.drop ((i+1)*q+(xs.drop (i*q)).length)).toArray:=⟨_,rfl⟩;obtain⟨k1,k2,k3⟩:=qo1 ROW.toList xs news (n*q) (i*q) q hxl (by omega) hRt (by rw[ubs]; omega) hnl C1.toList C2.toList (by rw[hC1]) (by rw[hC2]; simp only[e1]);have hnew:(w.drew.alloc (.cells ROW te)).heap[w.heap.size]? = some (.cells ROW te (0,0)):=ud5 w.drew _;refine⟨G,ROW,C1,C2,hrz,λty dc=>?_,λty dc sc=>?_,hGn,hGm,⟨rfl,rfl,rfl,?_,λk hk _=>?_⟩,?_,by rw[<- ubs,k2,ubs,hRs],by rw[e2]; exact k3⟩
 ·rw[hC1];exact EJ _ _ _ ty te q w.heap.size (i*q) (n+1-i) dc ⟨vb,0,none⟩ 1 vc news ROW te T.us T.sz (by rw[hnl,show Nat.min 1 (n+1-i)=1 from udn (by omega),Nat.one_mul])
   (λj v hj=>by
    rw[ue8,uew];exact yM ((pU w.drew _ vb hvw).trans hvg) hvt hj) hnew (by omega) h1
 ·rw[hC2];exact EJ _ _ _ ty te q w.heap.size ((i+1)*q) (n-i) dc ⟨g,i*q,none⟩ (n-i) sc (xs.drop (i*q)) C1 te T.us T.sz (by rw[hdl,show Nat.min (n-i) (n-i)=n-i from Nat.min_self _])
   (λj v hj=>by
    rw[ue8];exact yM (((uey (w.alloc (.cells ROW te)).drew w.heap.size g C1 (by omega)).trans (pU w.drew _ g hgw)).trans hg) htake (by rwa [ubz] at hj))
   (ufd (w.alloc (.cells ROW te)).drew w.heap.size ROW C1 _ _ hnew) (by rw[hdl,<- ubs,k1,ubs]; omega) (λv hv=>h1x v (ubp hv))
 ·simp
 ·exact(uey ((w.alloc (.cells ROW te)).drew.setRow w.heap.size C1).drew w.heap.size k C2 (by omega)).trans ((uey (w.alloc (.cells ROW te)).drew w.heap.size k C1 (by omega)).trans (pU w _ k hk))
 ·exact ufd ((w.alloc (.cells ROW te)).drew.setRow w.heap.size C1).drew w.heap.size C1 C2 _ _ (ufd (w.alloc (.cells ROW te)).drew w.heap.size ROW C1 _ _ hnew)
def InsTy.fin (T:InsTy P ts te tn i0 z q by_) {w:World} {B n:Nat} {s v:Value} {xs news:List Value} (hB:B<=w.heap.size) (hs:w.ownsRow B te q s n xs) (hv:w.ownsRow B te q v 1 news) (h1:∀ u∈news,u.oneCell'=true) (h63:n+1<=maxLen) (hby:(n+1)*by_<=140737488355328) :
  ∃ vb vc v' w',v = .slice (some ⟨vb,0,none⟩) 1 vc/\(∀ ty,(Builtin.append_ #[ts,ts] ty #[s,.slice (some ⟨vb,0,none⟩) 1 vc]).run P w = .ok v' w')/\w.grownBy w' s.ownBlock/\w'.ownsRow B te q v' (n+1) (xs++news)/\(v'.ownBlock=s.ownBlock\/v'.ownBlock=some w.heap.size):=by
 obtain⟨vb,vc,vcur,rfl,hvb,hvg,hv1,hv2,hv3,hv4⟩:=Tv hv;obtain⟨v',w',hr,e2,e3,e4⟩:=yi ts ts te i0 _ q T.us T.hi T.hz T.hq T.hc T.h0 s n xs hs (some ⟨vb,0,none⟩) 1 vc news (λh=>by cases h) hv.1 (λad e=>by cases e; exact hv.cells rfl) h1 h63 (by rw[T.hb]; exact hby) hB;exact⟨vb,vc,v',w',rfl,λty=>hr,e3,e2,e4⟩
def InsTy.nil (T:InsTy P ts te tn i0 z q by_) (w:World) (A:Option Addr) (n c:Nat):(binOp .eql ts (.slice A n c) (.slice none 0 0)).run P w = .ok (.bool A.isNone) w:=by
 have h1:binOp .eql ts (.slice A n c) (.slice none 0 0)=(do pure (.bool (<- Op.equal ts (.slice A n c) (.slice none 0 0)))):=rfl;have h2:Op.equal ts (.slice A n c) (.slice none 0 0)=Op.equalIn (9999+1) ts (.slice A n c) (.slice none 0 0):=rfl;rw[h1,h2];simp[Ks T.us]
def InsTy.clone (T:InsTy P ts te tn i0 z q by_) {w:World} {n c:Nat} {ad:Addr} {xs:List Value} (hxl:xs.length=n*q) (hxc:∀ (j:Nat) u,xs[j]? = some u->w.cell? (ad.add j)=some u) (h1:∀ u∈xs,u.oneCell'=true) (h63:n<=maxLen) (hby:n*by_<=140737488355328) :
  ∃ v' w',(∀ ty,(Builtin.append_ #[ts,ts] ty #[.slice (some ⟨w.heap.size,0,none⟩) 0 0,.slice (some ad) n c]).run P (w.alloc (.cells #[] te)) = .ok v' w')/\w.grownBy w' none/\w'.ownsRow w.heap.size te q v' n xs:=by
 have hW:(w.alloc (.cells #[] te)).ownsRow w.heap.size te q (.slice (some ⟨w.heap.size,0,none⟩) 0 0) 0 []:=World.ownsRow_lit w #[] 0 (ufa _) (by unfold maxLen; omega) (by simp);have hcell:∀ (j:Nat) u,xs[j]? = some u->(w.alloc (.cells #[] te)).cell? (ad.add j)=some u:=λj u hj=>by
  have h:=hxc j u hj;have hb:=block_lt_of_cell h;rw[ubb (pU w _ _ hb)];exact h
 obtain⟨v',w',hr,e2,e3,e4⟩:=yi ts ts te i0 _ q T.us T.hi T.hz T.hq T.hc T.h0 _ 0 [] hW (some ad) n c xs (λh=>by cases h) hxl (λad' e=>by cases e; exact hcell) h1 (by rw[uew]; exact h63) (by rw[T.hb,uew]; exact hby) (by simp);rw[uew,udk] at e2;refine⟨v',w',λty=>hr,⟨e3.os,e3.tape,e3.output,uen (by simp) e3.size,λk hk _=>(e3.block k (by simp; omega) (λe=>?_)).trans (pU w _ k hk)⟩,e2⟩;have:k=w.heap.size:=by simpa[Value.ownBlock] using e
 omega
def wm {i n:Nat} (hi:i<n) (hn:n<=9223372036854775806):¬ ((i:Int)=(n:Int))/\I6.wrap ((i:Int)+(1:Int))=(i:Int)+(1:Int)/\(0:Int)<=(i:Int)+(1:Int)/\((i:Int)+(1:Int)).toNat=i+1/\i<=n/\(i:Int)<=(n:Int)/\(i:Int)<=(n:Int)+(1:Int):=
 ⟨by omega,by rw[udc]; omega,by omega,by omega,by omega,by omega,by omega⟩
end
end Go.Ab

namespace Go.Ab
open Go Go.RowKit
def dJ {T σ ρ:Type} (step:Int->T->σ->Fr (σ ⊕ ρ)):Int->List T->σ->σ ⊕ ρ
 |_,[],s=>.inl s
 |i,x::r,s=>match (step i x s).get with
  |.inl s'=>dJ step (i+1) r s'
  |.inr y=>.inr y
def gS {T σ ρ:Type} (step:Int->T->σ->Fr (σ ⊕ ρ)):Int->List T->σ->Prop
 |_,[],_=>True
 |i,x::r,s=>(step i x s).ok/\match (step i x s).get with
  |.inl s'=>gS step (i+1) r s'
  |.inr _=>True
def cf {T σ:Type} (step:Int->T->σ->Fr σ):Int->List T->σ->σ
 |_,[],s=>s
 |i,x::r,s=>cf step (i+1) r (step i x s).get
def fF {T σ:Type} (step:Int->T->σ->Fr σ):Int->List T->σ->Prop
 |_,[],_=>True
 |i,x::r,s=>(step i x s).ok/\fF step (i+1) r (step i x s).get
section
variable {P:Program} {c:Code} {L Eo R:LS} {n id:Nat} {κ T σ ρ:Type}
structure InK (n i:Int) (l:Nat):Prop where
 n:n=(l:Int)
 lo:0<=i
 hi:i<=(l:Int)
 big:(l:Int)<=9223372036854775807
def FK (un:L.X->Int×κ×σ) (nf:κ->Int) (lf:κ->List T) (step:κ->Prop->Int->T->σ->Fr (σ ⊕ ρ)) (bO:κ->σ->Eo.X) (outR:κ->ρ->Rd Empty Eo.X R.X) (d:σ) (d2:ρ) (x:L.X):Fr (Rd L.X Eo.X R.X):=
 Fr.need (InK (nf (un x).2.1) (un x).1 (lf (un x).2.1).length) (Fr.need (gS (step (un x).2.1 True) (un x).1 ((lf (un x).2.1).drop (un x).1.toNat) (un x).2.2)
  (Fr.br (bi (dJ (step (un x).2.1 True) (un x).1 ((lf (un x).2.1).drop (un x).1.toNat) (un x).2.2)) (Fr.val (Rd.out (bO (un x).2.1 (cZ d (dJ (step (un x).2.1 True) (un x).1 ((lf (un x).2.1).drop (un x).1.toNat) (un x).2.2)))))
   (Fr.val (Rd.up (outR (un x).2.1 (ba d2 (dJ (step (un x).2.1 True) (un x).1 ((lf (un x).2.1).drop (un x).1.toNat) (un x).2.2)))))))
def Ai (mk:Int->κ->σ->L.X) (outR:κ->ρ->Rd Empty Eo.X R.X) (i:Int) (k:κ):σ ⊕ ρ->Rd L.X Eo.X R.X
 |.inl s=>.next (mk (I6.wrap (i+1)) k s)
 |.inr y=>Rd.up (outR k y)
def rJ {C:Cx} (hC:CxOK P C) {Λ:Nat->St->Option Tr} (mk:Int->κ->σ->L.X) {un:L.X->Int×κ×σ} {nf:κ->Int} {lf:κ->List T} (dT:T) {step:κ->Prop->Int->T->σ->Fr (σ ⊕ ρ)} {bO:κ->σ->Eo.X} {outR:κ->ρ->Rd Empty Eo.X R.X} {d:σ} {d2:ρ}
  (hΛ:∀ E,cH P E Λ c 0:=by exact λ_=>bL _ 0)
  (hr:∀ i k s,nZ P C 0 Λ c L ⟨n,id,L,Eo,R⟩ (mk i k s)=some (Fr.br (decide (i<nf k)) ((step k (0<=i/\i<((lf k).length:Int)) i ((lf k).getD i.toNat dT) s).mapR (Ai mk outR i k)) (Fr.val (Rd.out (bO k s)))):=by intro i k s; kernel_rfl)
  (hun:∀ x,mk (un x).1 (un x).2.1 (un x).2.2=x:=by intro _; rfl) (hmk:∀ i k s,un (mk i k s)=(i,k,s):=by intro _ _ _; rfl)
  (hM:L.low=true:=by rfl) (hE:Eo.low=true:=by rfl) (hR:R.low=true:=by rfl) :
  ah P (.loop c) L ⟨n,id,L,Eo,R⟩ (FK un nf lf step bO outR d d2):=by
 have hs:ah P c L ⟨n,id,L,Eo,R⟩ (λx=>Fr.br (decide ((un x).1<nf (un x).2.1)) ((step (un x).2.1 (0<=(un x).1/\(un x).1<((lf (un x).2.1).length:Int)) (un x).1 ((lf (un x).2.1).getD (un x).1.toNat dT) (un x).2.2).mapR (Ai mk outR (un x).1 (un x).2.1)) (Fr.val (Rd.out (bO (un x).2.1 (un x).2.2)))):=
  ah.of_run hC (bs:=0) (Λ:=Λ) hM hE hR hΛ λx=>by
   have h:=hr (un x).1 (un x).2.1 (un x).2.2
   rwa [hun] at h
 refine ah.loop (n:=n) (id:=id) hs (inv:=λx=>InK (nf (un x).2.1) (un x).1 (lf (un x).2.1).length) (μ:=λx=>(((lf (un x).2.1).length:Int)-(un x).1).toNat) ?_ (λx Q hq=>hq.1);intro x hx Q hq;obtain⟨_,hok,hq1,hq2⟩:=hq;generalize hu:un x=u at *;obtain⟨i,k,s⟩:=u;dsimp only at hx hok hq1 hq2 |-;have hn:=hx.n;have hlo:=hx.lo;have hbig:=hx.big;refine⟨λhc=>?_,λhc=>?_⟩
 ·have hi:i<((lf k).length:Int):=by rw[<- hn]; exact ucv hc
  have hl:i.toNat<(lf k).length:=by omega
  have hb:(0<=i/\i<((lf k).length:Int))=True:=eq_true ⟨hlo,hi⟩;have e1:(lf k).drop i.toNat=(lf k)[i.toNat]::(lf k).drop (i.toNat+1):=ual hl;have hd:(lf k).getD i.toNat dT=(lf k)[i.toNat]:=by rw[uah,uap hl]; rfl
  have hw:I6.wrap (i+1)=i+1:=IntWalk.i64_in _ (by omega);rw[e1] at hok hq1 hq2;rw[hb,hd];generalize (lf k)[i.toNat]=e at hok hq1 hq2 |-;refine rK (mH hok.1 ?_);have hok2:=hok.2;simp only[dJ] at hq1 hq2;cases hg:(step k True i e s).get with
  |inl s'=>
   simp only[hg] at hok2 hq1 hq2;show InK _ _ _/\_<_/\(FK un nf lf step bO outR d d2 (mk (I6.wrap (i+1)) k s')).satP Q;rw[hw];unfold FK;rw[hmk];have hin:InK (nf k) (i+1) (lf k).length:=⟨hn,by omega,by omega,hbig⟩;have hnt:(i+1).toNat=i.toNat+1:=by omega
   refine⟨hin,by dsimp only; omega,hin,?_⟩;dsimp only;rw[hnt];exact⟨hok2,hq1,hq2⟩
  |inr y=>
   simp only[hg] at hq1 hq2;have:=hq2 rfl;simp only[ba] at this;cases ho:outR k y with
   |next x=>exact nomatch x
   |out y2=>rw[ho] at this; simp only[Ai,ho,Rd.up]; exact this
   |back z=>rw[ho] at this; simp only[Ai,ho,Rd.up]; exact this
   |pan p=>rw[ho] at this; simp only[Ai,ho,Rd.up]; exact this
 ·have hi:¬ i<((lf k).length:Int):=by rw[<- hn]; exact ucf hc
  have hl:(lf k).drop i.toNat=[]:=ua0 (by omega);rw[hl] at hq1;exact hq1 rfl
def FG (un:L.X->Int×κ×σ) (nf:κ->Int) (lf:κ->List T) (step:κ->Prop->Int->T->σ->Fr σ) (bO:κ->σ->Eo.X) (x:L.X):Fr (Rd L.X Eo.X R.X):=
 Fr.need (InK (nf (un x).2.1) (un x).1 (lf (un x).2.1).length) (Fr.need (fF (step (un x).2.1 True) (un x).1 ((lf (un x).2.1).drop (un x).1.toNat) (un x).2.2)
  (Fr.val (Rd.out (bO (un x).2.1 (cf (step (un x).2.1 True) (un x).1 ((lf (un x).2.1).drop (un x).1.toNat) (un x).2.2)))))
def rI {C:Cx} (hC:CxOK P C) {Λ:Nat->St->Option Tr} (mk:Int->κ->σ->L.X) {un:L.X->Int×κ×σ} {nf:κ->Int} {lf:κ->List T} (dT:T) {step:κ->Prop->Int->T->σ->Fr σ} {bO:κ->σ->Eo.X}
  (hΛ:∀ E,cH P E Λ c 0:=by exact λ_=>bL _ 0)
  (hr:∀ i k s,nZ P C 0 Λ c L ⟨n,id,L,Eo,R⟩ (mk i k s)=some (Fr.br (decide (i<nf k)) ((step k (0<=i/\i<((lf k).length:Int)) i ((lf k).getD i.toNat dT) s).mapR (λs=>Rd.next (mk (I6.wrap (i+1)) k s))) (Fr.val (Rd.out (bO k s)))):=by intro i k s; kernel_rfl)
  (hun:∀ x,mk (un x).1 (un x).2.1 (un x).2.2=x:=by intro _; rfl) (hmk:∀ i k s,un (mk i k s)=(i,k,s):=by intro _ _ _; rfl)
  (hM:L.low=true:=by rfl) (hE:Eo.low=true:=by rfl) (hR:R.low=true:=by rfl) :
  ah P (.loop c) L ⟨n,id,L,Eo,R⟩ (FG un nf lf step bO):=by
 have hs:ah P c L ⟨n,id,L,Eo,R⟩ (λx=>Fr.br (decide ((un x).1<nf (un x).2.1)) ((step (un x).2.1 (0<=(un x).1/\(un x).1<((lf (un x).2.1).length:Int)) (un x).1 ((lf (un x).2.1).getD (un x).1.toNat dT) (un x).2.2).mapR (λs=>Rd.next (mk (I6.wrap ((un x).1+1)) (un x).2.1 s))) (Fr.val (Rd.out (bO (un x).2.1 (un x).2.2)))):=
  ah.of_run hC (bs:=0) (Λ:=Λ) hM hE hR hΛ λx=>by
   have h:=hr (un x).1 (un x).2.1 (un x).2.2
   rwa [hun] at h
 refine ah.loop (n:=n) (id:=id) hs (inv:=λx=>InK (nf (un x).2.1) (un x).1 (lf (un x).2.1).length) (μ:=λx=>(((lf (un x).2.1).length:Int)-(un x).1).toNat) ?_ (λx Q hq=>hq.1);intro x hx Q hq;obtain⟨_,hok,hq1⟩:=hq;generalize hu:un x=u at *;obtain⟨i,k,s⟩:=u;dsimp only at hx hok hq1 |-;have hn:=hx.n;have hlo:=hx.lo;have hbig:=hx.big;refine⟨λhc=>?_,λhc=>?_⟩
 ·have hi:i<((lf k).length:Int):=by rw[<- hn]; exact ucv hc
  have hl:i.toNat<(lf k).length:=by omega
  have hb:(0<=i/\i<((lf k).length:Int))=True:=eq_true ⟨hlo,hi⟩;have e1:(lf k).drop i.toNat=(lf k)[i.toNat]::(lf k).drop (i.toNat+1):=ual hl;have hd:(lf k).getD i.toNat dT=(lf k)[i.toNat]:=by rw[uah,uap hl]; rfl
  have hw:I6.wrap (i+1)=i+1:=IntWalk.i64_in _ (by omega);rw[e1] at hok hq1;rw[hb,hd];generalize (lf k)[i.toNat]=e at hok hq1 |-;refine rK (mH hok.1 ?_);show InK _ _ _/\_<_/\(FG un nf lf step bO (mk (I6.wrap (i+1)) k (step k True i e s).get)).satP Q;rw[hw];unfold FG;rw[hmk];have hin:InK (nf k) (i+1) (lf k).length:=⟨hn,by omega,by omega,hbig⟩;have hnt:(i+1).toNat=i.toNat+1:=by omega
  refine⟨hin,by dsimp only; omega,hin,?_⟩;dsimp only;rw[hnt];exact⟨hok.2,hq1⟩
 ·have hi:¬ i<((lf k).length:Int):=by rw[<- hn]; exact ucf hc
  have hl:(lf k).drop i.toNat=[]:=ua0 (by omega);rw[hl] at hq1;exact hq1
end
end Go.Ab
namespace Go.Proofs.YtgieagiaagoogaaGreat
open Go Go.Ab Go.RowKit Go.Proofs Tryz
open Go.Ab.Fr renaming val->Jv,need->Jd,br->Jb
abbrev i64:Ty:=.int .i64
abbrev u64:Ty:=.int .u64
abbrev bE:Ty:=.sl i64
abbrev bR:Ty:=.pair i64 (.pair i64 .unit)
abbrev bj:Ty:=.pair bE (.pair bE .unit)
abbrev cj:Ty:=.pair i64 (.pair i64 (.pair i64 (.pair i64 .unit)))
abbrev ak:Ty:=.pair i64 (.pair i64 (.pair i64 (.pair i64 (.pair i64 .unit))))
abbrev af:Ty:=.pair bR (.pair .bool (.pair cj (.pair (.sl ak) (.pair i64 .unit))))
def Ah:Nat->St->Option Tr:=λ_ _=>none
def C0:Cx:=⟨⟨λ_=>none,λ_=>none⟩,λ_=>none,λ_ _ _ _=>none⟩
def aG:prog.follows .mixedOrders=true:=by kernel_rfl
def pL:CxOK prog C0:=⟨aG,⟨λ_ _ h=>(nomatch h),λ_ _ h=>(nomatch h)⟩,λ_ _ h=>(nomatch h),λ_ _ _ _ _ h=>(nomatch h)⟩
def nt {E:Env}:(c:Code)->(k:Nat)->cH prog E Ah c k
 |.seq a b,k=>⟨nt a k,nt b _⟩
 |.cond _ a b,k=>⟨nt a k,nt b _⟩
 |.block _ c,k=>nt c k
 |.loop _,_=>λ_ _ h=>nomatch h
 |.skip,_=>trivial
 |.ret,_=>trivial
 |.exit _,_=>trivial
 |.region _ _ _,_=>trivial
 |.label _,_=>trivial
 |.goto _,_=>trivial
 |.scope c,k=>nt c k
 |.rangeFunc _ _ _ _,_=>trivial
 |.refuse _,_=>trivial
def plain {C:Cx} (hC:CxOK prog C) {f:FuncId} {fn:Func} {ps:List PT} {rs:List Ty} {fr:aq ps->Fr (ae rs)} (x0:aq ps) (hf:prog.funcs[f]? = some fn)
  (hrun:∀ xs,mw prog C Ah fn ps rs xs=some (fr xs)) (g:aq ps->ae rs) (ok:aq ps->List Prop)
  (hg:∀ w F xs vs,dX prog w F ps xs vs->aE (ok xs)->(fr xs).ok/\(fr xs).get=g xs):aa prog f ⟨ps,rs,g,ok⟩:=
 conv (mY hC x0 hf (λc E _=>nt c 0) hrun) g ok hg
def iq (v:Int):Bool:=decide (v >= -4000000000000000000)&&decide (v<=4000000000000000000)
def Hb:Ct:=⟨[.d i64],[.bool],λx=>(iq x.1,()),λ_=>[]⟩
def qt7:aa prog 204 Hb:=
 plain (ps:=[.d i64]) (rs:=[.bool]) pL (fn:=f204) (fr:=λx=>Jv (bif decide (x.1 >= -4000000000000000000) then decide (x.1<=4000000000000000000) else false,())) (0,()) (by kernel_rfl) (λx=>by kernel_rfl) _ _
  (λ_ _ x _ _ _=>⟨uT,by simp only[Fr.get,iq]; cases decide (x.1 >= -4000000000000000000)<;>rfl⟩)
def dd (s:bR.den):Bool:=decide (s.1>=1)&&(decide (s.1<s.2.1)&&decide (s.2.1<=292195))
def e9 (s:bR.den):Bool:=decide (s.1>=1)&&(decide (s.1<=s.2.1)&&decide (s.2.1<=292195))
def vg:Ct:=⟨[.d bR],[.bool],λx=>(dd x.1,()),λ_=>[]⟩
def fz:Ct:=⟨[.d bR],[.bool],λx=>(e9 x.1,()),λ_=>[]⟩
def uh (a b c:Bool):(bif bif a then b else false then c else false)=(a&&(b&&c)):=by cases a<;>cases b<;>rfl
def qnd:aa prog 186 vg:=
 plain (ps:=[.d bR]) (rs:=[.bool]) pL (fn:=f186) (fr:=λx=>Jv (bif bif decide (x.1.1>=1) then decide (x.1.1<x.1.2.1) else false then decide (x.1.2.1<=292195) else false,())) ((0,0,()),()) (by kernel_rfl) (λx=>by kernel_rfl) _ _
  (λ_ _ x _ _ _=>⟨uT,by simp only[Fr.get,dd,uh]⟩)
def Rk:aa prog 164 vg:=
 plain (ps:=[.d bR]) (rs:=[.bool]) pL (fn:=f164) (fr:=λx=>Jv (bif bif decide (x.1.1>=1) then decide (x.1.1<x.1.2.1) else false then decide (x.1.2.1<=292195) else false,())) ((0,0,()),()) (by kernel_rfl) (λx=>by kernel_rfl) _ _
  (λ_ _ x _ _ _=>⟨uT,by simp only[Fr.get,dd,uh]⟩)
def Lf:aa prog 104 fz:=
 plain (ps:=[.d bR]) (rs:=[.bool]) pL (fn:=f104) (fr:=λx=>Jv (bif bif decide (x.1.1>=1) then decide (x.1.1<=x.1.2.1) else false then decide (x.1.2.1<=292195) else false,())) ((0,0,()),()) (by kernel_rfl) (λx=>by kernel_rfl) _ _
  (λ_ _ x _ _ _=>⟨uT,by simp only[Fr.get,e9,uh]⟩)
def Ld:aa prog 95 fz:=
 plain (ps:=[.d bR]) (rs:=[.bool]) pL (fn:=f95) (fr:=λx=>Jv (bif bif decide (x.1.1>=1) then decide (x.1.1<=x.1.2.1) else false then decide (x.1.2.1<=292195) else false,())) ((0,0,()),()) (by kernel_rfl) (λx=>by kernel_rfl) _ _
  (λ_ _ x _ _ _=>⟨uT,by simp only[Fr.get,e9,uh]⟩)
def fD (s:af.den) (e:Int):Bool:=decide (s.1.1>=e)&&(decide (s.1.1<s.1.2.1)&&(decide (s.1.2.1<=292195)&&(decide (s.2.2.2.2.1>=0)&&decide (s.2.2.2.2.1<=4000000000000000000))))
def sh:Ct:=⟨[.d af,.d i64],[.bool],λx=>(fD x.1 x.2.1,()),λ_=>[]⟩
def qlz (a b c d e:Bool):(bif bif bif bif a then b else false then c else false then d else false then e else false)=(a&&(b&&(c&&(d&&e)))):=by cases a<;>cases b<;>cases c<;>cases d<;>rfl
def qne:aa prog 150 sh:=
 plain (ps:=[.d af,.d i64]) (rs:=[.bool]) pL (fn:=f150) (fr:=λx=>Jv (bif bif bif bif decide (x.1.1.1>=x.2.1) then decide (x.1.1.1<x.1.1.2.1) else false then decide (x.1.1.2.1<=292195) else false then decide (x.1.2.2.2.2.1>=0) else false then decide (x.1.2.2.2.2.1<=4000000000000000000) else false,()))
  (af.dflt,0,()) (by kernel_rfl) (λx=>by kernel_rfl) _ _ (λ_ _ x _ _ _=>⟨uT,by simp only[Fr.get,fD,qlz]⟩)
def je:Ct:=⟨[.d i64],[.bool],λ_=>(false,()),λ_=>[]⟩
def SI:aa prog 232 je:=
 plain (ps:=[.d i64]) (rs:=[.bool]) pL (fn:=f232) (fr:=λx=>Jv (x.1 != x.1,())) (0,()) (by kernel_rfl) (λx=>by kernel_rfl) _ _ (λ_ _ x _ _ _=>⟨uT,by simp[Fr.get]⟩)
def Kq:aa prog 184 je:=
 plain (ps:=[.d i64]) (rs:=[.bool]) pL (fn:=f184) (fr:=λx=>Jv (x.1 != x.1,())) (0,()) (by kernel_rfl) (λx=>by kernel_rfl) _ _ (λ_ _ x _ _ _=>⟨uT,by simp[Fr.get]⟩)
def WB:FuncId->Option Ct:=λf=>if f=232 then some je else if f=184 then some je else none
def C1:Cx:=⟨WB,λ_=>none,λ_ _ _ _=>none⟩
def Ea {Γ:FuncId->Option Ct} (h:∀ f ct,Γ f=some ct->aa prog f ct):CxOK prog ⟨Γ,λ_=>none,λ_ _ _ _=>none⟩:=
 ⟨aG,⟨h,λ_ _ h=>(nomatch h)⟩,λ_ _ h=>(nomatch h),λ_ _ _ _ _ h=>(nomatch h)⟩
def WM:CxOK prog C1:=Ea λf ct h=>by
 simp only[WB] at h;split at h
 ·rename_i hf; subst hf; cases h; exact SI
 ·split at h
  ·rename_i hf; subst hf; cases h; exact Kq
  ·cases h
def vl:Ct:=⟨[.d i64,.d i64],[.bool],λx=>(decide (x.1<x.2.1),()),λ_=>[]⟩
def S1:aa prog 210 vl:=
 plain (ps:=[.d i64,.d i64]) (rs:=[.bool]) WM (fn:=f210) (fr:=λx=>Jv (bif bif (je.f (x.1,())).1 then !(je.f (x.2.1,())).1 else false then true else decide (x.1<x.2.1),())) (0,0,()) (by kernel_rfl) (λx=>by kernel_rfl) _ _
  (λ_ _ x _ _ _=>⟨uT,rfl⟩)
open Go.Ab.Fr renaming val->Jv,need->Jd,br->Jb
def dZ:Code->Nat->Option Code
 |.loop c,0=>some c
 |.seq a b,k=>if k<cG a then dZ a k else dZ b (k-cG a)
 |.cond _ a b,k=>if k<cG a then dZ a k else dZ b (k-cG a)
 |.block _ c,k=>dZ c k
 |.scope c,k=>dZ c k
 |_,_=>none
def ww (f:Func) (k:Nat):Code:=(f.body.bind (dZ · k)).getD .skip
def Mi:FuncId->Option Ct:=λf=>if f=232 then some je else if f=210 then some vl else none
def C2:Cx:=⟨Mi,λ_=>none,λ_ _ _ _=>none⟩
def F4:CxOK prog C2:=Ea λf ct h=>by
 simp only[Mi] at h;split at h
 ·rename_i hf; subst hf; cases h; exact SI
 ·split at h
  ·rename_i hf; subst hf; cases h; exact S1
  ·cases h
def bm (l:List Int) (x:Int):Nat:=l.countP λy=>decide (y<x)
def qda {l:List Int} {x:Int} {i:Nat} (h1:∀ k y,k<i->l[k]? = some y->y<x) (h2:∀ k y,i<=k->l[k]? = some y->¬ y<x) (hi:i<=l.length):bm l x=i:=by
 unfold bm;rw[<- ua8 i l,List.countP_append];have e1:(l.take i).countP (λy=>decide (y<x))=(l.take i).length:=by
  rw[List.countP_eq_length];intro y hy;obtain⟨k,hk⟩:=ua7.1 hy;rw[ub0] at hk;split at hk
  ·rename_i hlt;simpa using h1 k y hlt hk
  ·cases hk
 have e2:(l.drop i).countP (λy=>decide (y<x))=0:=by
  rw[List.countP_eq_zero];intro y hy;obtain⟨k,hk⟩:=ua7.1 hy;rw[ubz] at hk;simpa using h2 (i+k) y (by omega) hk
 rw[e1,e2,uc3];omega
abbrev lX:Pt:=⟨54,0,⟨[(0,.d bE),(1,.d i64),(6,.d i64),(7,.d i64),(8,.d i64)],[]⟩,⟨[(0,.d bE),(1,.d i64),(6,.d i64),(7,.d i64)],[]⟩,⟨[],[]⟩⟩
def aV (i j:Int):Int:=I6.wrap ((IntKind.u64.wrap (I6.wrap (i+j))).fdiv (2 ^ min (Int.toNat 1) IntKind.u64.bits))
def IB (x:lX.M.X):Fr lX.Out:=
 let b:=x.1.2;let a:=b.2.2;Jb (decide (a.1<a.2.1))
  (Jd (¬ (1:Int)<0)
   (Jd (0<=aV a.1 a.2.1/\aV a.1 a.2.1<x.1.1.length)
    (Jb (vl.f (x.1.1.getD (aV a.1 a.2.1).toNat i64.dflt,b.1,())).1
     (Jv (Rd.next ((x.1.1,b.1,b.2.1,I6.wrap (aV a.1 a.2.1+1),a.2.1,()),())))
     (Jv (Rd.next ((x.1.1,b.1,b.2.1,a.1,aV a.1 a.2.1,()),()))))))
  (Jv (Rd.out ((x.1.1,b.1,b.2.1,a.1,()),())))
def zam:ah prog (ww f223 0) lX.M lX IB:=
 ah.of_run F4 (bs:=0) (Λ:=Ah) rfl rfl rfl (λE=>nt _ 0) (λx=>by kernel_rfl)
def qt6 {i j:Int} (hi:0<=i) (hij:i<=j) (hj:j<=9223372036854775807):aV i j=(i+j)/2:=by
 unfold aV;have h1:IntKind.u64.wrap (I6.wrap (i+j))=i+j:=by
  rw[udc,IntKind.wrap_u64];omega
 have h2:(2:Int) ^ min (Int.toNat 1) IntKind.u64.bits=2:=by decide
 rw[h1,h2,uag _ (by decide),IntWalk.i64_in _ (by omega)]
structure InvB (l:List Int) (x i j:Int):Prop where
 lo:0<=i
 le:i<=j
 hi:j<=l.length
 big:(l.length:Int)<=9223372036854775807
 up:l.Pairwise (· < ·)
 below:∀ (k:Nat) (y:Int),(k:Int)<i->l[k]? = some y->y<x
 above:∀ (k:Nat) (y:Int),j<=k->l[k]? = some y->¬ y<x
def FB (x:lX.M.X):Fr lX.Out:=
 Jd (InvB x.1.1 x.1.2.1 x.1.2.2.2.1 x.1.2.2.2.2.1) (Jv (Rd.out ((x.1.1,x.1.2.1,x.1.2.2.1,(bm x.1.1 x.1.2.1:Int),()),())))
def Ma {l:List Int} (h:l.Pairwise (· < ·)) {a b:Nat} {y z:Int} (hab:a<b) (ha:l[a]? = some y) (hb:l[b]? = some z):y<z:=by
 obtain⟨h1,rfl⟩:=uak.1 ha;obtain⟨h2,rfl⟩:=uak.1 hb;exact(List.pairwise_iff_getElem.1 h) a b h1 h2 hab
def qp8 (l:List Int) (x n i j:Int) (hinv:InvB l x i j) (Q:lX.Out->Prop) (hQ:Q (Rd.out ((l,x,n,(bm l x:Int),()),()))) :
  (IB ((l,x,n,i,j,()),())).satP λ
   |.next x'=>InvB x'.1.1 x'.1.2.1 x'.1.2.2.2.1 x'.1.2.2.2.2.1/\(x'.1.2.2.2.2.1-x'.1.2.2.2.1).toNat<(j-i).toNat/\(FB x').satP Q
   |.out y=>Q (.out y)
   |.back z=>Q (.back z)
   |.pan p=>Q (.pan p):=by
 obtain⟨h1,h2,h3,h4,h5,h6,h7⟩:=hinv;simp only[IB,Fr.satP,ucs,uau];refine⟨λhij=>?_,λhij=>?_⟩
 ·have hij:i<j:=hij;have hm:=qt6 h1 h2 (by omega);have hmid:0<=(i+j)/2/\(i+j)/2<l.length:=by omega
  rw[hm];refine⟨by omega,hmid,?_⟩;obtain⟨y,hy⟩:∃ y,l[((i+j)/2).toNat]? = some y:=by
   have:((i+j)/2).toNat<l.length:=by omega
   exact⟨_,uap this⟩
  have hget:l.getD ((i+j)/2).toNat i64.dflt=y:=by
   rw[uah,hy];rfl
  rw[hget];show(decide (y<x)=true->_)/\(decide (y<x)=false->_);simp only[ucs,uau];refine⟨λhyx=>?_,λhyx=>?_⟩
  ·have hyx:=hyx;have hw:I6.wrap ((i+j)/2+1)=(i+j)/2+1:=IntWalk.i64_in _ (by omega);rw[hw];have hn:InvB l x ((i+j)/2+1) j:=⟨by omega,by omega,h3,h4,h5,λk z hk hz=>by
    by_cases hk2:k<((i+j)/2).toNat
    ·exact ue0 (Ma h5 hk2 hz hy) hyx
    ·have:k=((i+j)/2).toNat:=by omega
     subst this;rw[hy] at hz;cases hz;exact hyx,h7⟩
   exact⟨hn,by show(j-((i+j)/2+1)).toNat<(j-i).toNat; omega,hn,hQ⟩
  ·have hyx:=hyx;have hn:InvB l x i ((i+j)/2):=⟨h1,by omega,by omega,h4,h5,h6,λk z hk hz=>by
    by_cases hk2:((i+j)/2).toNat<k
    ·have:=Ma h5 hk2 hy hz;omega
    ·have:k=((i+j)/2).toNat:=by omega
     subst this;rw[hy] at hz;cases hz;exact hyx⟩
   exact⟨hn,by show((i+j)/2-i).toNat<(j-i).toNat; omega,hn,hQ⟩
 ·have hij:¬ i<j:=hij;have hij':i=j:=by omega
  have hc:bm l x=i.toNat:=qda (λk y hk hy=>h6 k y (by omega) hy) (λk y hk hy=>h7 k y (by omega) hy) (by omega);rw[hc] at hQ;have:((i.toNat:Nat):Int)=i:=by omega
  rw[this] at hQ;exact hQ
def loopB:ah prog (.loop (ww f223 0)) lX.M lX FB:=by
 refine ah.loop zam (μ:=λx=>(x.1.2.2.2.2.1-x.1.2.2.2.1).toNat) ?_ (λx Q h=>h.1);rintro⟨⟨l,x,n,i,j,_⟩,_⟩ hinv Q hq;exact qp8 l x n i j hinv Q hq.2
def oC:{c:Code} -> {k:Nat} -> {b:Code}->dZ c k=some b->k<cG c
 |.loop _,0,_,_=>uds
 |.loop _,_+1,_,h=>by simp[dZ] at h
 |.seq x y,k,b,h=>by
  simp only[dZ] at h;simp only[cG];split at h
  ·omega
  ·have:=oC h;omega
 |.cond _ x y,k,b,h=>by
  simp only[dZ] at h;simp only[cG];split at h
  ·omega
  ·have:=oC h;omega
 |.block _ c,k,b,h=>oC (c:=c) h
 |.scope c,k,b,h=>oC (c:=c) h
 |.skip,_,_,h=>by simp[dZ] at h
 |.region _ _ _,_,_,h=>by simp[dZ] at h
 |.ret,_,_,h=>by simp[dZ] at h
 |.exit _,_,_,h=>by simp[dZ] at h
 |.label _,_,_,h=>by simp[dZ] at h
 |.goto _,_,_,h=>by simp[dZ] at h
 |.rangeFunc _ _ _ _,_,_,h=>by simp[dZ] at h
 |.refuse _,_,_,h=>by simp[dZ] at h
def oW {E:Env} {Λ:Nat->St->Option Tr}:(c:Code)->(k:Nat)->(∀ i b,dZ c i=some b->kx prog E b (Λ (k+i)))->cH prog E Λ c k
 |.loop b,k,h=>h 0 b rfl
 |.seq x y,k,h=>⟨oW x k λi b hb=>h i b (by simp only[dZ]; rw[if_pos (oC hb)]; exact hb),oW y _ λi b hb=>by
   have:=h (cG x+i) b (by simp only[dZ]; rw[if_neg (by omega),uaw]; exact hb)
   rwa [<- uef] at this⟩
 |.cond _ x y,k,h=>⟨oW x k λi b hb=>h i b (by simp only[dZ]; rw[if_pos (oC hb)]; exact hb),oW y _ λi b hb=>by
   have:=h (cG x+i) b (by simp only[dZ]; rw[if_neg (by omega),uaw]; exact hb)
   rwa [<- uef] at this⟩
 |.block _ c,k,h=>oW c k h
 |.skip,_,_=>trivial
 |.ret,_,_=>trivial
 |.exit _,_,_=>trivial
 |.region _ _ _,_,_=>trivial
 |.label _,_,_=>trivial
 |.goto _,_,_=>trivial
 |.scope c,k,h=>oW c k h
 |.rangeFunc _ _ _ _,_,_=>trivial
 |.refuse _,_,_=>trivial
def Sv {E:Env} {Λ:Nat->St->Option Tr} {fn:Func} {c b:Code} (hc:fn.body=some c) (hn:(fn.body.map cG)=some 1) (hb:fn.body.bind (dZ · 0)=some b) (h:kx prog E b (Λ 0)):cH prog E Λ c 0:=by
 refine oW c 0 λi b' hb'=>?_;have h1:=oC hb';rw[hc] at hn hb;simp at hn;have hi:i=0:=by omega
 subst hi;simp at hb;rw[hb] at hb';cases hb';exact h
def ΛB:Nat->St->Option Tr:=λ_=>lX.han Mi lX.M FB
def IX (x:aq [.d bE,.d i64]):Fr (ae [i64,.bool]):=
 let a:=(bm x.1 x.2.1:Int);let b:=Int.toNat a;Jd (InvB x.1 x.2.1 0 x.1.length)
  (Jd (decide (a<x.1.length)=true->0<=a/\a<x.1.length)
  (Jd ((x.1.getD b i64.dflt==x.2.1)=false->decide (a<x.1.length)=true->0<=a/\a<x.1.length)
   (Jv
    (a,
     bif decide (a<x.1.length) then
      bif x.1.getD b i64.dflt==x.2.1 then true
      else
       bif (je.f (x.1.getD b i64.dflt,())).1 then (je.f (x.2.1,())).1 else false
     else false,
     ()))))
def zaf:aa prog 223 (aL [.d bE,.d i64] [i64,.bool] IX):=
 mY F4 (Λ:=ΛB) (fn:=f223) ([],0,()) (by kernel_rfl) (λc E hc=>Sv hc (by kernel_rfl) (b:=ww f223 0) (by kernel_rfl) (ah.han F4 rfl loopB)) (λxs=>by kernel_rfl)
open Go.Ab.Fr renaming val->Jv,need->Jd,br->Jb
def OM {x:Int}:{l:List Int}->l.Pairwise (· < ·)->(∀ k y,k<bm l x->l[k]? = some y->y<x)/\∀ k y,bm l x<=k->l[k]? = some y->¬ y<x
 |[],_=>⟨λk y _ h=>by simp at h,λk y _ h=>by simp at h⟩
 |a::r,h=>by
  obtain⟨h1,h2⟩:=ub8.1 h;obtain⟨i1,i2⟩:=OM (x:=x) h2;by_cases ha:a<x
  ·have hc:bm (a::r) x=bm r x+1:=by simp[bm,udd,ha]
   rw[hc];refine⟨λk y hk hy=>?_,λk y hk hy=>?_⟩
   ·cases k with
    |zero=>simp at hy; omega
    |succ k=>exact i1 k y (by omega) (by simpa using hy)
   ·cases k with
    |zero=>omega
    |succ k=>exact i2 k y (by omega) (by simpa using hy)
  ·have hz:bm (a::r) x=0:=by
    unfold bm;rw[List.countP_eq_zero];intro y hy;rcases ueg.1 hy with rfl|hy
    ·simpa using ha
    ·have:=h1 y hy;simp;omega
   rw[hz];refine⟨λk y hk _=>by omega,λk y _ hy=>?_⟩;cases k with
   |zero=>simp at hy; omega
   |succ k=>
    have hm:y∈r:=ube (by simpa using hy);have:=h1 y hm;omega
def OL {l:List Int} {x:Int} (h:l.Pairwise (· < ·)):x∈l↔l[bm l x]? = some x:=by
 obtain⟨h1,h2⟩:=OM (x:=x) h;constructor
 ·intro hm;obtain⟨k,hk⟩:=ua7.1 hm;by_cases hlt:k<bm l x
  ·have:=h1 k x hlt hk;omega
  ·by_cases he:k=bm l x
   ·rw[<- he]; exact hk
   ·have hkl:=(uak.1 hk).1;have hy:l[bm l x]? = some (l[bm l x]'(by omega)):=uap (by omega);have a1:=Ma h (by omega) hy hk;have a2:=h2 _ _ (ufa _) hy;omega
 ·exact λhk=>ube hk
def OK (l:List Int) (x:Int):bm l x<=l.length:=List.countP_le_length
def qo4 {l:List Int} {x:Int} (h:l.Pairwise (· < ·)) (hl:(l.length:Int)<=9223372036854775807):InvB l x 0 l.length:=
 ⟨ufb _,by omega,ufb _,hl,h,λk y hk _=>by omega,λk y hk hy=>by
  have:=(uak.1 hy).1;omega⟩
def qml {l:List Int} {x:Int} (h:l.Pairwise (· < ·)) (hl:(l.length:Int)<=9223372036854775807):(IX (l,x,())).ok/\(IX (l,x,())).get=((bm l x:Int),l.contains x,()):=by
 have hle:=OK l x;refine⟨⟨qo4 h hl,λhd=>?_,λ_ hd=>?_,uT⟩,?_⟩
 ·have hd':(bm l x:Int)<l.length:=by simpa using hd
  exact⟨by omega,hd'⟩
 ·have hd':(bm l x:Int)<l.length:=by simpa using hd
  exact⟨by omega,hd'⟩
 ·show((bm l x:Int),(bif decide ((bm l x:Int)<l.length) then bif l.getD (bm l x) i64.dflt==x then true else (bif false then false else false) else false),())=_;have hb:(bif decide ((bm l x:Int)<l.length) then bif l.getD (bm l x) i64.dflt==x then true else (bif false then false else false) else false)=l.contains x:=by
   have hm:=OL (x:=x) h;by_cases hlt:bm l x<l.length
   ·have h1:decide ((bm l x:Int)<l.length)=true:=by simpa using hlt
    have hg:l[bm l x]? = some (l[bm l x]'hlt):=uap hlt;have hd:l.getD (bm l x) i64.dflt=l[bm l x]'hlt:=by rw[uah,hg]; rfl
    rw[h1,hd];simp only[ufr];by_cases he:l[bm l x]'hlt=x
    ·have:x∈l:=hm.2 (by rw[hg,he]);simp[he,this]
    ·have:¬ x∈l:=λhx=>he (by have:=hm.1 hx; rw[hg] at this; simpa using this);simp[he,this]
   ·have h1:decide ((bm l x:Int)<l.length)=false:=by simpa using hlt
    have:¬ x∈l:=λhx=>by
     have:=hm.1 hx;rw[ua2 (by omega)] at this;cases this
    rw[h1];simp[this]
  rw[hb]
def Hl:Ct:=⟨[.d bE,.d i64],[i64,.bool],λx=>((bm x.1 x.2.1:Int),x.1.contains x.2.1,()),λx=>[x.1.Pairwise (· < ·)]⟩
def zag:aa prog 223 Hl:=
 conv zaf _ _ λw F xs vs hr hok=>by
  obtain⟨l,x,_⟩:=xs;obtain⟨v,vs',rfl,hv,_⟩:=hr;have hwf:=aD.wf hv.2.2;have hlen:(l.length:Int)<=9223372036854775807:=by
   have:=hwf.1;simp only[maxLen] at this;omega
  exact qml hok hlen
open Go.Ab.Fr renaming val->Jv,need->Jd,br->Jb
def f8 (l:List Int) (x:Int):Nat:=l.countP λy=>decide (y<=x)
def OJ {x:Int}:{l:List Int}->l.Pairwise (· < ·)->f8 l x=bm l x+(if l.contains x then 1 else 0)
 |[],_=>rfl
 |a::r,h=>by
  obtain⟨h1,h2⟩:=ub8.1 h;have ih:=OJ (x:=x) h2;have hnot:a=x->¬ x∈r:=λhe hm=>by have:=h1 x hm; omega
  unfold f8 bm at *;rw[udd,udd,ih];rcases Int.lt_trichotomy a x with hlt|heq|hgt
  ·have:¬ x=a:=by omega
   simp[hlt,ues hlt,this];omega
  ·subst heq;have:=hnot rfl;simp[this]
  ·have h3:¬ a<=x:=by omega
   have h4:¬ a<x:=by omega
   have h5:¬ x=a:=by omega
   simp[h3,h4,h5]
def cW (f:bj.den) (d:Int):Int:=match f8 f.1 d with
 |0=>0
 |k+1=>f.2.1.getD k 0
def Mj:FuncId->Option Ct:=λf=>if f=223 then some Hl else if f=204 then some Hb else none
def C3:Cx:=⟨Mj,λ_=>none,λ_ _ _ _=>none⟩
def Bw:CxOK prog C3:=Ea λf ct h=>by
 simp only[Mj] at h;split at h
 ·rename_i hf; subst hf; cases h; exact zag
 ·split at h
  ·rename_i hf; subst hf; cases h; exact qt7
  ·cases h
def Ja (x:aq [.d bj,.d i64]):Fr (ae [i64]):=
 let r:=Hl.f (x.1.1,x.2.1,())
 Jd (x.1.1.Pairwise (· < ·))
  (Jb (!r.2.1)
   (Jb (decide (I6.wrap (r.1-1)<0)) (Jv (0,()))
    (Jd (0<=I6.wrap (r.1-1)/\I6.wrap (r.1-1)<x.1.2.1.length) (Jv (x.1.2.1.getD (I6.wrap (r.1-1)).toNat i64.dflt,()))))
   (Jb (decide (r.1<0)) (Jv (0,()))
    (Jd (0<=r.1/\r.1<x.1.2.1.length) (Jv (x.1.2.1.getD r.1.toNat i64.dflt,())))))
def ze3:aa prog 206 (aL [.d bj,.d i64] [i64] Ja):=
 mY Bw (Λ:=Ah) (fn:=f206) (([],[],()),0,()) (by kernel_rfl) (λc E _=>nt c 0) (λxs=>by kernel_rfl)
def qmo {at_ val:List Int} {d:Int} (h:at_.Pairwise (· < ·)) (hl:(at_.length:Int)<=9223372036854775807) (hlen:at_.length=val.length) :
  (Ja ((at_,val,()),d,())).ok/\(Ja ((at_,val,()),d,())).get=(cW (at_,val,()) d,()):=by
 have hle:=OK at_ d;have hcl:=OJ (x:=d) h;have hmem:=OL (x:=d) h;by_cases hc:d∈at_
 ·have hcb:at_.contains d=true:=by simpa using hc
  have hlt:bm at_ d<at_.length:=(uak.1 (hmem.1 hc)).1;have hv:cW (at_,val,()) d=val.getD (bm at_ d) 0:=by
   unfold cW;simp only[hcl,hcb,if_true]
  refine⟨⟨h,λhb=>?_,λ_=>⟨λhb=>?_,λ_=>⟨⟨by show(0:Int)<=(bm at_ d:Int); omega,by show(bm at_ d:Int)<val.length; omega⟩,uT⟩⟩⟩,?_⟩
  ·have hb':(!at_.contains d)=true:=hb;rw[hcb] at hb';cases hb'
  ·trivial
  ·show(if (!at_.contains d)=true then _ else if decide ((bm at_ d:Int)<0)=true then ((0:Int),()) else (val.getD (Int.toNat (bm at_ d:Int)) i64.dflt,()))=_;have h0:decide ((bm at_ d:Int)<0)=false:=by simp
   rw[hcb,h0,hv];rfl
 ·have hcb:at_.contains d=false:=by simpa using hc
  have hw:I6.wrap ((bm at_ d:Int)-1)=(bm at_ d:Int)-1:=IntWalk.i64_in _ (by omega);have hv:cW (at_,val,()) d=(match bm at_ d with|0=>0|k+1=>val.getD k 0):=by
   unfold cW;simp only[hcl,hcb,ub1,ufu,uex]
  refine⟨⟨h,λ_=>⟨λ_=>uT,λhb=>?_⟩,λhb=>?_⟩,?_⟩
  ·have hb':decide (I6.wrap ((bm at_ d:Int)-1)<0)=false:=hb;rw[hw] at hb';have hb2:¬ ((bm at_ d:Int)-1<0):=by simpa using hb'
   refine⟨?_,uT⟩;show 0<=I6.wrap ((bm at_ d:Int)-1)/\I6.wrap ((bm at_ d:Int)-1)<val.length;rw[hw];omega
  ·have hb':(!at_.contains d)=false:=hb;rw[hcb] at hb';cases hb'
  ·show(if (!at_.contains d)=true then (if decide (I6.wrap ((bm at_ d:Int)-1)<0)=true then ((0:Int),()) else (val.getD (I6.wrap ((bm at_ d:Int)-1)).toNat i64.dflt,())) else _)=_;rw[hcb,hw,hv];cases hk:bm at_ d with
   |zero=>rfl
   |succ k=>
    have h0:decide (((k+1:Nat):Int)-1<0)=false:=by simp
    have h1:(((k+1:Nat):Int)-1).toNat=k:=by omega
    rw[h0,h1];rfl
def qb9:Ct:=⟨[.d bj,.d i64],[i64],λx=>(cW x.1 x.2.1,()),λx=>[x.1.1.Pairwise (· < ·),x.1.1.length=x.1.2.1.length]⟩
def ze4:aa prog 206 qb9:=
 conv ze3 _ _ λw F xs vs hr hok=>by
  obtain⟨⟨at_,val,_⟩,d,_⟩:=xs;obtain⟨v,vs',rfl,hv,_⟩:=hr;have hwf:=aD.wf hv.2.2;have hlen:(at_.length:Int)<=9223372036854775807:=by
   have:=hwf.1.1;simp only[maxLen] at this;omega
  exact qmo hok.1 hlen hok.2
open Go.Ab.Fr renaming val->Jv,need->Jd,br->Jb
def ge:List Int->List Int->Int->Int->Bool
 |d::l,v::r,day,last=>(decide (day<d)&&(decide (d<=292194)&&(!(v==last)&&iq v)))&&ge l r d v
 |_,_,_,_=>true
abbrev ke:Pt:=⟨48,0,⟨[(18,.d i64),(17,.d i64),(16,.d bE),(3,.d i64),(4,.d i64)],[.x 1 190 bj,.r 1 1 0]⟩,⟨[],[]⟩,⟨[(2,.d .bool)],[]⟩⟩
def QL (x:ke.M.X):Fr ke.Out:=
 let b:=x.2.1.2.1;let a:=x.1.2.2;Jb (decide (x.1.1<x.1.2.1))
  (Jd (0<=x.1.1/\x.1.1<a.1.length)
   (Jd (0<=x.1.1/\x.1.1<b.length)
    (Jb
     (bif bif bif decide (a.1.getD x.1.1.toNat i64.dflt<=a.2.1) then true else decide (a.1.getD x.1.1.toNat i64.dflt>292194) then true
       else b.getD x.1.1.toNat i64.dflt==a.2.2.1 then true
      else !(Hb.f (b.getD x.1.1.toNat i64.dflt,())).1)
     (Jv (Rd.back ((false,()),())))
     (Jv (Rd.next ((I6.wrap (x.1.1+1),x.1.2.1,a.1,a.1.getD x.1.1.toNat i64.dflt,b.getD x.1.1.toNat i64.dflt,()),(x.2.1.1,b,()),()))))))
  (Jv (Rd.out ((),())))
def za2:ah prog (ww f185 0) ke.M ke QL:=
 ah.of_run Bw (bs:=0) (Λ:=Ah) rfl rfl rfl (λE=>nt _ 0) (λx=>by kernel_rfl)
def quk {b:Bool} (h:(!b)=true):b=false:=by cases b<;>first|rfl|cases h
def qui {b:Bool} (h:(!b)=false):b=true:=by cases b<;>first|rfl|cases h
structure InvR (i n:Int) (l at_ val:List Int):Prop where
 same:l=at_
 len:n=l.length
 both:at_.length=val.length
 lo:0<=i
 hi:i<=n
 big:(l.length:Int)<=9223372036854775807
def FR (x:ke.M.X):Fr ke.Out:=
 Jd (InvR x.1.1 x.1.2.1 x.1.2.2.1 x.2.1.1 x.2.1.2.1)
  (Jb (ge (x.1.2.2.1.drop x.1.1.toNat) (x.2.1.2.1.drop x.1.1.toNat) x.1.2.2.2.1 x.1.2.2.2.2.1) (Jv (Rd.out ((),()))) (Jv (Rd.back ((false,()),()))))
def qqt (i n:Int) (l:List Int) (d v:Int) (at_ val:List Int) (hinv:InvR i n l at_ val) (Q:ke.Out->Prop)
  (hq:(Jb (ge (l.drop i.toNat) (val.drop i.toNat) d v) (Jv (Rd.out ((),()))) (Jv (Rd.back ((false,()),()))):Fr ke.Out).satP Q) :
  (QL ((i,n,l,d,v,()),(at_,val,()),())).satP λ
   |.next x'=>InvR x'.1.1 x'.1.2.1 x'.1.2.2.1 x'.2.1.1 x'.2.1.2.1/\(x'.1.2.1-x'.1.1).toNat<(n-i).toNat/\(FR x').satP Q
   |.out y=>Q (.out y)
   |.back z=>Q (.back z)
   |.pan p=>Q (.pan p):=by
 obtain⟨rfl,rfl,h3,h4,h5,h6⟩:=hinv;refine⟨λhi=>?_,λhi=>?_⟩
 ·have hi':i<l.length:=by simpa using hi
  have hl:i.toNat<l.length:=by omega
  have hv:i.toNat<val.length:=by omega
  have e1:l.drop i.toNat=l[i.toNat]::l.drop (i.toNat+1):=ual hl;have e2:val.drop i.toNat=val[i.toNat]::val.drop (i.toNat+1):=ual hv;have g1:l.getD i.toNat i64.dflt=l[i.toNat]:=by rw[uah,uap hl]; rfl
  have g2:val.getD i.toNat i64.dflt=val[i.toNat]:=by rw[uah,uap hv]; rfl
  rw[e1,e2] at hq;generalize hx:l[i.toNat]=x at *;generalize hy:val[i.toNat]=y at *;have hw:I6.wrap (i+1)=i+1:=IntWalk.i64_in _ (by omega);have hn:(i+1).toNat=i.toNat+1:=by omega
  refine⟨⟨h4,hi'⟩,⟨h4,by show i<(val.length:Int); omega⟩,?_⟩;show((bif bif bif decide (l.getD i.toNat i64.dflt<=d) then true else decide (l.getD i.toNat i64.dflt>292194) then true else val.getD i.toNat i64.dflt==v then true else !(iq (val.getD i.toNat i64.dflt)))=true->Q (Rd.back ((false,()),()))) /\
   ((bif bif bif decide (l.getD i.toNat i64.dflt<=d) then true else decide (l.getD i.toNat i64.dflt>292194) then true else val.getD i.toNat i64.dflt==v then true else !(iq (val.getD i.toNat i64.dflt)))=false ->
    InvR (I6.wrap (i+1)) l.length l l val/\((l.length:Int)-I6.wrap (i+1)).toNat<((l.length:Int)-i).toNat /\
     (FR ((I6.wrap (i+1),(l.length:Int),l,l.getD i.toNat i64.dflt,val.getD i.toNat i64.dflt,()),(l,val,()),())).satP Q)
  rw[g1,g2,hw];have hcond:(bif bif bif decide (x<=d) then true else decide (x>292194) then true else y==v then true else !(iq y)) = !(decide (d<x)&&(decide (x<=292194)&&(!(y==v)&&iq y))):=by
   have a1:decide (x<=d) = !decide (d<x):=by by_cases h:x<=d<;>simp[h]<;>omega
   have a2:decide (x>292194) = !decide (x<=292194):=by by_cases h:x<=292194<;>simp[h]<;>omega
   rw[a1,a2];cases decide (d<x)<;>cases decide (x<=292194)<;>cases (y==v)<;>cases iq y<;>rfl
  rw[hcond];have hri:ge (x::l.drop (i.toNat+1)) (y::val.drop (i.toNat+1)) d v=((decide (d<x)&&(decide (x<=292194)&&(!(y==v)&&iq y)))&&ge (l.drop (i.toNat+1)) (val.drop (i.toNat+1)) x y):=rfl;rw[hri] at hq;refine⟨λhb=>?_,λhb=>?_⟩
  ·have hb':(decide (d<x)&&(decide (x<=292194)&&(!(y==v)&&iq y)))=false:=quk hb;rw[hb'] at hq;exact hq.2 rfl
  ·have hb':(decide (d<x)&&(decide (x<=292194)&&(!(y==v)&&iq y)))=true:=qui hb;rw[hb',uej] at hq;have hI:InvR (i+1) l.length l l val:=⟨rfl,rfl,h3,by omega,by omega,h6⟩;refine⟨hI,by omega,hI,?_⟩;show(Jb (ge (l.drop (i+1).toNat) (val.drop (i+1).toNat) x y) (Jv (Rd.out ((),()))) (Jv (Rd.back ((false,()),()))):Fr ke.Out).satP Q;rw[hn];exact hq
 ·have hi':¬ i<l.length:=by simpa using hi
  have hl:l.drop i.toNat=[]:=ua0 (by omega);rw[hl] at hq;exact hq.1 rfl
def qr7:ah prog (.loop (ww f185 0)) ke.M ke FR:=by
 refine ah.loop (n:=48) (id:=0) za2 (inv:=λx=>InvR x.1.1 x.1.2.1 x.1.2.2.1 x.2.1.1 x.2.1.2.1) (μ:=λx=>(x.1.2.1-x.1.1).toNat) ?_ (λx Q h=>h.1);rintro⟨⟨i,n,l,d,v,_⟩,⟨at_,val,_⟩,_⟩ hinv Q hq;exact qqt i n l d v at_ val hinv Q hq.2
def ΛR:Nat->St->Option Tr:=λ_=>ke.han Mj ke.M FR
def qmk (x:aq [.d bj]):Fr (ae [.bool]):=
 let a:=Int.toNat 0;Jb ((x.1.1.length:Int) != (x.1.2.1.length:Int)) (Jv (false,()))
  (Jd (InvR 0 x.1.1.length x.1.1 x.1.1 x.1.2.1)
   (Jb (ge (x.1.1.drop a) (x.1.2.1.drop a) 0 0) (Jv (true,())) (Jv (false,()))))
def qzk:aa prog 185 (aL [.d bj] [.bool] qmk):=
 mY Bw (Λ:=ΛR) (fn:=f185) (([],[],()),()) (by kernel_rfl) (λc E hc=>Sv hc (by kernel_rfl) (b:=ww f185 0) (by kernel_rfl) (ah.han Bw rfl qr7)) (λxs=>by kernel_rfl)
def lh (f:bj.den):Bool:=decide (f.1.length=f.2.1.length)&&ge f.1 f.2.1 0 0
def qb7:Ct:=⟨[.d bj],[.bool],λx=>(lh x.1,()),λ_=>[]⟩
def qzl:aa prog 185 qb7:=
 conv qzk _ _ λw F xs vs hr _=>by
  obtain⟨⟨at_,val,_⟩,_⟩:=xs;obtain⟨v,vs',rfl,hv,_⟩:=hr;have hwf:=aD.wf hv.2.2;have hlen:(at_.length:Int)<=9223372036854775807:=by
   have:=hwf.1.1;simp only[maxLen] at this;omega
  by_cases hl:at_.length=val.length
  ·have hne:((at_.length:Int) != (val.length:Int))=false:=by simp[hl]
   refine⟨⟨λhb=>?_,λ_=>⟨⟨rfl,rfl,hl,ufb _,by omega,hlen⟩,⟨λ_=>uT,λ_=>uT⟩⟩⟩,?_⟩
   ·trivial
   ·show(if ((at_.length:Int) != (val.length:Int))=true then (false,()) else if ge at_ val 0 0=true then (true,()) else (false,()))=(decide (at_.length=val.length)&&ge at_ val 0 0,());rw[hne,ud8 hl];cases ge at_ val 0 0<;>rfl
  ·have hne:((at_.length:Int) != (val.length:Int))=true:=by simp; omega
   refine⟨⟨λ_=>uT,λhb=>?_⟩,?_⟩
   ·have hb':((at_.length:Int) != (val.length:Int))=false:=hb;rw[hne] at hb';cases hb'
   ·show(if ((at_.length:Int) != (val.length:Int))=true then (false,()) else _)=(decide (at_.length=val.length)&&ge at_ val 0 0,());rw[hne,udt hl];rfl
end Go.Proofs.YtgieagiaagoogaaGreat
namespace Go.Proofs.YtgieagiaagoogaaGreat
open Go Go.Ab Go.RowKit Go.Proofs Go.Shelf Tryz
open Go.Ab.Fr renaming val->Jv,need->Jd,br->Jb
attribute [local go_sem] Oper.semAt_some
def UT {w:World} {F:Nat->Prop} {l:List Int} {v:Value} (h:aD w F bE l (λ_ u=>u=v)) :
  ∃ A c,v = .slice A l.length c/\l.length<=c/\c<=maxLen/\(0<l.length->∃ b off,A=some ⟨b,off,none⟩/\F b/\∀ (i:Nat) (x:Int),l[i]? = some x->w.cell? ⟨b,off+i,none⟩=some (.int .i64 x) /\ -9223372036854775808<=x/\x<=9223372036854775807):=by
 obtain⟨A,c,rfl,h1,h2,h3⟩:=h;refine⟨A,c,rfl,h1,h2,λhp=>?_⟩;obtain⟨ad,rfl,hF,hc,_⟩:=h3 0 l[0] (uap hp);have hs:ad.spot=none:=by
  have hc':w.cell? (ad.add (0*i64.size+0))=some (.int .i64 l[0]):=hc;have he:ad.add (0*i64.size+0)=ad:=by simp[Addr.add]
  rw[he] at hc';unfold World.cell? at hc';split at hc'
  ·split at hc'
   ·cases hc'
   ·rename_i hsp;cases hsp2:ad.spot with
    |none=>rfl
    |some _=>rw[hsp2] at hsp; exact absurd rfl hsp
  ·cases hc'
 obtain⟨b,off,sp⟩:=ad;simp only at hs;subst hs;refine⟨b,off,rfl,hF,λi x hx=>?_⟩;obtain⟨ad,hA,_,hcx,hr⟩:=h3 i x hx;cases hA;have hcx':w.cell? ((⟨b,off,none⟩:Addr).add (i*1+0))=some (.int .i64 x):=hcx;have he:(⟨b,off,none⟩:Addr).add (i*1+0)=⟨b,off+i,none⟩:=by
  unfold Addr.add;split
  ·have:i=0:=by omega
   subst this;rfl
  ·simp
 rw[he] at hcx';exact⟨hcx',hr⟩
def fI (f:bj.den) (e:Int):List Int->Int->List (Int×Int×Int)
 |[],a=>[(a,e,cW f a)]
 |d::l,a=>if d<=a\/e<=d then fI f e l a else (a,d,cW f a)::fI f e l d
def dh (n₀ B1 B2:Nat) (W W':World):Prop:=Below n₀ W W'/\W'.heap[B1]? = W.heap[B1]? /\ W'.heap[B2]? = W.heap[B2]?
def dh.refl (n₀ B1 B2:Nat) (W:World):dh n₀ B1 B2 W W:=⟨ufi _ _,rfl,rfl⟩
def dh.trans {n₀ B1 B2:Nat} {A B C:World} (h:dh n₀ B1 B2 A B) (k:dh n₀ B1 B2 B C):dh n₀ B1 B2 A C:=⟨h.1.trans k.1,k.2.1.trans h.2.1,k.2.2.trans h.2.2⟩
def dh.below {n₀ B1 B2:Nat} {W W':World} (h:Below W.heap.size W W') (h0:n₀<=W.heap.size) (h1:B1<W.heap.size) (h2:B2<W.heap.size):dh n₀ B1 B2 W W':=⟨h.mono h0,h.block _ h1,h.block _ h2⟩
def BL {β:Type} {B:Nat} {J:β->World->Prop} (hJ:AbidesFrom B J) {s:β} {W W':World} (h:J s W) (hb:Below W.heap.size W W'):J s W':=
 hJ s W W' none h ⟨hb.os,hb.tape,hb.output,hb.size,λk hk _=>hb.block k hk⟩ (λr e=>nomatch e)
abbrev T7 (x:Int×Int×Int):Array Value:=#[.agg #[.int .i64 x.1,.int .i64 x.2.1],.int .i64 x.2.2]
def BI (f:bj.den) (va:Value) (W:World):Prop:=∀ d:Int,-9223372036854775808<=d->d<=9223372036854775807->Calls prog 206 #[va,.int .i64 d] W λe W'=>e = .returned (.int .i64 (cW f d))/\Below W.heap.size W W'
def ze1 {f:bj.den} {va:Value} {W:World} {F:Nat->Prop} (hb:∀ b,F b->b<W.heap.size) (hr:bq W F bj f va) (h1:f.1.Pairwise (· < ·)) (h2:f.1.length=f.2.1.length):BI f va W:=λd hd1 hd2=>by
 have hi:bq W F i64 d (.int .i64 d):=⟨rfl,⟨λh=>(by cases h),λ⟨cs,h⟩=>(by cases h)⟩,rfl,hd1,hd2⟩;refine(ze4.2 W F (f,d,()) [va,.int .i64 d] hb ⟨va,_,rfl,hr,_,[],rfl,hi,rfl⟩ ⟨h1,h2⟩).mono ?_;rintro e W' ⟨v,F',rfl,hbel,_,_,hv⟩;have hv':aM prog W' F' (λ_ _=>True) (gL i64 (cW f d)) v:=jV hv;have hv2:v = .int .i64 (cW f d):=hv'.2.1;exact⟨by rw[hv2],hbel⟩
end Go.Proofs.YtgieagiaagoogaaGreat
namespace Go.Proofs.YtgieagiaagoogaaGreat
open Go Go.Ab Go.RowKit Go.Proofs Go.Shelf Tryz
open Go.Ab.Fr renaming val->Jv,need->Jd,br->Jb
attribute [local go_sem] Oper.semAt_some
def aU {W:World} {b:Nat} {cs:Array Value} {t:TypeId} {x:Nat×Nat} (h:W.heap[b]? = some (.cells cs t x)) (i:Nat):W.cell? ⟨b,i,none⟩=cs[i]? := by
 simp[World.cell?,h]
structure RoundAt (n₀ B1 B2:Nat) (A:Option Addr) (at_:List Int) (va vb:Value) (e0 e1:Int) (f:bj.den) (W:World):Prop where
 b1:W.heap[B1]? = some (.cells #[va,vb] 190 (0,0))
 b2:W.heap[B2]? = some (.cells #[.int .i64 e0,.int .i64 e1] 31 (0,0))
 cells:0<at_.length->∃ b off,A=some ⟨b,off,none⟩/\b<n₀/\∀ (i:Nat) (x:Int),at_[i]? = some x->W.cell? ⟨b,off+i,none⟩=some (.int .i64 x) /\ -9223372036854775808<=x/\x<=9223372036854775807
 vals:BI f (.agg #[va,vb]) W
section
variable {α:Type} {g:α->Int×Int×Int}
def SL {β:Type} {g:α->β} {all pre:List α} {y:β} {rest:List β} (h:pre.map g++y::rest=all.map g) (hp:pre <+: all):∃ x,g x=y/\pre++[x] <+: all:=by
 obtain⟨t,rfl⟩:=hp;rw[udu] at h;have h':=List.append_cancel_left h;cases t with
 |nil=>cases h'
 |cons x t=>
  simp at h';exact⟨x,h'.1.symm,t,by simp⟩
def o7 (g:α->Int×Int×Int) (f:bj.den) (e1:Int) (at_:List Int) (all:List α) (k:Nat) (cur:Int) (pre:List α):Prop:=pre <+: all/\pre.map g++fI f e1 (at_.drop k) cur=all.map g
def o7.skip {f:bj.den} {e1:Int} {at_:List Int} {all:List α} {k:Nat} {cur:Int} {pre:List α} (h:o7 g f e1 at_ all k cur pre) {d:Int} (hd:at_[k]? = some d) (hc:d<=cur\/e1<=d):o7 g f e1 at_ all (k+1) cur pre:=by
 obtain⟨hk,rfl⟩:=uak.1 hd;refine⟨h.1,?_⟩;have h2:=h.2;rw[ual hk] at h2;rw[<- h2]
 conv=>rhs; unfold fI
 rw[if_pos hc]
def o7.step {f:bj.den} {e1:Int} {at_:List Int} {all:List α} {k:Nat} {cur:Int} {pre:List α} (h:o7 g f e1 at_ all k cur pre) {d:Int} (hd:at_[k]? = some d) (hc:¬ (d<=cur\/e1<=d)) :
  ∃ x,g x=(cur,d,cW f cur)/\o7 g f e1 at_ all (k+1) d (pre++[x])/\pre.length<all.length:=by
 obtain⟨hk,rfl⟩:=uak.1 hd;have h2:=h.2;rw[ual hk] at h2;unfold fI at h2;rw[if_neg hc] at h2;obtain⟨x,hx,hp⟩:=SL h2 h.1;refine⟨x,hx,⟨hp,?_⟩,?_⟩
 ·rw[<- h2];simp[hx]
 ·have:=hp.length_le;simp at this;omega
def o7.last {f:bj.den} {e1:Int} {at_:List Int} {all:List α} {k:Nat} {cur:Int} {pre:List α} (h:o7 g f e1 at_ all k cur pre) (hk:at_.length<=k) :
  ∃ x,g x=(cur,e1,cW f cur)/\pre++[x]=all/\pre.length<all.length:=by
 have h2:=h.2;rw[ua0 hk] at h2;obtain⟨x,hx,hp⟩:=SL h2 h.1;have hl:=ufv List.length h2;simp[fI] at hl;refine⟨x,hx,hp.eq_of_length (by simp; omega),by omega⟩
end
set_option maxRecDepth 100000 in
set_option maxHeartbeats 2000000 in
def qxo {α:Type} (g:α->Int×Int×Int) (all:List α) (n:Nat) (hn:1<=n) (l B1 B2 n₀:Nat) (A:Option Addr) (c:Nat) (at_:List Int) (vb:Value) (hvb:∃ A' n' c',vb = .slice A' n' c') (e0 e1:Int) (f:bj.den) (hlen:at_.length<=9223372036854775807) (he0 : -9223372036854775808<=e0/\e0<=9223372036854775807)
  (hall:all.map g=fI f e1 at_ e0) (J Jx:List α->World->Prop) (W:World) (hJ:AbidesFrom W.heap.size J) (hn0:n₀<=W.heap.size)
  (hY:∀ pre x W1,J pre W1->pre.length<all.length->YieldAt Fence.wide (n-1) prog l (T7 (g x)) W1 λe W'=>
   (e = .returned (.bool true)/\J (pre++[x]) W'/\dh n₀ B1 B2 W1 W')\/(e = .returned (.bool false)/\Jx (pre++[x]) W'))
  (hat:∀ W',dh n₀ B1 B2 W W'->RoundAt n₀ B1 B2 A at_ (.slice A at_.length c) vb e0 e1 f W') (h0:J [] W) :
  CallsIn Fence.wide n prog 205 #[.func (.yield l) #[] #[],.pointer (some ⟨B2,0,none⟩),.pointer (some ⟨B1,0,none⟩)] W λe W'=>(∃ v,e = .returned v) /\
   ((∃ xs,xs=all/\J xs W')\/(∃ pre,pre <+: all/\Jx pre W')):=by
 obtain⟨A',n',c',rfl⟩:=hvb;have hro:Fence.wide.round=none:=rfl;refine callsIn_of_wp func205 rfl trivial ?_ hro;simp only[ntmps205,uco,uc7,udj,Nat.reduceAdd,Nat.reduceSub,ubk,ubl,ucw,ubv,udk,uc2];have r0:=hat W (dh.refl _ _ _ _);have c10:W.cell? ⟨B1,0,none⟩=some (.slice A at_.length c):=aU r0.b1 0;have c11:W.cell? ⟨B1,1,none⟩=some (.slice A' n' c'):=aU r0.b1 1;have c20:W.cell? ⟨B2,0,none⟩=some (.int .i64 e0):=aU r0.b2 0;have c21:W.cell? ⟨B2,1,none⟩=some (.int .i64 e1):=aU r0.b2 1;have hlen':=hlen
 gi_wp2
 gi_loopw [4,12] (λu i wr=>∃ (k:Nat) (cur:Int) (pre:List α),k<=at_.length/\i = .int .i64 k/\u = .int .i64 cur/\(-9223372036854775808<=cur/\cur<=9223372036854775807)/\o7 g f e1 at_ all k cur pre/\J pre wr/\dh n₀ B1 B2 W wr)
  (λ_ i _=>at_.length-(intOf i).toNat)
 case atStart=>exact⟨0,e0,[],ufg _,rfl,rfl,he0,⟨List.nil_prefix,hall.symm⟩,h0,dh.refl _ _ _ _⟩
 case round=>
  obtain⟨k,cur,pre,hk,rfl,rfl,hcur,hrel,hJs,hkp⟩:=hrel;clear c10 c11 c20 c21 r0;have rr:=hat _ hkp;have c10:wr.cell? ⟨B1,0,none⟩=some (.slice A at_.length c):=aU rr.b1 0;have c11:wr.cell? ⟨B1,1,none⟩=some (.slice A' n' c'):=aU rr.b1 1;have c21:wr.cell? ⟨B2,1,none⟩=some (.int .i64 e1):=aU rr.b2 1;by_cases hlt:k<at_.length
  ·obtain⟨b,off,rfl,hb,hcx⟩:=rr.cells (by omega);obtain⟨d,hd⟩:∃ d,at_[k]? = some d:=⟨_,uap hlt⟩;obtain⟨hcd,hdr⟩:=hcx k d hd;clear hcx;have hb1:B1<wr.heap.size:=(uaf.1 rr.b1).1;have hb2:B2<wr.heap.size:=(uaf.1 rr.b2).1;have hn1:n₀<=wr.heap.size:=uen hn0 hkp.1.size;by_cases t1:d<=cur
   ·have ht1:decide (d<=cur)=true:=by simpa using t1
    have hn:=hrel.skip hd (.inl t1)
    gi_wp2
    exact⟨⟨k+1,cur,pre,by omega,by simp,rfl,hcur,hn,hJs,hkp⟩,by simp[intOf]; omega⟩
   ·have ht1:decide (d<=cur)=false:=by simpa using t1
    by_cases t2:e1<=d
    ·have ht2:decide (d>=e1)=true:=by simpa using t2
     have hn:=hrel.skip hd (.inr t2)
     gi_wp2
     exact⟨⟨k+1,cur,pre,by omega,by simp,rfl,hcur,hn,hJs,hkp⟩,by simp[intOf]; omega⟩
    ·have ht2:decide (d>=e1)=false:=by simpa using t2
     obtain⟨x,hgx,hst,hln⟩:=hrel.step hd (by omega)
     gi_wp2
     refine⟨uT,?_⟩;refine(callsIn_wide.2 (rr.vals cur hcur.1 hcur.2)).mono ?_;rintro e w1 ⟨rfl,hbel⟩;have hk1:=hkp.trans (dh.below hbel hn1 hb1 hb2);obtain⟨fn,tmps,assign,body,hy,hR⟩:=hY pre x w1 (BL hJ hJs hbel) hln;rw[hgx] at hy
     gi_wp2
     refine hR.mono ?_;rintro e W3 (⟨rfl,hJ3,hk3⟩|⟨rfl,hJx3⟩)
     ·gi_wp2
      go_roundw
      case rel=>exact⟨k+1,d,pre++[x],by omega,by simp,rfl,hdr,hst,hJ3,hk1.trans hk3⟩
      case measure=>simp[intOf]; omega
     ·gi_wp2
      refine ue1 (ue2 rfl _ _ _) rfl ?_;exact⟨⟨_,rfl⟩,.inr ⟨_,hst.1,hJx3⟩⟩
  ·obtain rfl:k=at_.length:=by omega
   obtain⟨x,hgx,hl,hln⟩:=hrel.last (ufa _);have hb1:B1<wr.heap.size:=(uaf.1 rr.b1).1;have hb2:B2<wr.heap.size:=(uaf.1 rr.b2).1;have hn1:n₀<=wr.heap.size:=uen hn0 hkp.1.size;have hmx:prog.follows .mixedOrders=true:=by kernel_rfl
   have hkd:dh n₀ B1 B2 W wr.drew:=hkp.trans ⟨⟨rfl,rfl,rfl,ufa _,λ_ _=>rfl⟩,rfl,rfl⟩;have rd:=hat _ hkd;have hJd:J pre wr.drew:=BL hJ hJs ⟨rfl,rfl,rfl,ufa _,λ_ _=>rfl⟩
   gi_wp2
   gi_region_with_o (first
    |(refine⟨uT,?_⟩; gi_at_call 206; refine(callsIn_wide.2 (rd.vals cur hcur.1 hcur.2)).mono ?_; rintro e w1 ⟨rfl,hbel⟩; have d21:w1.cell? ⟨B2,1,none⟩=some (.int .i64 e1):=aU (hat _ (hkd.trans (dh.below hbel hn1 hb1 hb2))).b2 1; obtain⟨fn,tmps,assign,body,hy,hR⟩:=hY pre x w1 (BL hJ hJd hbel) hln; rw[hgx] at hy)
    |(refine(hR.mono (R':=λe W'=>∃ bv,e = .returned (.bool bv)/\(if bv=true then J (pre++[x]) W' else Jx (pre++[x]) W')) (λe W' h=>h.elim (λh=>⟨true,h.1,h.2.1⟩) (λh=>⟨false,h.1,h.2⟩))).mono ?_; rintro e W3 ⟨bv,rfl,hJ3⟩))
   all_goals go_end0
   all_goals (refine⟨⟨_,rfl⟩,?_⟩; cases bv; exact .inr ⟨_,⟨[],by rw[udp]; exact hl⟩,hJ3⟩; exact .inl ⟨_,hl,hJ3⟩)
end Go.Proofs.YtgieagiaagoogaaGreat
namespace Go.Proofs.YtgieagiaagoogaaGreat
open Go Go.Ab Go.RowKit Go.Proofs Go.Shelf Tryz
open Go.Ab.Fr renaming val->Jv,need->Jd,br->Jb
attribute [local go_sem] Oper.semAt_some
def SE {v:Int}:iq v=true ↔ -4000000000000000000<=v/\v<=4000000000000000000:=by simp[iq]
def Li:{l r:List Int} -> {d v:Int}->ge l r d v=true->l.length=r.length->l.Pairwise (· < ·)/\(∀ x∈l,d<x/\x<=292194)/\∀ y∈r,iq y=true
 |[],[],_,_,_,_=>⟨List.Pairwise.nil,by simp,by simp⟩
 |[],_::_,_,_,_,hl=>by simp at hl
 |_::_,[],_,_,_,hl=>by simp at hl
 |a::l,b::r,d,v,h,hl=>by
  simp only[ge,uc9,ucs] at h;obtain⟨⟨h1,h2,h3,h4⟩,h5⟩:=h;obtain⟨i1,i2,i3⟩:=Li h5 (by simpa using hl);refine⟨ub8.2 ⟨λx hx=>(i2 x hx).1,i1⟩,λx hx=>?_,λy hy=>?_⟩
  ·rcases ueg.1 hx with rfl|hx
   ·exact⟨h1,h2⟩
   ·exact⟨ue0 h1 (i2 x hx).1,(i2 x hx).2⟩
  ·rcases ueg.1 hy with rfl|hy
   ·exact h4
   ·exact i3 y hy
def Lg {f:bj.den} (h:lh f=true):f.1.length=f.2.1.length/\f.1.Pairwise (· < ·)/\(∀ x∈f.1,0<x/\x<=292194)/\∀ y∈f.2.1,-4000000000000000000<=y/\y<=4000000000000000000:=by
 simp only[lh,uc9,ucs] at h;obtain⟨h1,h2,h3⟩:=Li h.2 h.1;exact⟨h.1,h1,h2,λy hy=>SE.1 (h3 y hy)⟩
def VY {f:bj.den} (h:∀ y∈f.2.1,-4000000000000000000<=y/\y<=4000000000000000000) (d:Int) : -4000000000000000000<=cW f d/\cW f d<=4000000000000000000:=by
 unfold cW;split
 ·omega
 ·rename_i k _;rw[uah];cases hk:f.2.1[k]? with
  |none=>simp
  |some y=>
   have:=h y (ube hk);simpa using this
def rV (x:Int×Int×Int):Prop:=1<=x.1/\x.1<x.2.1/\x.2.1<=292195 /\ -4000000000000000000<=x.2.2/\x.2.2<=4000000000000000000
def Ep {f:bj.den} (h:∀ y∈f.2.1,-4000000000000000000<=y/\y<=4000000000000000000) {e:Int} (he:e<=292195):(l:List Int)->(a:Int)->1<=a->a<e->∀ x∈fI f e l a,rV x
 |[],a,h1,h2,x,hx=>by
  simp only[fI,ucd] at hx;subst hx;exact⟨h1,h2,he,VY h a⟩
 |d::l,a,h1,h2,x,hx=>by
  unfold fI at hx;split at hx
  ·exact Ep h he l a h1 h2 x hx
  ·rename_i hc;rcases ueg.1 hx with rfl|hx
   ·exact⟨h1,by show a<d; omega,by show d<=292195; omega,VY h a⟩
   ·exact Ep h he l d (by omega) (by omega) x hx
abbrev ky:Type:={ x:Int×Int×Int // rV x }
def kq (q:Int×Int) (x:Int×Int×Int):Option (Int×Int):=
 if max x.2.2 (-x.2.2)>(4000000000000000000-q.2)/(x.2.1-x.1) then none else some (q.1+(x.2.1-x.1)*x.2.2,q.2+(x.2.1-x.1)*max x.2.2 (-x.2.2))
def eX:List (Int×Int×Int)->Int×Int->Option (Int×Int)
 |[],q=>some q
 |x::l,q=>(kq q x).bind (eX l)
def Vo (l m:List (Int×Int×Int)) (q:Int×Int):eX (l++m) q=(eX l q).bind (eX m):=by
 induction l generalizing q with
 |nil=>rfl
 |cons x l ih=>
  simp only[uc2,eX];cases kq q x with
  |none=>rfl
  |some q'=>exact ih q'
def yg (q:Int×Int):Prop:=0<=q.2/\q.2<=4000000000000000000 /\ -q.2<=q.1/\q.1<=q.2
def Vu {q q':Int×Int} {x:Int×Int×Int} (hx:rV x) (h:kq q x=some q') (hq:yg q):yg q'/\(x.2.1-x.1)*max x.2.2 (-x.2.2)<=4000000000000000000-q.2/\0<=(x.2.1-x.1)*max x.2.2 (-x.2.2) /\ -((x.2.1-x.1)*max x.2.2 (-x.2.2))<=(x.2.1-x.1)*x.2.2/\(x.2.1-x.1)*x.2.2<=(x.2.1-x.1)*max x.2.2 (-x.2.2):=by
 obtain⟨h1,h2,h3,h4,h5⟩:=hx;obtain⟨a,b,v⟩:=x;obtain⟨s,t⟩:=q;obtain⟨g1,g2,g3,g4⟩:=hq;simp only at *;unfold kq at h;split at h
 ·cases h
 ·rename_i hc;cases h;simp only at *;have hn:0<b-a:=by omega
  have hle:max v (-v)<=(4000000000000000000-t)/(b-a):=by omega
  have e1:(b-a)*max v (-v)<=4000000000000000000-t:=by
   have:=(Int.le_ediv_iff_mul_le hn).1 hle;rw[uez];exact this
  have e2:0<=(b-a)*max v (-v):=ud9 (by omega) (by omega);have e3:(b-a)*v<=(b-a)*max v (-v):=Int.mul_le_mul_of_nonneg_left (by omega) (by omega);have e4 : -((b-a)*max v (-v))<=(b-a)*v:=by
   rw[<- Int.mul_neg];exact Int.mul_le_mul_of_nonneg_left (by omega) (by omega)
  generalize (b-a)*max v (-v)=m at *;generalize (b-a)*v=k at *;refine⟨⟨?_,?_,?_,?_⟩,e1,e2,e4,e3⟩<;>simp only<;>omega
def eY (f:bj.den) (s:bR.den):Int×Int:=
 if lh f=true/\dd s=true then match eX (fI f s.2.1 f.1 s.1) (0,0) with
  |some q=>(q.1,0)
  |none=>(0,5)
 else (0,1)
def Cw:Ct:=⟨[.d bj,.d bR],[i64,i64],λx=>((eY x.1 x.2.1).1,(eY x.1 x.2.1).2,()),λ_=>[]⟩
set_option maxRecDepth 100000 in
set_option maxHeartbeats 1000000 in
def qxp (n:Nat) (A A':Option Addr) (l1 c1 l2 c2:Nat) (e0 e1:Int) (w:World) :
  CallsIn Fence.wide n prog 187 #[.agg #[.slice A l1 c1,.slice A' l2 c2],.agg #[.int .i64 e0,.int .i64 e1]] w λe w'=>
   e = .returned (.func (.func 205) #[] #[.pointer (some ⟨w.heap.size+1,0,none⟩),.pointer (some ⟨w.heap.size,0,none⟩)]) /\
   w'=(w.alloc (.cells #[.slice A l1 c1,.slice A' l2 c2] 190)).alloc (.cells #[.int .i64 e0,.int .i64 e1] 31):=by
 refine callsIn_of_wp func187 rfl trivial ?_ rfl;simp only[ntmps187,uco,uc7,udj,Nat.reduceAdd,Nat.reduceSub,ubk,ubl,ucw,ubv,udk,uc2]
 gi_wp2
 go_ret
 exact⟨rfl,rfl⟩
end Go.Proofs.YtgieagiaagoogaaGreat
namespace Go.Proofs.YtgieagiaagoogaaGreat
open Go Go.Ab Go.RowKit Go.Proofs Go.Shelf Tryz
open Go.Ab.Fr renaming val->Jv,need->Jd,br->Jb
attribute [local go_sem] Oper.semAt_some
def NX {f:FuncId} {ps:List PT} {g:aq ps->Bool} {ok:aq ps->List Prop} (h:aa prog f ⟨ps,[.bool],λx=>(g x,()),ok⟩) {w:World} {F:Nat->Prop} {xs:aq ps} {vs:List Value} (hb:∀ b,F b->b<w.heap.size) (hr:dX prog w F ps xs vs) (hok:aE (ok xs)) :
  Calls prog f vs.toArray w λe w'=>e = .returned (.bool (g xs))/\Below w.heap.size w w':=by
 refine(h.2 w F xs vs hb hr hok).mono ?_;rintro e w' ⟨v,F',rfl,hbel,_,_,hv⟩;have hv':aM prog w' F' (λ_ _=>True) (gL .bool (g xs)) v:=jV hv;have hv2:=hv'.2;exact⟨by rw[hv2],hbel⟩
structure Four (W:World) (z:Nat) (va vb x0 x1 x4 x5:Value):Prop where
 b0:W.heap[z]? = some (.cells #[va,vb] 190 (0,0))
 b1:W.heap[z+1]? = some (.cells #[x0,x1] 31 (0,0))
 b2:Boxed W (z+1+1) 3 x4
 b3:Boxed W (z+1+1+1) 57 x5
def Four.below {W W':World} {z m:Nat} {va vb x0 x1 x4 x5:Value} (h:Four W z va vb x0 x1 x4 x5) (hb:Below m W W') (hm:z+3<m):Four W' z va vb x0 x1 x4 x5:=
 ⟨(hb.block _ (by omega)).trans h.b0,(hb.block _ (by omega)).trans h.b1,(hb.block _ (by omega)).trans h.b2,(hb.block _ (by omega)).trans h.b3⟩
def Wz (w:World) (va vb x0 x1 x4 x5:Value) :
  Four ((((w.alloc (.cells #[va,vb] 190)).alloc (.cells #[x0,x1] 31)).alloc (.cells #[x4] 3)).alloc (.cells #[x5] 57)) w.heap.size va vb x0 x1 x4 x5:=by
 have h0:=World.alloc_heap_new w (.cells #[va,vb] 190);have h1:=World.alloc_heap_new (w.alloc (.cells #[va,vb] 190)) (.cells #[x0,x1] 31);have h2:=World.alloc_heap_new ((w.alloc (.cells #[va,vb] 190)).alloc (.cells #[x0,x1] 31)) (.cells #[x4] 3);have h3:=World.alloc_heap_new (((w.alloc (.cells #[va,vb] 190)).alloc (.cells #[x0,x1] 31)).alloc (.cells #[x4] 3)) (.cells #[x5] 57);simp only[ude] at h1 h2 h3;exact⟨(uc8 _ _ _ (by simp; omega)).trans ((uc8 _ _ _ (by simp only[ude]; omega)).trans ((uc8 _ _ _ (by simp only[ude]; omega)).trans h0)),
  (uc8 _ _ _ (by simp only[ude]; omega)).trans ((uc8 _ _ _ (by simp only[ude]; omega)).trans h1),
  (uc8 _ _ _ (by simp only[ude]; omega)).trans h2,h3⟩
def Four.cells {W:World} {z:Nat} {va vb x0 x1 x4 x5:Value} (h:Four W z va vb x0 x1 x4 x5) :
  W.cell? ⟨z,0,none⟩=some va/\W.cell? ⟨z,1,none⟩=some vb/\W.cell? ⟨z+1,0,none⟩=some x0/\W.cell? ⟨z+1,1,none⟩=some x1 /\
   W.cell? ⟨z+1+1,0,none⟩=some x4/\W.frozen? ⟨z+1+1,0,none⟩=false/\W.cell? ⟨z+1+1+1,0,none⟩=some x5/\W.frozen? ⟨z+1+1+1,0,none⟩=false:=
 ⟨aU h.b0 0,aU h.b0 1,aU h.b1 0,aU h.b1 1,h.b2.cell,h.b2.frozen,h.b3.cell,h.b3.frozen⟩
set_option maxRecDepth 100000 in
set_option maxHeartbeats 4000000 in
def zc3 (f:bj.den) (A A':Option Addr) (l1 c1 l2 c2:Nat) (e0 e1:Int) (w:World)
  (hR:∀ W,Below w.heap.size w W->Calls prog 185 #[.agg #[.slice A l1 c1,.slice A' l2 c2]] W λe w'=>e = .returned (.bool (lh f))/\Below W.heap.size W w')
  (hF:∀ W,Calls prog 186 #[.agg #[.int .i64 e0,.int .i64 e1]] W λe w'=>e = .returned (.bool (dd (e0,e1,())))/\Below W.heap.size W w')
  (hno:¬ (lh f=true/\dd (e0,e1,())=true)) :
  CallsIn Fence.wide 8 prog 151 #[.agg #[.slice A l1 c1,.slice A' l2 c2],.agg #[.int .i64 e0,.int .i64 e1]] w λe w'=>e = .returned (.tuple #[.int .i64 0,.int .i64 1])/\Below w.heap.size w w':=by
 refine callsIn_of_wp func151 rfl trivial ?_ rfl;simp only[ntmps151,uco,uc7,udj,Nat.reduceAdd,Nat.reduceSub,ubk,ubl,ucw,ubv,udk,uc2];generalize hb1:lh f=b1 at *;generalize hb2:dd (e0,e1,())=b2 at *;have hB4:Below w.heap.size w ((((w.alloc (.cells #[.slice A l1 c1,.slice A' l2 c2] 190)).alloc (.cells #[.int .i64 e0,.int .i64 e1] 31)).alloc (.cells #[.int .i64 0] 3)).alloc (.cells #[.int .i64 0] 57)):=
  ((((ufi _ w).alloc (ufa _) _).alloc (by simp) _).alloc (by simp; omega) _).alloc (by simp; omega) _
 have hS:=Wz w (.slice A l1 c1) (.slice A' l2 c2) (.int .i64 e0) (.int .i64 e1) (.int .i64 0) (.int .i64 0);have hz:w.heap.size+3<((((w.alloc (.cells #[.slice A l1 c1,.slice A' l2 c2] 190)).alloc (.cells #[.int .i64 e0,.int .i64 e1] 31)).alloc (.cells #[.int .i64 0] 3)).alloc (.cells #[.int .i64 0] 57)).heap.size:=by simp
 have HS:=Lib.hid hS;have HZ:=Lib.hid hz;cases b1
 ·gi_wp2_with (refine⟨uT,?_⟩; gi_at_call 185; refine(callsIn_wide.2 (hR _ hB4)).mono ?_; rintro e w1 ⟨rfl,hb⟩; obtain⟨k0,k1,k2,k3,k4,k5,k6,k7⟩:=(HS.out.below hb HZ.out).cells)
  refine⟨uT,?_⟩
  gi_wp2
  refine ue1 (by simp[results,results151,go_sem,k4,k6]) rfl ⟨rfl,?_⟩;exact(((hB4.trans (hb.mono (by simp; omega))).setCell (by simp; omega) _).setCell (by simp; omega) _)
 ·cases b2
  ·gi_wp2_with (first|(refine⟨uT,?_⟩; gi_at_call 185; refine(callsIn_wide.2 (hR _ hB4)).mono ?_; rintro e w1 ⟨rfl,hb⟩; obtain⟨k0,k1,k2,k3,k4,k5,k6,k7⟩:=(HS.out.below hb HZ.out).cells)|(refine⟨uT,?_⟩; gi_at_call 186; refine(callsIn_wide.2 (hF _)).mono ?_; rintro e w2 ⟨rfl,hb2⟩; obtain⟨m0,m1,m2,m3,m4,m5,m6,m7⟩:=((HS.out.below hb HZ.out).below hb2 (ub9 HZ.out hb.size)).cells))
   refine ue1 (by simp[results,results151,go_sem,m4,m6]) rfl ⟨rfl,?_⟩;exact((((hB4.trans (hb.mono (by simp; omega))).trans (hb2.mono (uen (hB4.trans (hb.mono (by simp; omega))).size (ufa _)))).setCell (by simp; omega) _).setCell (by simp; omega) _)
  ·exact absurd ⟨rfl,rfl⟩ hno
def qxq (m:Nat) (hm:1<=m) (f:bj.den) (A A':Option Addr) (c1 l2 c2:Nat) (e0 e1:Int) (all:List ky) (hall:all.map Subtype.val=fI f e1 f.1 e0) (hlen:f.1.length<=9223372036854775807) (he0 : -9223372036854775808<=e0/\e0<=9223372036854775807) (w:World) (B1 B2:Nat) (W0:World) (h0:Below w.heap.size w W0)
  (hb1:W0.heap[B1]? = some (.cells #[.slice A f.1.length c1,.slice A' l2 c2] 190 (0,0))) (hb2:W0.heap[B2]? = some (.cells #[.int .i64 e0,.int .i64 e1] 31 (0,0)))
  (hcells:∀ W,Below w.heap.size w W->0<f.1.length->∃ b off,A=some ⟨b,off,none⟩/\b<w.heap.size/\∀ (i:Nat) (x:Int),f.1[i]? = some x->W.cell? ⟨b,off+i,none⟩=some (.int .i64 x) /\ -9223372036854775808<=x/\x<=9223372036854775807)
  (hvals:∀ W,Below w.heap.size w W->BI f (.agg #[.slice A f.1.length c1,.slice A' l2 c2]) W) :
  SeqStopsK Fence.wide m prog 205 #[.pointer (some ⟨B2,0,none⟩),.pointer (some ⟨B1,0,none⟩)] (λx:ky=>T7 x.1) (dh w.heap.size B1 B2) (λxs=>xs=all) (λpre=>pre <+: all) all.length W0:=λl J Jx W hW hJ hJx hY hJ0=>by
 have g1:B1<W0.heap.size:=(uaf.1 hb1).1;have g2:B2<W0.heap.size:=(uaf.1 hb2).1;have hB:Below w.heap.size w W:=h0.trans (hW.mono h0.size);refine qxo Subtype.val all m hm l B1 B2 w.heap.size A c1 f.1 (.slice A' l2 c2) ⟨_,_,_,rfl⟩ e0 e1 f hlen he0 hall J Jx W hJ hB.size hY (λW' hk=>?_) hJ0;have hB':=hB.trans hk.1;exact⟨hk.2.1.trans ((hW.block _ g1).trans hb1),hk.2.2.trans ((hW.block _ g2).trans hb2),hcells W' hB',hvals W' hB'⟩
def ZW (o:Option (Int×Int)) (e:Ending):Prop:=match o with
 |some q=>e = .returned (.tuple #[.int .i64 q.1,.int .i64 0])
 |none=>e = .returned (.tuple #[.int .i64 0,.int .i64 5])
structure SumI (w:World) (z0 b4 b5 b6 b7:Nat) (pre:List ky) (W:World) (q:Int×Int):Prop where
 sum:eX (pre.map Subtype.val) (0,0)=some q
 inv:yg q
 x6:Boxed W b6 3 (.int .i64 q.1)
 x7:Boxed W b7 3 (.int .i64 q.2)
 x4:Boxed W b4 3 (.int .i64 0)
 x5:Boxed W b5 57 (.int .i64 0)
 bel:Below w.heap.size w W
 sz:z0<=W.heap.size
structure SumX (w:World) (b4 b5:Nat) (c:Code) (pre:List ky) (W:World):Prop where
 ret:c = .ret
 sum:eX (pre.map Subtype.val) (0,0)=none
 x4:Boxed W b4 3 (.int .i64 0)
 x5:Boxed W b5 57 (.int .i64 5)
 bel:Below w.heap.size w W
def mM {X Y:World} {row:Option Nat} {B b:Nat} {t:TypeId} {v:Value} (h:Boxed X b t v) (hg:X.grownBy Y row) (hr:∀ r,row=some r->B<=r/\∃ o:Obj,X.heap[r]? = some o/\o.isCells=false):Boxed Y b t v:=
 boxed_own b t (λ(_:Unit)=>v) () X Y row h hg (λr e=>(hr r e).2)
def zcv {w:World} {z0 b4 b5 b6 b7 B:Nat} (hB:w.heap.size<=B):OwnFrom B (λpre W=>∃ q,SumI w z0 b4 b5 b6 b7 pre W q):=λpre X Y row hs hg hr=>by
 obtain⟨q,h⟩:=hs;exact⟨q,h.sum,h.inv,mM h.x6 hg hr,mM h.x7 hg hr,mM h.x4 hg hr,mM h.x5 hg hr,h.bel.grown hg h.bel.size (λk e=>uen hB (hr k e).1),uen h.sz hg.size⟩
def zc1 {w:World} {b4 b5 B:Nat} (hB:w.heap.size<=B) (c:Code):OwnFrom B (λpre W=>SumX w b4 b5 c pre W):=λpre X Y row h hg hr=>
 ⟨h.ret,h.sum,mM h.x4 hg hr,mM h.x5 hg hr,h.bel.grown hg h.bel.size (λk e=>uen hB (hr k e).1)⟩
def N6 (w0:Nat) (a:Int×Int×Int->Nat->Act) (x:ky) (a':Act) (W:World):Prop:=∃ Bx,w0<=Bx/\W.heap[Bx]? = some (.cells #[.int .i64 x.1.1,.int .i64 x.1.2.1] 31 (0,0))/\a'=a x.1 Bx
def zcu {w0 B:Nat} {a:Int×Int×Int->Nat->Act} (x:ky) (a':Act):OwnFrom B (λ(_:Unit) W=>N6 w0 a x a' W):=λ_ X Y row hs hg hr=>by
 obtain⟨Bx,h1,h2,h3⟩:=hs;refine⟨Bx,h1,(hg.block Bx (uaf.1 h2).1 (λe=>?_)).trans h2,h3⟩;obtain⟨_,o,ho,hc⟩:=hr Bx e.symm;rw[h2] at ho;cases ho;cases hc
def Km (v:Int):max v (-v)=if v < -v then -v else v:=by split<;>omega
def Vz {pre:List ky} {q:Int×Int} (h:eX (pre.map Subtype.val) (0,0)=some q) (x:ky):eX ((pre++[x]).map Subtype.val) (0,0)=kq q x.1:=by
 rw[udu,Vo,h];show(kq q x.1).bind (eX [])=_;cases kq q x.1<;>rfl
def EM (W:World) {b k:Nat} (v:Value) (h:k≠b):(W.setCell ⟨b,0,none⟩ v).heap[k]? = W.heap[k]? := by
 by_cases hk:k<W.heap.size
 ·exact(grownBy_setCell' W b v).block k hk (λe=>h (by cases e; rfl))
 ·rw[uaz (by rw[uce]; omega),uaz (by omega)]
def Vn {w W:World} {z0 b4 b5 b6 b7:Nat} {pre:List ky} {s a x0 x1 v:Int} (hi:SumI w z0 b4 b5 b6 b7 pre W (s,a)) (hx:rV (x0,x1,v)) (hc:(4000000000000000000-a)/(x1-x0)<if v < -v then -v else v)
  (h45:b4≠b5) (h4:w.heap.size<=b4) (h5:w.heap.size<=b5) :
  SumX w b4 b5 .ret (pre++[⟨(x0,x1,v),hx⟩]) ((W.setCell ⟨b4,0,none⟩ (.int .i64 0)).setCell ⟨b5,0,none⟩ (.int .i64 5)):=by
 refine⟨rfl,?_,(hi.x4.set _).other h45 _,(hi.x5.other (Ne.symm h45) _).set _,(hi.bel.setCell h4 _).setCell h5 _⟩;rw[Vz hi.sum];unfold kq;rw[if_pos];rw[Km];exact hc
def Vm {w W:World} {z0 b4 b5 b6 b7:Nat} {pre:List ky} {s a x0 x1 v m:Int} (hi:SumI w z0 b4 b5 b6 b7 pre W (s,a)) (hx:rV (x0,x1,v)) (hc:(if v < -v then -v else v)<=(4000000000000000000-a)/(x1-x0)) (hm:m=if v < -v then -v else v)
  (h46:b4≠b6) (h47:b4≠b7) (h56:b5≠b6) (h57:b5≠b7) (h67:b6≠b7) (h6:w.heap.size<=b6) (h7:w.heap.size<=b7) :
  SumI w z0 b4 b5 b6 b7 (pre++[⟨(x0,x1,v),hx⟩]) ((W.setCell ⟨b6,0,none⟩ (.int .i64 (wrap64 (s+wrap64 ((x1-x0)*v))))).setCell ⟨b7,0,none⟩ (.int .i64 (wrap64 (a+wrap64 ((x1-x0)*m))))) (s+(x1-x0)*v,a+(x1-x0)*max v (-v)):=by
 have hs:kq (s,a) (x0,x1,v)=some (s+(x1-x0)*v,a+(x1-x0)*max v (-v)):=by
  unfold kq;rw[if_neg];show ¬ max v (-v)>(4000000000000000000-a)/(x1-x0);omega
 have hmm:m=max v (-v):=by rw[Km]; exact hm
 obtain⟨hinv,k1,k2,k3,k4⟩:=Vu hx hs hi.inv;obtain⟨j1,j2,j3,j4⟩:=hi.inv;simp only at k1 k2 k3 k4 j1 j2 j3 j4;subst hmm;have e1:wrap64 (s+wrap64 ((x1-x0)*v))=s+(x1-x0)*v:=by
  rw[IntWalk.wrap64_in ((x1-x0)*v) (by omega),IntWalk.wrap64_in _ (by omega)]
 have e2:wrap64 (a+wrap64 ((x1-x0)*max v (-v)))=a+(x1-x0)*max v (-v):=by
  rw[IntWalk.wrap64_in ((x1-x0)*max v (-v)) (by omega),IntWalk.wrap64_in _ (by omega)]
 rw[e1,e2];exact⟨by rw[Vz hi.sum]; exact hs,hinv,(hi.x6.set _).other h67 _,(hi.x7.other (Ne.symm h67) _).set _,(hi.x4.other h46 _).other h47 _,(hi.x5.other h56 _).other h57 _,
  (hi.bel.setCell h6 _).setCell h7 _,by rw[uce,uce]; exact hi.sz⟩
def Ss {n₀ B1 B2 b c:Nat} (W:World) (u v:Value) (hb:n₀<=b) (hc:n₀<=c) (h1:B1≠b) (h2:B1≠c) (h3:B2≠b) (h4:B2≠c):dh n₀ B1 B2 W ((W.setCell ⟨b,0,none⟩ u).setCell ⟨c,0,none⟩ v):=
 ⟨((ufi n₀ W).setCell hb _).setCell hc _,(EM _ _ h2).trans (EM _ _ h1),(EM _ _ h4).trans (EM _ _ h3)⟩
set_option maxRecDepth 100000 in
set_option maxHeartbeats 4000000 in
def zc5 (f:bj.den) (A A':Option Addr) (c1 l2 c2:Nat) (e0 e1:Int) (w:World)
  (hR:∀ W,Below w.heap.size w W->Calls prog 185 #[.agg #[.slice A f.1.length c1,.slice A' l2 c2]] W λe w'=>e = .returned (.bool true)/\Below W.heap.size W w')
  (hF:∀ W,Calls prog 186 #[.agg #[.int .i64 e0,.int .i64 e1]] W λe w'=>e = .returned (.bool true)/\Below W.heap.size W w')
  (all:List ky) (hall:all.map Subtype.val=fI f e1 f.1 e0) (hlen:f.1.length<=9223372036854775807) (he0 : -9223372036854775808<=e0/\e0<=9223372036854775807)
  (hcells:∀ W,Below w.heap.size w W->0<f.1.length->∃ b off,A=some ⟨b,off,none⟩/\b<w.heap.size/\∀ (i:Nat) (x:Int),f.1[i]? = some x->W.cell? ⟨b,off+i,none⟩=some (.int .i64 x) /\ -9223372036854775808<=x/\x<=9223372036854775807)
  (hvals:∀ W,Below w.heap.size w W->BI f (.agg #[.slice A f.1.length c1,.slice A' l2 c2]) W) :
  CallsIn Fence.wide 8 prog 151 #[.agg #[.slice A f.1.length c1,.slice A' l2 c2],.agg #[.int .i64 e0,.int .i64 e1]] w λe w'=>ZW (eX (all.map Subtype.val) (0,0)) e/\Below w.heap.size w w':=by
 refine callsIn_of_wp_marks func151 rfl trivial ?_ rfl;simp only[ntmps151,uco,uc7,udj,Nat.reduceAdd,Nat.reduceSub,ubk,ubl,ucw,ubv,udk,uc2];have hB4:Below w.heap.size w ((((w.alloc (.cells #[.slice A f.1.length c1,.slice A' l2 c2] 190)).alloc (.cells #[.int .i64 e0,.int .i64 e1] 31)).alloc (.cells #[.int .i64 0] 3)).alloc (.cells #[.int .i64 0] 57)):=
  ((((ufi _ w).alloc (ufa _) _).alloc (by simp) _).alloc (by simp; omega) _).alloc (by simp; omega) _
 have hS:=Wz w (.slice A f.1.length c1) (.slice A' l2 c2) (.int .i64 e0) (.int .i64 e1) (.int .i64 0) (.int .i64 0);have hz:w.heap.size+3<((((w.alloc (.cells #[.slice A f.1.length c1,.slice A' l2 c2] 190)).alloc (.cells #[.int .i64 e0,.int .i64 e1] 31)).alloc (.cells #[.int .i64 0] 3)).alloc (.cells #[.int .i64 0] 57)).heap.size:=by simp
 have HS:=Lib.hid hS;have HZ:=Lib.hid hz;clear hS hz
 gi_wp2_with (first|(refine⟨uT,?_⟩; gi_at_call 185; refine(callsIn_wide.2 (hR _ hB4)).mono ?_; rintro e w1 ⟨rfl,hb⟩; obtain⟨k0,k1,k2,k3,k4,k5,k6,k7⟩:=(HS.out.below hb HZ.out).cells)|(refine⟨uT,?_⟩; gi_at_call 186; refine(callsIn_wide.2 (hF _)).mono ?_; rintro e w2 ⟨rfl,hb2⟩; have HW2:=Lib.hid ((HS.out.below hb HZ.out).below hb2 (ub9 HZ.out hb.size)); have HZ2:=Lib.hid (ub9 (ub9 HZ.out hb.size) hb2.size); have HW3:=Lib.hid (HW2.out.below (((ufi w2.heap.size w2).alloc (ufa _) (.cells #[.int .i64 0] 3)).alloc (by simp) (.cells #[.int .i64 0] 3)) HZ2.out); obtain⟨m0,m1,m2,m3,m4,m5,m6,m7⟩:=HW2.out.cells; obtain⟨n0,n1,n2,n3,n4,n5,n6,n7⟩:=HW3.out.cells)|(refine⟨uT,?_⟩; gi_at_call 187; refine(qxp _ _ _ _ _ _ _ _ _ _).mono ?_; rintro e w3 ⟨rfl,rfl⟩))
 obtain⟨z2,hz2⟩:∃ z2,w2.heap.size=z2:=⟨_,rfl⟩;have hbel2:Below w.heap.size w w2:=(hB4.trans (hb.mono (by simp; omega))).trans (hb2.mono (uen (by simp; omega) hb.size));have q0:=World.alloc_heap_new w2 (.cells #[.int .i64 0] 3);have q1:=World.alloc_heap_new (w2.alloc (.cells #[.int .i64 0] 3)) (.cells #[.int .i64 0] 3);have q2:=World.alloc_heap_new ((w2.alloc (.cells #[.int .i64 0] 3)).alloc (.cells #[.int .i64 0] 3)) (.cells #[.slice A f.1.length c1,.slice A' l2 c2] 190);have q3:=World.alloc_heap_new (((w2.alloc (.cells #[.int .i64 0] 3)).alloc (.cells #[.int .i64 0] 3)).alloc (.cells #[.slice A f.1.length c1,.slice A' l2 c2] 190)) (.cells #[.int .i64 e0,.int .i64 e1] 31);simp only[ude] at q1 q2 q3;have r0:=(uc8 (((w2.alloc (.cells #[.int .i64 0] 3)).alloc (.cells #[.int .i64 0] 3)).alloc (.cells #[.slice A f.1.length c1,.slice A' l2 c2] 190)) (.cells #[.int .i64 e0,.int .i64 e1] 31) w2.heap.size (by simp only[ude]; omega)).trans ((uc8 _ _ _ (by simp only[ude]; omega)).trans ((uc8 _ _ _ (by simp only[ude]; omega)).trans q0));have r1:=(uc8 (((w2.alloc (.cells #[.int .i64 0] 3)).alloc (.cells #[.int .i64 0] 3)).alloc (.cells #[.slice A f.1.length c1,.slice A' l2 c2] 190)) (.cells #[.int .i64 e0,.int .i64 e1] 31) (w2.heap.size+1) (by simp only[ude]; omega)).trans ((uc8 _ _ _ (by simp only[ude]; omega)).trans q1);have r2:=(uc8 (((w2.alloc (.cells #[.int .i64 0] 3)).alloc (.cells #[.int .i64 0] 3)).alloc (.cells #[.slice A f.1.length c1,.slice A' l2 c2] 190)) (.cells #[.int .i64 e0,.int .i64 e1] 31) (w2.heap.size+1+1) (by simp only[ude]; omega)).trans q2;have hbW:Below w2.heap.size w2 ((((w2.alloc (.cells #[.int .i64 0] 3)).alloc (.cells #[.int .i64 0] 3)).alloc (.cells #[.slice A f.1.length c1,.slice A' l2 c2] 190)).alloc (.cells #[.int .i64 e0,.int .i64 e1] 31)):=
  ((((ufi _ w2).alloc (ufa _) _).alloc (by simp) _).alloc (by simp; omega) _).alloc (by simp; omega) _
 have hsz:((((w2.alloc (.cells #[.int .i64 0] 3)).alloc (.cells #[.int .i64 0] 3)).alloc (.cells #[.slice A f.1.length c1,.slice A' l2 c2] 190)).alloc (.cells #[.int .i64 e0,.int .i64 e1] 31)).heap.size=w2.heap.size+4:=by simp
 have hW4:=HW2.out.below hbW HZ2.out;have hzz:=HZ2.out;obtain⟨W0,hW0⟩:∃ W0,(((w2.alloc (.cells #[.int .i64 0] 3)).alloc (.cells #[.int .i64 0] 3)).alloc (.cells #[.slice A f.1.length c1,.slice A' l2 c2] 190)).alloc (.cells #[.int .i64 e0,.int .i64 e1] 31)=W0:=⟨_,rfl⟩;rw[hW0] at r0 r1 r2 q3 hbW hsz hW4 |-;clear hW0 HW3 HW2 HZ2 HS HZ hB4 m0 m1 m2 m3 m4 m5 m6 m7 n0 n1 n2 n3 n4 n5 n6 n7 k0 k1 k2 k3 k4 k5 k6 k7 q0 q1 q2;have hbel0:Below w.heap.size w W0:=hbel2.trans (hbW.mono hbel2.size);clear hbW hb hb2 hz2 hbel2 hR hF;have hzw:w.heap.size+3<W0.heap.size:=by omega
 have hsz':w2.heap.size+4<=W0.heap.size:=by omega
 clear hsz;refine wpIn_rangeFunc_ownH rfl (by omega) (gf:=205) (lb:=#[.pointer (some ⟨w2.heap.size+1+1+1,0,none⟩),.pointer (some ⟨w2.heap.size+1+1,0,none⟩)]) rfl trivial (enters_of func205 (by kernel_rfl) rfl)
  (qxq 7 (by omega) f A A' c1 l2 c2 e0 e1 all hall hlen he0 w (w2.heap.size+1+1) (w2.heap.size+1+1+1) W0 hbel0 r2 q3 hcells hvals)
  (λh k=>h.trans k) (λW l o o' hl ho hoc how=>⟨belowK_b (w:=w) (ufa _) W l o o' (by omega) ho hoc how,World.putObj_heap_other (by omega),World.putObj_heap_other (by omega)⟩) (ufi _ _) (λ_=>rfl)
  (λpre W=>∃ q,SumI w W0.heap.size (w.heap.size+1+1) (w.heap.size+1+1+1) w2.heap.size (w2.heap.size+1) pre W q)
  (λc pre W=>SumX w (w.heap.size+1+1) (w.heap.size+1+1+1) c pre W)
  (zcv (by omega)) (zc1 (by omega)) ⟨(0,0),rfl,⟨by decide,by decide,by decide,by decide⟩,r0,r1,hW4.b2,hW4.b3,hbel0,ufa _⟩
  (N6 W0.heap.size (λx Bx=>{ tmps:=#[.agg #[.slice A f.1.length c1,.slice A' l2 c2],.agg #[.int .i64 e0,.int .i64 e1],.pointer (some ⟨w.heap.size,0,none⟩),.pointer (some ⟨w.heap.size+1,0,none⟩),.pointer (some ⟨w.heap.size+1+1,0,none⟩),.pointer (some ⟨w.heap.size+1+1+1,0,none⟩),.pointer (some ⟨w2.heap.size,0,none⟩),.pointer (some ⟨w2.heap.size+1,0,none⟩),.pointer (some ⟨Bx,0,none⟩),.int .i64 x.2.2,undef,undef,
   .agg #[.slice A f.1.length c1,.slice A' l2 c2],.bool true,.bool false,.bool false,.agg #[.int .i64 e0,.int .i64 e1],.bool true,.bool false,.bool false,.agg #[.slice A f.1.length c1,.slice A' l2 c2],.agg #[.int .i64 e0,.int .i64 e1],.func (.func 205) #[] #[.pointer (some ⟨w2.heap.size+1+1+1,0,none⟩),.pointer (some ⟨w2.heap.size+1+1,0,none⟩)],
   .agg #[.int .i64 x.1,.int .i64 x.2.1],.int .i64 x.2.2,undef,undef,undef,undef,undef,undef,undef,undef,undef,undef,undef,undef,undef,undef,undef,undef,undef,undef,undef,undef,undef,undef,undef,undef,undef,undef],defers:=[] }))
  zcu ?assign ?body ?done ?stop
 case assign=>
  rintro l pre x W K ⟨q,hi⟩ hK;obtain⟨⟨x0,x1,v⟩,hx⟩:=x
  gi_wp2
  have hsz1:=hi.sz;exact hK _ _ ((KeepsOthers.alloc _ _).from _) (dh.below ((ufi _ W).alloc (ufa _) _) hi.bel.size (by omega) (by omega))
   ⟨q,hi.sum,hi.inv,hi.x6.alloc _,hi.x7.alloc _,hi.x4.alloc _,hi.x5.alloc _,hi.bel.alloc hi.bel.size _,by simp; omega⟩ ⟨W.heap.size,hsz1,World.alloc_heap_new W _,rfl⟩
 case body=>
  rintro l pre x a' W hl ⟨r,hr⟩ ⟨q,hi⟩ ⟨Bx,hBx,bX,rfl⟩ hlt;obtain⟨⟨x0,x1,v⟩,hx⟩:=x;obtain⟨s,a⟩:=q;have hx':1<=x0/\x0<x1/\x1<=292195 /\ -4000000000000000000<=v/\v<=4000000000000000000:=hx;obtain⟨y1,y2,y3,y4,y5⟩:=hx';have hinv:0<=a/\a<=4000000000000000000 /\ -a<=s/\s<=a:=hi.inv;obtain⟨i1,i2,i3,i4⟩:=hinv;have bX':W.heap[Bx]? = some (.cells #[.int .i64 x0,.int .i64 x1] 31 (0,0)):=bX;have cX0:W.cell? ⟨Bx,0,none⟩=some (.int .i64 x0):=aU bX' 0;have cX1:W.cell? ⟨Bx,1,none⟩=some (.int .i64 x1):=aU bX' 1;have c6:W.cell? ⟨w2.heap.size,0,none⟩=some (.int .i64 s):=hi.x6.cell;have c7:W.cell? ⟨w2.heap.size+1,0,none⟩=some (.int .i64 a):=hi.x7.cell;have f6:=hi.x6.frozen;have f7:=hi.x7.frozen;have c4:=hi.x4.cell;have f4:=hi.x4.frozen;have c5:=hi.x5.cell;have f5:=hi.x5.frozen;have HB:=Lib.hid bX';clear bX bX' hr
  gi_wp2
  ·have hc:(4000000000000000000-a)/(x1-x0)<if v < -v then -v else v:=by assumption
   exact⟨((KeepsOthers.setCell _ _ _).trans (KeepsOthers.setCell _ _ _)).from _,Vn hi hx hc (by omega) (by omega) (by omega)⟩
  ·have hc:(4000000000000000000-a)/(x1-x0)<if v < -v then -v else v:=by assumption
   exact⟨((KeepsOthers.setCell _ _ _).trans (KeepsOthers.setCell _ _ _)).from _,Vn hi hx hc (by omega) (by omega) (by omega)⟩
  ·have hc:(if v < -v then -v else v)<=(4000000000000000000-a)/(x1-x0):=by assumption
   have hv:v < -v:=by assumption
   exact⟨((KeepsOthers.setCell _ _ _).trans (KeepsOthers.setCell _ _ _)).from _,Ss W _ _ (by omega) (by omega) (by omega) (by omega) (by omega) (by omega),_,_,
    Vm hi hx hc (by rw[if_pos hv]) (by omega) (by omega) (by omega) (by omega) (by omega) (by omega) (by omega)⟩
  ·have hc:(if v < -v then -v else v)<=(4000000000000000000-a)/(x1-x0):=by assumption
   have hv:¬ v < -v:=by omega
   exact⟨((KeepsOthers.setCell _ _ _).trans (KeepsOthers.setCell _ _ _)).from _,Ss W _ _ (by omega) (by omega) (by omega) (by omega) (by omega) (by omega),_,_,
    Vm hi hx hc (by rw[if_neg hv]) (by omega) (by omega) (by omega) (by omega) (by omega) (by omega) (by omega)⟩
 case done=>
  rintro D zs W hD rfl ⟨q,hi⟩ hK;have c6:=hi.x6.cell;have c4:=hi.x4.cell;have f4:=hi.x4.frozen;have c5:=hi.x5.cell;have f5:=hi.x5.frozen
  gi_wp2
  have hK':=((KeepsOthers.setCell W ⟨w.heap.size+1+1,0,none⟩ (.int .i64 q.1)).trans (KeepsOthers.setCell _ ⟨w.heap.size+1+1+1,0,none⟩ (.int .i64 0))).same D _ hK rfl;have x4':=(hi.x4.set (.int .i64 q.1)).other (B':=w.heap.size+1+1+1) (by omega) (.int .i64 0);have x5':=(hi.x5.other (B':=w.heap.size+1+1) (by omega) (.int .i64 q.1)).set (.int .i64 0);have d4:=cell_kept x4'.cell (grownBy_putObj' _ D (.deferred none)) (λr e=>by cases e; exact⟨_,hK',rfl⟩);have d5:=cell_kept x5'.cell (grownBy_putObj' _ D (.deferred none)) (λr e=>by cases e; exact⟨_,hK',rfl⟩);have hbb:=(hi.bel.setCell (p:=⟨w.heap.size+1+1,0,none⟩) (by show w.heap.size<=w.heap.size+1+1; omega) (.int .i64 q.1)).setCell (p:=⟨w.heap.size+1+1+1,0,none⟩) (by show w.heap.size<=w.heap.size+1+1+1; omega) (.int .i64 0);refine⟨by simp,.inl ⟨_,_,rfl,run_takeDeferred hK',?_⟩⟩;refine⟨.tuple #[.int .i64 q.1,.int .i64 0],?_,?_,hbb.trans (belowK_b (w:=w) (ufa _) _ D _ _ (by omega) hK' rfl rfl)⟩
  ·simp[results,results151,go_sem,d4,d5]
  ·rw[hi.sum];rfl
 case stop=>
  rintro D c pre W hD ⟨r,rfl⟩ h hK;obtain rfl:=h.ret;have c4:=h.x4.cell;have f4:=h.x4.frozen;have c5:=h.x5.cell;have f5:=h.x5.frozen
  gi_wp2
  have d4:=cell_kept h.x4.cell (grownBy_putObj' _ D (.deferred none)) (λr e=>by cases e; exact⟨_,hK,rfl⟩);have d5:=cell_kept h.x5.cell (grownBy_putObj' _ D (.deferred none)) (λr e=>by cases e; exact⟨_,hK,rfl⟩);refine⟨by simp,.inl ⟨_,_,rfl,run_takeDeferred hK,?_⟩⟩;refine⟨.tuple #[.int .i64 0,.int .i64 5],?_,?_,h.bel.trans (belowK_b (w:=w) (ufa _) _ D _ _ (by omega) hK rfl rfl)⟩
  ·simp[results,results151,go_sem,d4,d5]
  ·rw[udu,Vo,h.sum];rfl
end Go.Proofs.YtgieagiaagoogaaGreat
namespace Go.Proofs.YtgieagiaagoogaaGreat
open Go Go.Ab Go.RowKit Go.Proofs Go.Shelf Tryz
open Go.Ab.Fr renaming val->Jv,need->Jd,br->Jb
def NK {cs:Array Value} {a b:Value} (hs:cs.size=2) (h0:cs[0]? = some a) (h1:cs[1]? = some b):cs = #[a,b]:=by
 apply ufo
 ·simp[hs]
 ·intro i hi hj;have h2:i<2:=by omega
  match i,h2 with
  |0,_=>
   have:=uaf.1 h0;simpa using this.2
  |1,_=>
   have:=uaf.1 h1;simpa using this.2
def zcs {w:World} {F:Nat->Prop} {f:bj.den} {v:Value} (h:bq w F bj f v):∃ a b,v = .agg #[a,b]/\aD w F bE f.1 (λ_ u=>u=a)/\aD w F bE f.2.1 (λ_ u=>u=b):=by
 obtain⟨cs,rfl⟩:=h.2.1.1 rfl;have hs:cs.size=2:=h.1;refine⟨cs[0]'(by omega),cs[1]'(by omega),?_,?_,?_⟩
 ·congr 1;exact NK hs (uam (by omega)) (uam (by omega))
 ·refine aD.mono (λ_ h=>h) (λ_ _=>rfl) ?_ h.2.2.1;intro j u hj hu;have:j=0:=by have:j<1:=hj; omega
  subst this;have hu':cs[0]? = some u:=hu;rw[uam (by omega)] at hu';simpa using hu'.symm
 ·refine aD.mono (λ_ h=>h) (λ_ _=>rfl) ?_ h.2.2.2.1;intro j u hj hu;have:j=0:=by have:j<1:=hj; omega
  subst this;have hu':cs[1]? = some u:=hu;rw[uam (by omega)] at hu';simpa using hu'.symm
def zce {w:World} {F:Nat->Prop} {s:bR.den} {v:Value} (h:bq w F bR s v):v = .agg #[.int .i64 s.1,.int .i64 s.2.1]/\(-9223372036854775808<=s.1/\s.1<=9223372036854775807) /\ -9223372036854775808<=s.2.1/\s.2.1<=9223372036854775807:=by
 obtain⟨cs,rfl⟩:=h.2.1.1 rfl;have hs:cs.size=2:=h.1;have h0:cs[0]? = some (.int .i64 s.1):=h.2.2.1.1;have h1:cs[1]? = some (.int .i64 s.2.1):=h.2.2.2.1.1;exact⟨by rw[NK hs h0 h1],h.2.2.1.2,h.2.2.2.1.2⟩
def LJ:{l:List (Int×Int×Int)}->(∀ x∈l,rV x) -> {q q':Int×Int}->yg q->eX l q=some q'->yg q'
 |[],_,q,q',hq,h=>by
  simp only[eX,ucj] at h;subst h;exact hq
 |x::l,hl,q,q',hq,h=>by
  simp only[eX] at h;cases hs:kq q x with
  |none=>rw[hs] at h; cases h
  |some q1=>
   rw[hs] at h;exact LJ (λy hy=>hl y (by simp[hy])) (Vu (hl x (by simp)) hs hq).1 h
def jY {a b:Int} {u:Unit}:dd (a,b,u)=true↔1<=a/\a<b/\b<=292195:=by
 simp[dd]
def LR {w:World} {F:Nat->Prop} {a b:Int} (ha : -9223372036854775808<=a/\a<=9223372036854775807) (hb : -9223372036854775808<=b/\b<=9223372036854775807):ja w F [i64,i64] (a,b,()) (.tuple #[.int .i64 a,.int .i64 b]):=
 ⟨_,rfl,_,_,rfl,⟨rfl,⟨λh=>(by cases h),λ⟨cs,h⟩=>(by cases h)⟩,rfl,ha⟩,_,_,rfl,⟨rfl,⟨λh=>(by cases h),λ⟨cs,h⟩=>(by cases h)⟩,rfl,hb⟩,rfl⟩
def NL:{l:List (Int×Int×Int)}->(∀ x∈l,rV x)->∃ all:List ky,all.map Subtype.val=l
 |[],_=>⟨[],rfl⟩
 |x::l,h=>by
  obtain⟨all,ha⟩:=NL (l:=l) (λy hy=>h y (by simp[hy]));exact⟨⟨x,h x (by simp)⟩::all,by simp[ha]⟩
def zc4:aa prog 151 Cw:=by
 refine⟨enters (fn:=f151) (by kernel_rfl) rfl rfl,λw F xs vs hbd hr _=>?_⟩;obtain⟨f,⟨e0,e1,u⟩,_⟩:=xs;obtain⟨va,vs',rfl,hva,vb,vs'',rfl,hvb,hn⟩:=hr;cases hn;have hva':bq w F bj f va:=hva;have hvb':bq w F bR (e0,e1,u) vb:=hvb;obtain⟨rfl,he0,he1⟩:=zce hvb';obtain⟨sa,sb,rfl,ha,hb⟩:=zcs hva';obtain⟨A,c1,rfl,hl1,hl2,hcells⟩:=UT ha;obtain⟨A',c2,rfl,hl3,hl4,_⟩:=UT hb;have hmono:∀ W,Below w.heap.size w W->bq W F bj f (.agg #[.slice A f.1.length c1,.slice A' f.2.1.length c2]):=λW hW=>hva'.mono (λ_ h=>h) (λb hb=>hW.block b (hbd b hb));have hspan:∀ (W:World) (F:Nat->Prop),bq W F bR (e0,e1,u) (.agg #[.int .i64 e0,.int .i64 e1]):=λW F=>⟨rfl,⟨λ_=>⟨_,rfl⟩,λ_=>rfl⟩,⟨rfl,he0⟩,⟨rfl,he1⟩,uT⟩;have hR:∀ W,Below w.heap.size w W->Calls prog 185 #[.agg #[.slice A f.1.length c1,.slice A' f.2.1.length c2]] W λe w'=>e = .returned (.bool (lh f))/\Below W.heap.size W w':=λW hW=>
  NX (ps:=[.d bj]) (g:=λx=>lh x.1) qzl (F:=F) (xs:=(f,())) (vs:=[_]) (λb hb=>ub9 (hbd b hb) hW.size) ⟨_,[],rfl,hmono W hW,rfl⟩ trivial
 have hF:∀ W,Calls prog 186 #[.agg #[.int .i64 e0,.int .i64 e1]] W λe w'=>e = .returned (.bool (dd (e0,e1,())))/\Below W.heap.size W w':=λW=>
  NX (ps:=[.d bR]) (g:=λx=>dd x.1) qnd (F:=λ_=>False) (xs:=((e0,e1,()),())) (vs:=[_]) (λb hb=>hb.elim) ⟨_,[],rfl,hspan W _,rfl⟩ trivial
 by_cases hyes:lh f=true/\dd (e0,e1,())=true
 ·obtain⟨hr1,hr2⟩:=hyes;obtain⟨hlen,hup,_,hval⟩:=Lg hr1;have hok:=Ep (f:=f) hval (e:=e1) (jY.1 hr2).2.2 f.1 e0 (jY.1 hr2).1 (jY.1 hr2).2.1;obtain⟨all,hall⟩:=NL hok;rw[hr1] at hR;rw[hr2] at hF;have hl0:f.1.length<=9223372036854775807:=by
   have:=uen hl1 hl2;unfold maxLen at this;omega
  have key:=zc5 f A A' c1 f.2.1.length c2 e0 e1 w hR hF all hall hl0 he0 (λW hW hp=>by
   obtain⟨b,off,h1,h2,h3⟩:=hcells hp;exact⟨b,off,h1,hbd b h2,λi x hx=>⟨(hW.cell (p:=⟨b,off+i,none⟩) (hbd b h2)).trans (h3 i x hx).1,(h3 i x hx).2⟩⟩)
   (λW hW=>ze1 (λb hb=>ub9 (hbd b hb) hW.size) (hmono W hW) hup hlen)
  refine(callsIn_wide.1 key).mono ?_;rintro e w' ⟨he,hbel⟩;rw[hall] at he;have hS:eY f (e0,e1,u)=match eX (fI f e1 f.1 e0) (0,0) with
    |some q=>(q.1,0)
    |none=>(0,5):=by
   unfold eY;rw[if_pos ⟨hr1,hr2⟩]
   try rfl
  cases hq:eX (fI f e1 f.1 e0) (0,0) with
  |none=>
   rw[hq] at he hS;have he':e = .returned (.tuple #[.int .i64 0,.int .i64 5]):=he;refine⟨_,F,he',hbel,λ_ h=>h,λb hb=>⟨.inl hb,ub9 (hbd b hb) hbel.size⟩,?_⟩;show ja w' F [i64,i64] ((eY f (e0,e1,u)).1,(eY f (e0,e1,u)).2,()) _;rw[hS];exact LR (by decide) (by decide)
  |some q=>
   rw[hq] at he hS;have he':e = .returned (.tuple #[.int .i64 q.1,.int .i64 0]):=he;refine⟨_,F,he',hbel,λ_ h=>h,λb hb=>⟨.inl hb,ub9 (hbd b hb) hbel.size⟩,?_⟩;show ja w' F [i64,i64] ((eY f (e0,e1,u)).1,(eY f (e0,e1,u)).2,()) _;rw[hS];obtain⟨j1,j2,j3,j4⟩:=LJ hok (q:=(0,0)) ⟨by decide,by decide,by decide,by decide⟩ hq;exact LR ⟨by show _<=q.1; omega,by show q.1<=_; omega⟩ (b:=0) (by decide)
 ·have key:=zc3 f A A' f.1.length c1 f.2.1.length c2 e0 e1 w hR hF hyes;refine(callsIn_wide.1 key).mono ?_;rintro e w' ⟨rfl,hbel⟩;refine⟨_,F,rfl,hbel,λ_ h=>h,λb hb=>⟨.inl hb,ub9 (hbd b hb) hbel.size⟩,?_⟩;show ja w' F [i64,i64] ((eY f (e0,e1,u)).1,(eY f (e0,e1,u)).2,()) _;have hS:eY f (e0,e1,u)=(0,1):=if_neg hyes;rw[hS];exact LR (by decide) (by decide)
end Go.Proofs.YtgieagiaagoogaaGreat
namespace Go.Proofs.YtgieagiaagoogaaGreat
open Go Go.Ab Go.RowKit Go.Proofs Tryz
open Go.Ab.Fr renaming val->Jv,need->Jd,br->Jb
abbrev bY:Ty:=.sl af
def lw (a b:Bool):(bif a then b else false)=(a&&b):=by cases a<;>rfl
def qbt (a b:Bool):(bif a then true else b)=(a || b):=by cases a<;>rfl
def cD {n:Int} (h : -9223372036854775808<=n/\n<=9223372036854775807):I6.wrap n=n:=IntWalk.i64_in _ h
def fe:Pc:=⟨[.d i64],[],λ_=>(),λx=>!(x.1==0),λx=>⟨57,.i64,x.1⟩,λ_=>[]⟩
def Ko:kz prog 109 fe:=by
 refine⟨enters (fn:=f109) (by kernel_rfl) rfl rfl,λw F xs vs hb hr _=>?_⟩;obtain⟨v,vs',rfl,hv,hn⟩:=hr;cases hn;obtain⟨n,_⟩:=xs;have hv':v = .int .i64 n:=by
  have h:aM prog w F (λ_ _=>True) (gL i64 n) v:=jV hv;exact h.2.1
 subst hv';by_cases h0:n=0
 ·subst h0
  go_enter func109,ntmps109
  go_wp2
  go_end0
  refine .inl ⟨rfl,.tuple #[],F,rfl,ufi _ _,λ_ h=>h,λb h=>⟨.inl h,hb b h⟩,#[],rfl,rfl⟩
 ·have hne:(n==0)=false:=by simpa using h0
  have hne2:(n != 0)=true:=by simpa using h0
  have hbad:fe.bad (n,())=true:=by show(!(n==0))=true; rw[hne]; rfl
  go_enter func109,ntmps109
  go_wp2
  exact⟨rfl,.inr ⟨hbad,rfl,ufi _ _⟩⟩
open Go.Ab.Fr renaming val->Jv,need->Jd,br->Jb
def gc (a:Int):Int:=IntKind.u64.wrap ((BitVec.ofInt IntKind.u64.bits a &&& BitVec.ofInt IntKind.u64.bits 4294967295).toNat:Int)
def dK (a:Int):Int:=a.fdiv (2 ^ min (Int.toNat 32) IntKind.u64.bits)
def dn {n:Int} (h:0<=n/\n<=18446744073709551615):IntKind.u64.wrap n=n:=IntWalk.u64_in _ h
def DM {a:Int} (h:0<=a/\a<=18446744073709551615):gc a=a%4294967296:=by
 obtain⟨n,rfl⟩:∃ n:Nat,a=n:=⟨a.toNat,by omega⟩;unfold gc;have e1:(BitVec.ofInt IntKind.u64.bits (n:Int) &&& BitVec.ofInt IntKind.u64.bits 4294967295).toNat=n%4294967296:=by
  have h1:(BitVec.ofInt IntKind.u64.bits (n:Int)).toNat=n:=by
   rw[BitVec.toNat_ofInt];show((n:Int)%((2 ^ 64:Nat):Int)).toNat=n;omega
  have h2:(BitVec.ofInt IntKind.u64.bits (4294967295:Int)).toNat=2 ^ 32-1:=by decide
  rw[BitVec.toNat_and,h1,h2,Nat.and_two_pow_sub_one_eq_mod]
 rw[e1,dn (by omega)];omega
def RI {a:Int}:dK a=a/4294967296:=by
 unfold dK;have:(2:Int) ^ min (Int.toNat 32) IntKind.u64.bits=4294967296:=by decide
 rw[this,uag _ (by decide)]
def sY (x y:Int):Int:=IntKind.u64.wrap (IntKind.u64.wrap (dK x*gc y)+dK (IntKind.u64.wrap (gc x*gc y)))
def qmg (x:aq [.d u64,.d u64]):Fr (ae [u64,u64]):=
 let b:=sY x.1 x.2.1;let a:=¬ (32:Int)<0;Jd a (Jd a (Jd a (Jd a (Jd a
  (Jv (IntKind.u64.wrap (IntKind.u64.wrap (IntKind.u64.wrap (dK x.1*dK x.2.1)+dK b)+dK (IntKind.u64.wrap (gc b+IntKind.u64.wrap (gc x.1*dK x.2.1)))),
   IntKind.u64.wrap (x.1*x.2.1),()))))))
def oL:Ct:=⟨[.d u64,.d u64],[u64,u64],λx=>(x.1*x.2.1/18446744073709551616,x.1*x.2.1%18446744073709551616,()),λ_=>[]⟩
def Es {a b n:Int} (ha:0<=a/\a<=n) (hb:0<=b/\b<=n):0<=a*b/\a*b<=n*n:=
 ⟨ud9 ha.1 hb.1,Int.mul_le_mul ha.2 hb.2 hb.1 (by omega)⟩
def qua (a1 a0 b1 b0:Int):(a1*4294967296+a0)*(b1*4294967296+b0)=a1*b1*18446744073709551616+(a1*b0+a0*b1)*4294967296+a0*b0:=by grind
def qt9 {x y:Int} (hx:0<=x/\x<=18446744073709551615) (hy:0<=y/\y<=18446744073709551615) :
  IntKind.u64.wrap (IntKind.u64.wrap (IntKind.u64.wrap (dK x*dK y)+dK (sY x y))+dK (IntKind.u64.wrap (gc (sY x y)+IntKind.u64.wrap (gc x*dK y))))=x*y/18446744073709551616:=by
 have ex:x=x/4294967296*4294967296+x%4294967296:=by omega
 have ey:y=y/4294967296*4294967296+y%4294967296:=by omega
 have hs:=qua (x/4294967296) (x%4294967296) (y/4294967296) (y%4294967296);rw[<- ex,<- ey] at hs;rw[hs];unfold sY;rw[DM hx,DM hy];simp only[RI];have b1:0<=x/4294967296/\x/4294967296<=4294967295:=by omega
 have b2:0<=x%4294967296/\x%4294967296<=4294967295:=by omega
 have b3:0<=y/4294967296/\y/4294967296<=4294967295:=by omega
 have b4:0<=y%4294967296/\y%4294967296<=4294967295:=by omega
 have p11:=Es b1 b3;have p10:=Es b1 b4;have p01:=Es b2 b3;have p00:=Es b2 b4;clear hs ex ey b1 b2 b3 b4;generalize x/4294967296*(y/4294967296)=q11 at *;generalize x/4294967296*(y%4294967296)=q10 at *;generalize x%4294967296*(y/4294967296)=q01 at *;generalize x%4294967296*(y%4294967296)=q00 at *;rw[dn (n:=q11) (by omega),dn (n:=q10) (by omega),dn (n:=q01) (by omega),dn (n:=q00) (by omega),dn (n:=q10+q00/4294967296) (by omega),DM (a:=q10+q00/4294967296) (by omega),
  dn (n:=(q10+q00/4294967296)%4294967296+q01) (by omega)]
 rw[dn (n:=q11+(q10+q00/4294967296)/4294967296) (by omega),dn (by omega)];omega
def Bm {w:World} {F:Nat->Prop} {n:Int} {v:Value} (h:bq w F u64 n v):0<=n/\n<=18446744073709551615:=h.2.2.2
def nb {w:World} {F:Nat->Prop} {n:Int} {v:Value} (h:bq w F i64 n v) : -9223372036854775808<=n/\n<=9223372036854775807:=h.2.2.2
def SH:aa prog 189 oL:=
 flat (ps:=[.d u64,.d u64]) (rs:=[u64,u64]) (aJ (cs:=[]) (ps:=[]) aG trivial trivial) (fn:=f189) (fr:=qmg) (0,0,()) (by kernel_rfl) (λx=>by kernel_rfl) _ _
  (λw F x vs hr _=>by
   obtain⟨a,b,u⟩:=x;obtain⟨v1,vs1,rfl,h1,v2,vs2,rfl,h2,_⟩:=hr;have g1:=Bm h1;have g2:=Bm h2;refine⟨⟨by decide,by decide,by decide,by decide,by decide,uT⟩,?_⟩;show(IntKind.u64.wrap (IntKind.u64.wrap (IntKind.u64.wrap (dK a*dK b)+dK (sY a b))+dK (IntKind.u64.wrap (gc (sY a b)+IntKind.u64.wrap (gc a*dK b)))),IntKind.u64.wrap (a*b),())=(a*b/18446744073709551616,a*b%18446744073709551616,());have hw:IntKind.u64.wrap (a*b)=a*b%18446744073709551616:=by
    rw[IntKind.wrap_u64]
   rw[qt9 g1 g2,hw])
def II (x:aq [.d u64,.d u64,.d u64]):Fr (ae [u64,u64]):=
 let a:=x.2.2.1;Jb (a==0) (Jd False (Jv (0,0,())))
  (Jb (decide (a<=x.1)) (Jd False (Jv (0,0,())))
   (Jb (x.1==0) (Jd (a≠0) (Jd (a≠0) (Jv (IntKind.u64.wrap (x.2.1.tdiv a),x.2.1.tmod a,()))))
    (Jd False (Jv (0,0,())))))
def Cl:Ct:=⟨[.d u64,.d u64,.d u64],[u64,u64],λx=>(x.2.1/x.2.2.1,x.2.1%x.2.2.1,()),λx=>[x.1=0,0<x.2.2.1]⟩
def qf4 {lo y:Int} (g2:0<=lo/\lo<=18446744073709551615) (hy:0<y):(II (0,lo,y,())).ok/\(II (0,lo,y,())).get=(lo/y,lo%y,()):=by
 have e1:(y==0)=false:=by simp; omega
 have e2:decide (y<=(0:Int))=false:=by simp; omega
 have e3:y≠0:=by omega
 refine⟨⟨λhc=>?_,λ_=>⟨λhc=>?_,λ_=>⟨λ_=>⟨e3,e3,uT⟩,λhc=>by cases hc⟩⟩⟩,?_⟩
 ·have hc':(y==0)=true:=hc;rw[e1] at hc';cases hc'
 ·have hc':decide (y<=(0:Int))=true:=hc;rw[e2] at hc';cases hc'
 ·show(if (y==0)=true then ((0:Int),(0:Int),()) else if decide (y<=(0:Int))=true then ((0:Int),(0:Int),()) else (IntKind.u64.wrap (lo.tdiv y),lo.tmod y,()))=(lo/y,lo%y,());rw[e1,e2];simp only[ub1,ufu];rw[IntWalk.u64_quo lo y ⟨g2.1,g2.2,by omega⟩,IntWalk.rem_in lo y g2.1]
def qf3:aa prog 190 Cl:=
 flat (ps:=[.d u64,.d u64,.d u64]) (rs:=[u64,u64]) (aJ (cs:=[]) (ps:=[]) aG trivial trivial) (fn:=f190) (fr:=II) (0,0,0,()) (by kernel_rfl) (λx=>by kernel_rfl) _ _
  (λw F x vs hr hok=>by
   obtain⟨hi,lo,y,u⟩:=x;obtain⟨v1,vs1,rfl,h1,v2,vs2,rfl,h2,v3,vs3,rfl,h3,_⟩:=hr;obtain⟨he,hy⟩:=hok;have he':hi=0:=he;subst he';exact qf4 (Bm h2) hy)
open Go.Ab.Fr renaming val->Jv,need->Jd,br->Jb
noncomputable def BJ:FuncId->Option (Func×(Nat->St->Option Tr)):=dH [(188,(f188,dM))]
noncomputable def BK:FuncId->Option (Func×(Nat->St->Option Tr)):=dH [(153,(f153,dM)),(152,(f152,dM))]
abbrev BX:List (FuncId×Ct):=[(189,oL),(190,Cl)]
def G8:oz prog BX:=⟨SH,qf3,uT⟩
noncomputable def M3:Cx:=cx BX []
noncomputable def M4:Cx:=ib BX [] (ne prog M3 BJ)
noncomputable def XM:Cx:=ib BX [] (ne prog M4 BK)
def XK:CxOK prog M3:=aJ aG G8 trivial
def N7:∀ f fn Λ,BJ f=some (fn,Λ)->prog.funcs[f]? = some fn/\∀ c E',fn.body=some c->cH prog E' Λ c 0:=λf fn Λ h=>by
 simp only[BJ,dH] at h;split at h
 ·rename_i hf;subst hf;cases h;exact⟨by kernel_rfl,λc E' _=>bL c 0⟩
 ·cases h
def XL:CxOK prog M4:=iI aG G8 trivial (q9 XK N7)
def N8:∀ f fn Λ,BK f=some (fn,Λ)->prog.funcs[f]? = some fn/\∀ c E',fn.body=some c->cH prog E' Λ c 0:=λf fn Λ h=>by
 simp only[BK,dH] at h;split at h
 ·rename_i hf;subst hf;cases h;exact⟨by kernel_rfl,λc E' _=>bL c 0⟩
 ·split at h
  ·rename_i hf;subst hf;cases h;exact⟨by kernel_rfl,λc E' _=>bL c 0⟩
  ·cases h
def XN:CxOK prog XM:=iI aG G8 trivial (q9 XL N8)
def vR (q:Int):Fr (ae [i64,i64]):=Jb (decide (q>4000000000000000000)) (Jv (0,5,())) (Jv (I6.wrap q,0,()))
def qn (q r c:Int):Fr (ae [i64,i64]):=
 Jb (decide (q>4000000000000000000)) (Jv (0,5,()))
  (Jd ((r==IntKind.u64.wrap (c-r))=true->decide (r>IntKind.u64.wrap (c-r))=false->(2:Int)≠0)
   (Jb (bif decide (r>IntKind.u64.wrap (c-r)) then true else bif r==IntKind.u64.wrap (c-r) then q.tmod 2==1 else false) (vR (IntKind.u64.wrap (q+1))) (vR q)))
def Qc (h l c:Int):Fr (ae [i64,i64]):=
 Jb (decide (h>=c)) (Jv (0,5,())) (Jd (h=0) (Jd (0<c) (qn (Cl.f (h,l,c,())).1 (Cl.f (h,l,c,())).2.1 c)))
def Dj (x:aq [.d i64,.d i64,.d i64]):Fr (ae [i64,i64]):=
 let a:=oL.f (IntKind.u64.wrap x.1,IntKind.u64.wrap x.2.1,());Jb (bif bif decide (x.1<0) then true else decide (x.2.1<0) then true else decide (x.2.2.1<0)) (Jv (0,1,()))
  (Jb (x.2.2.1==0) (Jv (0,6,()))
   (Qc a.1 a.2.1 (IntKind.u64.wrap x.2.2.1)))
def gp (p c:Int):Int:=if p%c>c-p%c\/(p%c=c-p%c/\p/c%2=1) then p/c+1 else p/c
def cV (a b c:Int):Int×Int:=if a<0\/b<0\/c<0 then (0,1) else if c=0 then (0,6) else if gp (a*b) c>4000000000000000000 then (0,5) else (gp (a*b) c,0)
def G3 (a b c:Bool):(bif bif a then true else b then true else c)=(a || (b || c)):=by cases a<;>cases b<;>rfl
def Qd {q:Int} (h:0<=q):(vR q).ok/\(vR q).get=if q>4000000000000000000 then (0,5,()) else (q,0,()):=by
 refine⟨⟨λ_=>uT,λ_=>uT⟩,?_⟩;show(if decide (q>4000000000000000000)=true then ((0:Int),(5:Int),()) else (I6.wrap q,(0:Int),()))=_;by_cases hq:q>4000000000000000000
 ·rw[if_pos (by simpa using hq),if_pos hq]
 ·have hw:I6.wrap q=q:=cD (by omega);rw[if_neg (by simpa using hq),if_neg hq,hw]
def Qe {q r c:Int} (hr:0<=r/\r<c) (hc:c<=9223372036854775807) (hq:0<=q) :
  (qn q r c).ok/\(qn q r c).get=if (if r>c-r\/(r=c-r/\q%2=1) then q+1 else q)>4000000000000000000 then (0,5,()) else ((if r>c-r\/(r=c-r/\q%2=1) then q+1 else q),0,()):=by
 have hw:IntKind.u64.wrap (c-r)=c-r:=dn (by omega);have hm:q.tmod 2=q%2:=Int.tmod_eq_emod_of_nonneg hq;unfold qn;rw[hw,hm];by_cases h1:q>4000000000000000000
 ·have hd:decide (q>4000000000000000000)=true:=by simpa using h1
  refine⟨⟨λ_=>uT,λhb=>by rw[hd] at hb; cases hb⟩,?_⟩;show(if decide (q>4000000000000000000)=true then ((0:Int),(5:Int),()) else _)=_;rw[hd,if_pos rfl,if_pos];split<;>omega
 ·have hd:decide (q>4000000000000000000)=false:=by simpa using h1
  have hcond:(bif decide (r>c-r) then true else bif r==c-r then q%2==1 else false)=decide (r>c-r\/(r=c-r/\q%2=1)):=by
   rw[qbt,lw];generalize c-r=d;rw[udv];simp
  rw[hcond];have hw2:IntKind.u64.wrap (q+1)=q+1:=dn (by omega);rw[hw2];have f1:=Qd (q:=q+1) (by omega);have f2:=Qd (q:=q) hq;refine⟨⟨λ_=>uT,λ_=>⟨λ_ _=>by decide,λ_=>f1.1,λ_=>f2.1⟩⟩,?_⟩;show(if decide (q>4000000000000000000)=true then ((0:Int),(5:Int),()) else if decide (r>c-r\/(r=c-r/\q%2=1))=true then (vR (q+1)).get else (vR q).get)=_;rw[hd,if_neg (by decide),f1.2,f2.2];by_cases h2:r>c-r\/(r=c-r/\q%2=1)
  ·simp only[h2,decide_true,if_true]
  ·simp only[h2,decide_false,ufu,ub1]
def qhb {a b c:Int} (ha : -9223372036854775808<=a/\a<=9223372036854775807) (hb : -9223372036854775808<=b/\b<=9223372036854775807) (hc : -9223372036854775808<=c/\c<=9223372036854775807)
  (hp:0<=a->0<=b->a*b<18446744073709551616):(Dj (a,b,c,())).ok/\(Dj (a,b,c,())).get=((cV a b c).1,(cV a b c).2,()):=by
 unfold Dj;simp only[G3];by_cases hn:a<0\/b<0\/c<0
 ·have hd:(decide (a<0) || (decide (b<0) || decide (c<0)))=true:=by simpa using hn
  rw[hd];refine⟨⟨λ_=>uT,λhx=>by cases hx⟩,?_⟩;unfold cV;rw[if_pos hn];rfl
 ·have hd:(decide (a<0) || (decide (b<0) || decide (c<0)))=false:=by simpa using hn
  rw[hd];have ha0:0<=a:=by omega
  have hb0:0<=b:=by omega
  have hc0:0<=c:=by omega
  have hab:=hp ha0 hb0;have hab0:0<=a*b:=ud9 ha0 hb0;rw[show IntKind.u64.wrap a=a from dn (by omega),show IntKind.u64.wrap b=b from dn (by omega),show IntKind.u64.wrap c=c from dn (by omega)];have e1:(oL.f (a,b,())).1=0:=by
   show a*b/18446744073709551616=0;omega
  have e2:(oL.f (a,b,())).2.1=a*b:=by
   show a*b%18446744073709551616=a*b;omega
  rw[e1,e2];unfold cV;rw[if_neg hn];by_cases hz:c=0
  ·subst hz;refine⟨⟨λhx=>(by cases hx),λ_=>⟨λ_=>uT,λhx=>by cases hx⟩⟩,rfl⟩
  ·have hz':(c==0)=false:=by simpa using hz
   rw[if_neg hz,hz'];have hcp:0<c:=by omega
   have hge:decide ((0:Int)>=c)=false:=by simpa using hcp
   have key:=Qe (q:=a*b/c) (r:=a*b%c) (c:=c) ⟨Int.emod_nonneg _ (by omega),Int.emod_lt_of_pos _ hcp⟩ hc.2 (udi hab0 hc0);unfold Qc;rw[hge];refine⟨⟨λhx=>(by cases hx),λ_=>⟨λhx=>(by cases hx),λ_=>⟨λhx=>(by cases hx),λ_=>⟨rfl,hcp,key.1⟩⟩⟩⟩,?_⟩;show(qn (a*b/c) (a*b%c) c).get=_;rw[key.2];show _=((if gp (a*b) c>4000000000000000000 then ((0:Int),(5:Int)) else (gp (a*b) c,0)).1,(if gp (a*b) c>4000000000000000000 then ((0:Int),(5:Int)) else (gp (a*b) c,0)).2,());unfold gp;generalize (if a*b%c>c-a*b%c\/a*b%c=c-a*b%c/\a*b/c%2=1 then a*b/c+1 else a*b/c)=z;split<;>rfl
def oH:Ct:=⟨[.d i64,.d i64,.d i64],[i64,i64],λx=>((cV x.1 x.2.1 x.2.2.1).1,(cV x.1 x.2.1 x.2.2.1).2,()),λx=>[0<=x.1->0<=x.2.1->x.1*x.2.1<18446744073709551616]⟩
def qha:aa prog 111 oH:=
 flat (ps:=[.d i64,.d i64,.d i64]) (rs:=[i64,i64]) XN (fn:=f111) (fr:=Dj) (0,0,0,()) (by kernel_rfl) (λx=>by kernel_rfl) _ _
  (λw F x vs hr hok=>by
   obtain⟨a,b,c,u⟩:=x;obtain⟨v1,vs1,rfl,h1,v2,vs2,rfl,h2,v3,vs3,rfl,h3,_⟩:=hr;exact qhb (nb h1) (nb h2) (nb h3) hok)
open Go.Ab.Fr renaming val->Jv,need->Jd,br->Jb
def eM (p:List Int×List Int) (day v:Int):List Int×List Int:=
 let q:=if p.1.getLast? = some day then (p.1.dropLast,p.2.dropLast) else p
 if v≠q.2.getLast?.getD 0/\day<=292194 then (q.1++[day],q.2++[v]) else q
section
variable {α:Type}
def BN (at_ val:List Int) (day v:Int) (K:List Int->List Int->Fr α):Fr α:=
 Jb (decide ((val.length:Int)>0))
  (Jd (0<=I6.wrap (val.length-1)/\I6.wrap (val.length-1)<val.length)
   (Jd ((I6.wrap (val.length-1)).toNat<val.length)
    (Jb (bif v != val.getD (I6.wrap (val.length-1)).toNat i64.dflt then decide (day<=292194) else false)
     (Jd (at_.length + [day].length<=maxLen/\(at_.length + [day].length)*8<=140737488355328)
      (Jd (val.length + [v].length<=maxLen/\(val.length + [v].length)*8<=140737488355328)
       (K (at_++[day]) (val++[v]))))
     (K at_ val))))
  (Jb (bif v != 0 then decide (day<=292194) else false)
   (Jd (at_.length + [day].length<=maxLen/\(at_.length + [day].length)*8<=140737488355328)
    (Jd (val.length + [v].length<=maxLen/\(val.length + [v].length)*8<=140737488355328)
     (K (at_++[day]) (val++[v]))))
   (K at_ val))
def NF (at_ val:List Int) (day v:Int) (K:List Int->List Int->Fr α):Fr α:=
 Jd (decide ((at_.length:Int)>0)=true->0<=I6.wrap (at_.length-1)/\I6.wrap (at_.length-1)<at_.length)
  (Jd (decide ((at_.length:Int)>0)=true->(I6.wrap (at_.length-1)).toNat<at_.length)
   (Jb (bif decide ((at_.length:Int)>0) then at_.getD (I6.wrap (at_.length-1)).toNat i64.dflt==day else false)
    (Jd (0<=I6.wrap (at_.length-1)/\I6.wrap (at_.length-1)<=at_.length)
     (Jd (0<=I6.wrap (at_.length-1)/\I6.wrap (at_.length-1)<=val.length)
      (BN (at_.take (I6.wrap (at_.length-1)).toNat) (val.take (I6.wrap (at_.length-1)).toNat) day v K)))
    (BN at_ val day v K)))
def DH {l:List Int} (h:0<l.length) (hb:l.length<1000000):l.getD (I6.wrap ((l.length:Int)-1)).toNat i64.dflt=l.getLast?.getD 0:=by
 rw[cD (by omega),uan,uah];have:((l.length:Int)-1).toNat=l.length-1:=by omega
 rw[this];rfl
def qam {at_ val:List Int} {day v:Int} {K:List Int->List Int->Fr α} {Q:α->Prop} (h1:at_.length<1000000) (h2:val.length<1000000)
  (h:(if v≠val.getLast?.getD 0/\day<=292194 then K (at_++[day]) (val++[v]) else K at_ val).satP Q):(BN at_ val day v K).satP Q:=by
 have hroom:∀ (l:List Int) (x:Int),l.length<1000000->l.length + [x].length<=maxLen/\(l.length + [x].length)*8<=140737488355328:=λl x hl=>by
  simp only[maxLen,ua5];omega
 by_cases hv:0<val.length
 ·refine⟨λ_=>⟨?_,?_,?_,?_⟩,λhn=>?_⟩
  ·rw[cD (by omega)];omega
  ·rw[cD (by omega)];omega
  ·intro hb;rw[DH hv h2,lw] at hb;have hb':v≠val.getLast?.getD 0/\day<=292194:=by simpa using hb
   rw[if_pos hb'] at h;exact⟨hroom _ _ h1,hroom _ _ h2,h⟩
  ·intro hb;rw[DH hv h2,lw] at hb;have hb':¬ (v≠val.getLast?.getD 0/\day<=292194):=by
    intro hc;simp[hc.1,hc.2] at hb
   rw[if_neg hb'] at h;exact h
  ·exact absurd (ucf hn) (by omega)
 ·have hnil:val=[]:=by
   cases val with
   |nil=>rfl
   |cons _ _=>simp at hv
  subst hnil;refine⟨λhn=>by simp at hn,λ_=>⟨λhb=>?_,λhb=>?_⟩⟩
  ·rw[lw] at hb;have hb':v≠([]:List Int).getLast?.getD 0/\day<=292194:=by simpa using hb
   rw[if_pos hb'] at h;exact⟨hroom _ _ h1,hroom _ _ h2,h⟩
  ·rw[lw] at hb;have hb':¬ (v≠([]:List Int).getLast?.getD 0/\day<=292194):=by
    intro hc;have h3:v≠0:=hc.1;simp[h3,hc.2] at hb
   rw[if_neg hb'] at h;exact h
def qan {at_ val:List Int} {day v:Int} {K:List Int->List Int->Fr α} {Q:α->Prop} (h1:at_.length<1000000) (h2:at_.length=val.length)
  (h:(K (eM (at_,val) day v).1 (eM (at_,val) day v).2).satP Q):(NF at_ val day v K).satP Q:=by
 have key:∀ a b:List Int,a.length<1000000->b.length<1000000->eM (at_,val) day v=(if v≠b.getLast?.getD 0/\day<=292194 then (a++[day],b++[v]) else (a,b))->(BN a b day v K).satP Q:=λa b ha hb he=>by
  refine qam ha hb ?_;rw[he] at h;by_cases hc:v≠b.getLast?.getD 0/\day<=292194
  ·rw[if_pos hc] at h |-;exact h
  ·rw[if_neg hc] at h |-;exact h
 refine⟨λhp=>?_,λhp=>?_,λhb=>⟨?_,?_,?_⟩,λhb=>?_⟩
 ·have:(at_.length:Int)>0:=by simpa using hp
  rw[cD (by omega)];omega
 ·have:(at_.length:Int)>0:=by simpa using hp
  rw[cD (by omega)];omega
 ·have:(at_.length:Int)>0:=by
   rw[lw] at hb;simp at hb;simpa using hb.1
  rw[cD (by omega)];omega
 ·have:(at_.length:Int)>0:=by
   rw[lw] at hb;simp at hb;simpa using hb.1
  rw[cD (by omega)];omega
 ·rw[lw] at hb;obtain⟨hp,hb⟩:=Bool.and_eq_true_iff.1 hb;have hp':0<at_.length:=by simpa using hp
  rw[DH hp' h1] at hb;have hl:at_.getLast? = some day:=by
   have:at_.getLast?.getD 0=day:=by simpa using hb
   rw[uan] at this |-;rw[uap (by omega)] at this |-;simpa using this
  have e1:(I6.wrap ((at_.length:Int)-1)).toNat=at_.length-1:=by
   rw[cD (by omega)];omega
  rw[e1];refine key _ _ (by simp; omega) (by simp; omega) ?_;unfold eM;simp only[hl,if_true,List.dropLast_eq_take,<- h2]
 ·rw[lw] at hb;refine key _ _ h1 (by omega) ?_;have hl:at_.getLast? ≠ some day:=by
   intro hl;have hp':0<at_.length:=by
    cases at_ with
    |nil=>simp at hl
    |cons _ _=>simp
   have hp:decide ((at_.length:Int)>0)=true:=by simpa using hp'
   rw[hp,DH hp' h1,hl] at hb;simp at hb
  unfold eM;simp only[hl,ufu]
end
def NE {p:List Int×List Int} (day v:Int) (h:p.1.length=p.2.length):(eM p day v).1.length=(eM p day v).2.length/\(eM p day v).1.length<=p.1.length+1:=by
 unfold eM;by_cases hc:p.1.getLast? = some day
 ·simp only[hc,if_true];split<;>simp<;>omega
 ·simp only[hc,ufu];split<;>simp<;>omega
abbrev So:List (Tmp×PT):=[(10015,.d i64),(10014,.d i64),(10013,.d bY),(10005,.d i64)]
abbrev Sn:List MI:=[.y 3 190 [(some 3,i64),(some 3,i64)],.r 10003 3 0,.g 10004 149 [3],.x 7 122 af,.r 10007 7 0,.x 2 190 bj,.r 10002 2 0]
abbrev As:Pt:=⟨65,0,⟨So,Sn⟩,⟨[],[]⟩,⟨[],[]⟩⟩
abbrev LA:LS:=⟨(0,.d i64)::(1,.d i64)::So,.r 2 3 0::Sn⟩
noncomputable def GB:Code:=f149.body.getD .skip
def frA (x:LA.X):Fr As.Out:=
 NF x.2.1.1 x.2.1.2.1 x.1.1 x.1.2.1 λa b=>Jv (Rd.next (x.1.2.2,(a,b,()),x.2.2))
def Pg:CxOK prog (cx [] []):=aJ aG trivial trivial
def zak:ah prog GB LA As frA:=
 ah.of_run Pg (bs:=80000) (Λ:=dM) rfl rfl rfl (λE=>bL _ 0) (λx=>by kernel_rfl)
def FA (x:LA.X):Fr As.Out:=
 Jd (x.2.1.1.length<1000000/\x.2.1.1.length=x.2.1.2.1.length)
  (Jv (Rd.next (x.1.2.2,((eM (x.2.1.1,x.2.1.2.1) x.1.1 x.1.2.1).1,(eM (x.2.1.1,x.2.1.2.1) x.1.1 x.1.2.1).2,()),x.2.2)))
def qgk:ah prog GB LA As FA:=
 zak.conv λx Q h=>qan h.1.1 h.1.2 h.2
noncomputable def kA:Nat->FuncId->List AV->St->Option Tr:=JK prog (cx [] []).Γ 149 f149 LA As FA
def qo7:kv prog kA:=qn0 Pg (c:=GB) (by kernel_rfl) (by kernel_rfl) rfl rfl qgk
end Go.Proofs.YtgieagiaagoogaaGreat
namespace Go.Proofs.YtgieagiaagoogaaGreat
open Go Go.Ab Go.RowKit Go.Proofs Tryz
open Go.Ab.Fr renaming val->Jv,need->Jd,br->Jb
noncomputable def CC:Cx:=ib [(150,sh)] [(109,fe)] kA
def FE:CxOK prog CC:=iI aG ⟨qne,uT⟩ ⟨Ko,uT⟩ qo7
abbrev jy:Pt:=⟨41,0,⟨[(15,.d i64),(14,.d i64),(13,.d bY),(5,.d i64)],[.y 3 190 [(some 3,i64),(some 3,i64)],.r 3 3 0,.g 4 149 [3],.x 2 190 bj,.r 2 2 0]⟩,⟨[],[.y 3 190 [(some 3,i64),(some 3,i64)],.r 3 3 0,.x 2 190 bj,.r 2 2 0]⟩,⟨[],[]⟩⟩
def addS (p:List Int×List Int) (s:af.den):List Int×List Int:=eM (eM p s.1.1 s.2.2.2.2.1) s.1.2.1 0
def IE (x:jy.M.X) (s:af.den):Fr jy.Out:=
 let b:=addS (x.2.1.1,x.2.1.2.1) s;let a:=eM (x.2.1.1,x.2.1.2.1) s.1.1 s.2.2.2.2.1;Jd (x.2.1.1.length<1000000/\x.2.1.1.length=x.2.1.2.1.length)
  (Jd (a.1.length<1000000/\a.1.length=a.2.length)
   (Jv (Rd.next ((I6.wrap (x.1.1+1),x.1.2.1,x.1.2.2.1,s.1.2.1,()),(b.1,b.2,()),x.2.2.1,()))))
def QC (x:jy.M.X):Fr jy.Out:=
 let a:=IE x (x.1.2.2.1.getD x.1.1.toNat af.dflt);Jb (decide (x.1.1<x.1.2.1))
  (Jd (0<=x.1.1/\x.1.1<x.1.2.2.1.length)
   (Jb (!(sh.f (x.1.2.2.1.getD x.1.1.toNat af.dflt,x.1.2.2.2.1,())).1)
    (Jb (fe.bad (1,())) (Jv (Rd.pan (fe.pv (1,()))))
     a)
    a))
  (Jv (Rd.out ((),(x.2.1.1,x.2.1.2.1,()),x.2.2.1,())))
def zap:ah prog (aC f108 0) jy.M jy QC:=
 eH FE
def gm:List af.den->Int->List Int×List Int->Option (List Int×List Int)
 |[],_,p=>some p
 |s::l,e,p=>if fD s e=true then gm l s.1.2.1 (addS p s) else none
def K7 (r:bj.den) (o:Option (List Int×List Int)):Fr jy.Out:=
 Jb o.isSome (Jv (Rd.out ((),((o.getD ([],[])).1,(o.getD ([],[])).2,()),r,()))) (Jv (Rd.pan ⟨57,.i64,1⟩))
structure InvC (i n:Int) (l:List af.den) (p:List Int×List Int):Prop where
 len:n=l.length
 lo:0<=i
 hi:i<=n
 most:l.length<=2000
 both:p.1.length=p.2.length
 few:p.1.length<=2*i
def FC (x:jy.M.X):Fr jy.Out:=
 Jd (InvC x.1.1 x.1.2.1 x.1.2.2.1 (x.2.1.1,x.2.1.2.1)) (K7 x.2.2.1 (gm (x.1.2.2.1.drop x.1.1.toNat) x.1.2.2.2.1 (x.2.1.1,x.2.1.2.1)))
def qqb (i n:Int) (l:List af.den) (e:Int) (at_ val:List Int) (r:bj.den) (hinv:InvC i n l (at_,val)) (Q:jy.Out->Prop) (hq:(K7 r (gm (l.drop i.toNat) e (at_,val))).satP Q) :
  (QC ((i,n,l,e,()),(at_,val,()),r,())).satP λ
   |.next x'=>InvC x'.1.1 x'.1.2.1 x'.1.2.2.1 (x'.2.1.1,x'.2.1.2.1)/\(x'.1.2.1-x'.1.1).toNat<(n-i).toNat/\(FC x').satP Q
   |.out y=>Q (.out y)
   |.back z=>Q (.back z)
   |.pan p=>Q (.pan p):=by
 obtain⟨rfl,h4,h5,h6,h7,h8⟩:=hinv;refine⟨λhi=>?_,λhi=>?_⟩
 ·have hi':i<l.length:=by simpa using hi
  have hl:i.toNat<l.length:=by omega
  have e1:=ual hl;have g1:l.getD i.toNat af.dflt=l[i.toNat]:=by rw[uah,uap hl]; rfl
  rw[e1] at hq;generalize hs:l[i.toNat]=s at *;refine⟨⟨h4,hi'⟩,λhb=>?_,λhb=>?_⟩
  ·have hb':fD s e=false:=by
    have:(!(sh.f (l.getD i.toNat af.dflt,e,())).1)=true:=hb;rw[g1] at this;simpa[sh] using this
   have hq':Q (Rd.pan ⟨57,.i64,1⟩):=by
    unfold gm at hq;rw[hb'] at hq;exact hq.2 rfl
   exact⟨λ_=>hq',λhc=>by cases hc⟩
  ·have hb':fD s e=true:=by
    have:(!(sh.f (l.getD i.toNat af.dflt,e,())).1)=false:=hb;rw[g1] at this;simpa[sh] using this
   unfold gm at hq;rw[hb',if_pos rfl] at hq;have a1:=NE s.1.1 s.2.2.2.2.1 h7;have a2:=NE s.1.2.1 0 a1.1;rw[g1];have hw:I6.wrap (i+1)=i+1:=cD (by omega);have hn:(i+1).toNat=i.toNat+1:=by omega
   have h8':(at_.length:Int)<=2*i:=h8;have hI:InvC (i+1) l.length l (addS (at_,val) s):=⟨rfl,by omega,by omega,h6,a2.1,by
    have:(addS (at_,val) s).1.length<=(eM (at_,val) s.1.1 s.2.2.2.2.1).1.length+1:=a2.2;omega⟩
   refine⟨⟨by show at_.length<1000000; omega,h7⟩,⟨by show(eM (at_,val) s.1.1 s.2.2.2.2.1).1.length<1000000; omega,a1.1⟩,?_⟩;show InvC (I6.wrap (i+1)) l.length l (addS (at_,val) s)/\((l.length:Int)-I6.wrap (i+1)).toNat<((l.length:Int)-i).toNat/\(FC ((I6.wrap (i+1),(l.length:Int),l,s.1.2.1,()),((addS (at_,val) s).1,(addS (at_,val) s).2,()),r,())).satP Q;rw[hw];refine⟨hI,by omega,hI,?_⟩;rw[hn];exact hq
 ·have hi':¬ i<l.length:=by simpa using hi
  have hl:l.drop i.toNat=[]:=ua0 (by omega);rw[hl] at hq;exact hq.1 rfl
def qrs:ah prog (.loop (aC f108 0)) jy.M jy FC:=by
 refine ah.loop zap (μ:=λx=>(x.1.2.1-x.1.1).toNat) ?_ (λx Q h=>h.1);rintro⟨⟨i,n,l,e,_⟩,⟨at_,val,_⟩,r,_⟩ hinv Q hq;exact qqb i n l e at_ val r hinv Q hq.2
noncomputable def ΛC:Nat->St->Option Tr:=λ_=>jy.han CC.Γ jy.M FC
def eD (l:List af.den):Option (List Int×List Int):=if l.length<=2000 then gm l 1 ([],[]) else none
def QE (x:aq [.d bY]):Fr (Oc (ae [bj])):=
 let a:=gm (x.1.drop (Int.toNat 0)) 1 ([],[]);let b:=a.getD ([],[]);Jd (InvC 0 x.1.length x.1 ([],[]))
  (Jb a.isSome (Jv (Oc.ok ((b.1,b.2,()),())))
   (Jv (Oc.pan ⟨57,.i64,1⟩)))
def lK (x:aq [.d bY]):Fr (Oc (ae [bj])):=
 Jb (decide ((x.1.length:Int)>2000))
  (Jb (fe.bad (1,())) (Jv (Oc.pan (fe.pv (1,())))) (QE x))
  (QE x)
def qec:kz prog 108 ⟨[.d bY],[bj],λxs=>(lK xs).get.val,λxs=>(lK xs).get.bad,λxs=>(lK xs).get.pv,λxs=>[(lK xs).ok]⟩:=
 Q8 FE (Λ:=ΛC) (fn:=f108) ([],()) (by kernel_rfl) (λc E hc=>ws hc (by kernel_rfl) (b:=aC f108 0) (by kernel_rfl) (ah.han FE rfl qrs)) (λxs=>by kernel_rfl)
def bV (l:List af.den):bj.den:=(((eD l).getD ([],[])).1,((eD l).getD ([],[])).2,())
def dE:Pc:=⟨[.d bY],[bj],λx=>(bV x.1,()),λx=>(eD x.1).isNone,λ_=>⟨57,.i64,1⟩,λ_=>[]⟩
def Pe:kz prog 108 dE:=
 OO qec _ _ _ _ λw F xs vs hr _=>by
  obtain⟨l,_⟩:=xs;by_cases hl:l.length<=2000
  ·have hd:decide ((l.length:Int)>2000)=false:=by simp; omega
   have hI:InvC 0 l.length l ([],[]):=⟨rfl,ufb _,by omega,hl,rfl,by simp⟩;have hO:eD l=gm l 1 ([],[]):=if_pos hl;have hget:(lK (l,())).get=if (gm l 1 ([],[])).isSome=true then Oc.ok (bV l,()) else Oc.pan ⟨57,.i64,1⟩:=by
    show(if decide ((l.length:Int)>2000)=true then _ else (if (gm l 1 ([],[])).isSome=true then Oc.ok _ else Oc.pan _))=_;rw[hd];unfold bV;rw[hO];rfl
   refine⟨⟨λhb=>?_,λ_=>⟨hI,λ_=>uT,λ_=>uT⟩⟩,?_,?_,?_⟩
   ·have hb':=hb;rw[hd] at hb';cases hb'
   ·show(lK (l,())).get.bad=(eD l).isNone;rw[hget,hO];cases gm l 1 ([],[])<;>rfl
   ·intro hb;have hb':=hb;show(lK (l,())).get.val=(bV l,());rw[hget];rw[hO] at hb';cases h:gm l 1 ([],[]) with
    |none=>rw[h] at hb'; cases hb'
    |some p=>rfl
   ·intro hb;have hb':=hb;show(lK (l,())).get.pv=_;rw[hget];rw[hO] at hb';cases h:gm l 1 ([],[]) with
    |none=>rfl
    |some p=>rw[h] at hb'; cases hb'
  ·have hd:decide ((l.length:Int)>2000)=true:=by simp; omega
   have hO:eD l=none:=if_neg hl;have hget:(lK (l,())).get=Oc.pan ⟨57,.i64,1⟩:=by
    show(if decide ((l.length:Int)>2000)=true then _ else _)=_;rw[hd];rfl
   refine⟨⟨λ_=>⟨λ_=>uT,λhc=>by cases hc⟩,λhb=>?_⟩,?_,?_,?_⟩
   ·have hb':=hb;rw[hd] at hb';cases hb'
   ·show(lK (l,())).get.bad=(eD l).isNone;rw[hget,hO];rfl
   ·intro hb;have hb':=hb;rw[hO] at hb';cases hb'
   ·intro _;show(lK (l,())).get.pv=_;rw[hget];rfl
open Go.Ab.Fr renaming val->Jv,need->Jd,br->Jb
def cP (d:Int):Int:=if 292195<(if d<1 then 1 else d) then 292195 else (if d<1 then 1 else d)
def Hy (d:Int):1<=cP d/\cP d<=292195:=by
 unfold cP;split<;>split<;>omega
noncomputable def CU:Cx:=cx [(151,Cw),(111,oH)] [(109,fe)]
def Z2:CxOK prog CU:=aJ aG ⟨zc4,qha,uT⟩ ⟨Ko,uT⟩
def Du (s e:Int):Fr (Oc (ae [i64])):=
 let a:=oH.f (s,1,365,());Jb (fe.bad (e,())) (Jv (Oc.pan (fe.pv (e,()))))
  (Jd (0<=s->(0:Int)<=1->s*1<18446744073709551616)
   (Jb (fe.bad (a.2.1,())) (Jv (Oc.pan (fe.pv (a.2.1,())))) (Jv (Oc.ok (a.1,())))))
def oT (x:aq [.d bj,.d i64]):Fr (Oc (ae [i64])):=
 Jb (cP x.2.1==1) (Jv (Oc.ok (0,()))) (Du (Cw.f (x.1,(1,cP x.2.1,()),())).1 (Cw.f (x.1,(1,cP x.2.1,()),())).2.1)
def zex:kz prog 110 ⟨[.d bj,.d i64],[i64],λxs=>(oT xs).get.val,λxs=>(oT xs).get.bad,λxs=>(oT xs).get.pv,λxs=>[(oT xs).ok]⟩:=
 Q8 Z2 (Λ:=dM) (fn:=f110) (([],[],()),0,()) (by kernel_rfl) (λc E hc=>bL c 0) (λxs=>by kernel_rfl)
def i6 (s e:Int):Int×Int:=if e≠0 then (0,e) else if (cV s 1 365).2≠0 then (0,(cV s 1 365).2) else ((cV s 1 365).1,0)
def bZ (f:bj.den) (d:Int):Int×Int:=if cP d=1 then (0,0) else i6 (eY f (1,cP d,())).1 (eY f (1,cP d,())).2
def fL:Pc:=⟨[.d bj,.d i64],[i64],λx=>((bZ x.1 x.2.1).1,()),λx=>!((bZ x.1 x.2.1).2==0),λx=>⟨57,.i64,(bZ x.1 x.2.1).2⟩,λ_=>[]⟩
def zc0 (f:bj.den) (s:bR.den):(eY f s).1<=4000000000000000000:=by
 unfold eY;split
 ·rename_i h;obtain⟨_,_,_,hval⟩:=Lg h.1;have hs:=jY.1 h.2;have hok:=Ep (f:=f) hval (e:=s.2.1) hs.2.2 f.1 s.1 hs.1 hs.2.1;cases hq:eX (fI f s.2.1 f.1 s.1) (0,0) with
  |none=>show(0:Int)<=_; decide
  |some q=>
   obtain⟨j1,j2,j3,j4⟩:=LJ hok (q:=(0,0)) ⟨by decide,by decide,by decide,by decide⟩ hq;show q.1<=_;omega
 ·show(0:Int)<=_; decide
def qmm {s e:Int} (hs:s<=4000000000000000000):(Du s e).ok/\(Du s e).get=if (i6 s e).2=0 then Oc.ok ((i6 s e).1,()) else Oc.pan ⟨57,.i64,(i6 s e).2⟩:=by
 by_cases he:e=0
 ·subst he;have hneed:0<=s->(0:Int)<=1->s*1<18446744073709551616:=λ_ _=>by omega
  by_cases h2:(cV s 1 365).2=0
  ·have hU:i6 s 0=((cV s 1 365).1,0):=by
    unfold i6;rw[if_neg (λh=>h rfl),if_neg (λh=>h h2)]
   have hb:fe.bad ((oH.f (s,1,365,())).2.1,())=false:=by
    show(!((cV s 1 365).2==0))=false;rw[h2];rfl
   rw[hU];refine⟨⟨λhc=>(by cases hc),λ_=>⟨hneed,λ_=>uT,λ_=>uT⟩⟩,?_⟩;show(if fe.bad ((oH.f (s,1,365,())).2.1,())=true then _ else Oc.ok ((cV s 1 365).1,()))=_;rw[hb];rfl
  ·have hU:i6 s 0=(0,(cV s 1 365).2):=by
    unfold i6;rw[if_neg (λh=>h rfl),if_pos h2]
   have hb:fe.bad ((oH.f (s,1,365,())).2.1,())=true:=by
    show(!((cV s 1 365).2==0))=true;simp[h2]
   rw[hU];refine⟨⟨λhc=>(by cases hc),λ_=>⟨hneed,λ_=>uT,λ_=>uT⟩⟩,?_⟩;show(if fe.bad ((oH.f (s,1,365,())).2.1,())=true then Oc.pan ⟨57,.i64,(cV s 1 365).2⟩ else _)=_;rw[hb,if_pos rfl];exact(if_neg h2).symm
 ·have hU:i6 s e=(0,e):=by
   unfold i6;rw[if_pos he]
  have hb:fe.bad (e,())=true:=by
   show(!(e==0))=true;simp[he]
  rw[hU];refine⟨⟨λ_=>uT,λhc=>(by rw[hb] at hc; cases hc)⟩,?_⟩;show(if fe.bad (e,())=true then Oc.pan ⟨57,.i64,e⟩ else _)=_;rw[hb,if_pos rfl];exact(if_neg he).symm
def VX:kz prog 110 fL:=
 OO zex _ _ _ _ λw F xs vs hr _=>by
  obtain⟨f,d,_⟩:=xs;have key:(oT (f,d,())).ok/\(oT (f,d,())).get=if (bZ f d).2=0 then Oc.ok ((bZ f d).1,()) else Oc.pan ⟨57,.i64,(bZ f d).2⟩:=by
   unfold bZ;by_cases hd:cP d=1
   ·rw[if_pos hd];have hb:(cP d==1)=true:=by simpa using hd
    refine⟨⟨λ_=>uT,λhc=>(by rw[hb] at hc; cases hc)⟩,?_⟩;show(if (cP d==1)=true then Oc.ok (0,()) else _)=_;rw[hb];rfl
   ·rw[if_neg hd];have hb:(cP d==1)=false:=by simpa using hd
    have h2:=qmm (e:=(eY f (1,cP d,())).2) (zc0 f (1,cP d,()));refine⟨⟨λhc=>(by rw[hb] at hc; cases hc),λ_=>h2.1⟩,?_⟩;show(if (cP d==1)=true then _ else (Du (eY f (1,cP d,())).1 (eY f (1,cP d,())).2).get)=_;rw[hb,if_neg (by decide),h2.2]
  refine⟨key.1,?_,?_,?_⟩
  ·show(oT (f,d,())).get.bad = !((bZ f d).2==0);rw[key.2];by_cases h:(bZ f d).2=0
   ·rw[if_pos h,h];rfl
   ·rw[if_neg h];have:((bZ f d).2==0)=false:=by simpa using h
    rw[this];rfl
  ·intro hb;have hb':(!((bZ f d).2==0))=false:=hb;have h:(bZ f d).2=0:=by simpa using hb'
   show(oT (f,d,())).get.val=((bZ f d).1,());rw[key.2,if_pos h];rfl
  ·intro hb;have hb':(!((bZ f d).2==0))=true:=hb;have h:¬ (bZ f d).2=0:=by simpa using hb'
   show(oT (f,d,())).get.pv=_;rw[key.2,if_neg h];rfl
open Go.Ab.Fr renaming val->Jv,need->Jd,br->Jb
def zbz {w:World} {b:Nat} {ty:TypeId} {old v:Value} (h:w.heap[b]? = some (.cells #[old] ty (0,0))):w.setCell ⟨b,0,none⟩ v=w.setRow b #[v]:=by
 unfold World.setCell World.setRow;congr 1;apply ucg;intro i;simp only[Array.getElem?_modify];by_cases hi:b=i
 ·subst hi;rw[h];simp
 ·simp[hi]
def VK:TolOK prog 107 57 .i64:=by
 refine⟨enters (fn:=f107) (by kernel_rfl) rfl rfl,λp w=>?_,λb ty old n w hb=>?_⟩
 ·refine callsD_of_wpS func107 rfl λc₀ cs hu=>?_;simp only[ntmps107,uco,uc7,udj,Nat.reduceAdd,Nat.reduceSub,ubk,ubl,ucw,ubv,udk,uc2];apply wpS_seq;apply wpS_region;simp[wpOpsS,go_sem,recoverD,hu,Exit.thenS];refine wpS_of_wp ?_
  go_wp2
  cases c₀
  simp_all[bodyPostS,results,results107]
 ·have hc:w.cell? ⟨b,0,none⟩=some old:=aU hb 0;have hz:w.frozen? ⟨b,0,none⟩=false:=by simp[World.frozen?,hb]
  have hta:∀ w,(Instr.typeAssert (.iface 57 (.int .i64 n)) 20 57 true).run prog w = .ok (.tuple #[.int .i64 n,.bool true]) w:=λ_=>by kernel_rfl
  refine callsD_of_wpS func107 rfl λc₀ cs hu=>?_;simp only[ntmps107,uco,uc7,udj,Nat.reduceAdd,Nat.reduceSub,ubk,ubl,ucw,ubv,udk,uc2];apply wpS_seq;apply wpS_region;simp[wpOpsS,go_sem,recoverD,hu,Exit.thenS];refine wpS_of_wp ?_
  go_wp2
  simp[bodyPostS,results,results107,zbz hb]
open Go.Ab.Fr renaming val->Jv,need->Jd,br->Jb
def Id:(0:Int)<=0/\(0:Int)<=6:=by decide
def Ie:(0:Int)<=1/\(1:Int)<=6:=by decide
def Fs:(0:Int)<=0/\(0:Int)<=4000000000000000000:=by decide
def Qa:(0:Int)<=5/\(5:Int)<=6:=by decide
def qg5 (a b c:Int):0<=(cV a b c).2/\(cV a b c).2<=6:=by
 unfold cV;split
 ·exact⟨by decide,by decide⟩
 ·split
  ·exact⟨by decide,by decide⟩
  ·split
   ·exact Qa
   ·exact Id
def Qg (a b c:Int) (hc:0<c):0<=(cV a b c).1/\(cV a b c).1<=4000000000000000000:=by
 unfold cV;split
 ·exact⟨by decide,by decide⟩
 ·rename_i h;split
  ·exact⟨by decide,by decide⟩
  ·split
   ·exact⟨by decide,by decide⟩
   ·have hab:0<=a*b:=ud9 (by omega) (by omega);have hq:0<=a*b/c:=udi hab (by omega);have:0<=gp (a*b) c:=by
     unfold gp;split<;>omega
    exact⟨this,by show gp (a*b) c<=_; omega⟩
def zcz (f:bj.den) (s:bR.den):0<=(eY f s).2/\(eY f s).2<=6:=by
 unfold eY;split
 ·cases eX (fI f s.2.1 f.1 s.1) (0,0)
  ·exact Qa
  ·exact Id
 ·exact⟨by decide,by decide⟩
def Mc (f:bj.den) (d:Int):0<=(bZ f d).2/\(bZ f d).2<=6:=by
 unfold bZ;split
 ·exact⟨by decide,by decide⟩
 ·unfold i6;split
  ·exact zcz _ _
  ·split
   ·exact qg5 _ _ _
   ·exact Id
def Bq (f:bj.den) (d:Int):0<=(bZ f d).1/\(bZ f d).1<=4000000000000000000:=by
 unfold bZ;split
 ·exact Fs
 ·unfold i6;split
  ·exact Fs
  ·split
   ·exact Fs
   ·exact Qg _ _ _ (by decide)
def zew (f:bj.den) (d:Int) (h:(bZ f d).2≠0):(bZ f d).1=0:=by
 unfold bZ at *;split at h
 ·exact absurd rfl h
 ·rename_i hd;rw[if_neg hd];unfold i6 at *;split at h
  ·rename_i he;rw[if_pos he]
  ·rename_i he;rw[if_neg he];split at h
   ·rename_i h2;rw[if_pos h2]
   ·exact absurd rfl h
def vQ {n:Int} (h:0<=n/\n<=6):inR .i64 n:=by
 constructor
 ·show(-9223372036854775808:Int)<=n;omega
 ·show n<=(9223372036854775807:Int);omega
noncomputable def CP:Cx:=cx [] [(108,dE),(110,fL)]
def XT:CxOK prog CP:=aJ aG trivial ⟨Pe,VX,uT⟩
def dg (l:List af.den) (d:Int):Int×Int:=if (eD l).isNone=true then (0,1) else bZ (bV l) d
def mQ:Ct:=⟨[.d bY,.d i64],[i64,i64],λx=>((dg x.1 x.2.1).1,(dg x.1 x.2.1).2,()),λ_=>[]⟩
def qmn (x:aq [.d bY,.d i64]):Fr (ae [i64,i64]):=
 let b:=dE.pv (x.1,());let a:=((dE.f (x.1,())).1,x.2.1,());Jb (dE.bad (x.1,())) (Jd (inR .i64 b.n) (Jv (0,b.n,())))
  (Jb (fL.bad a)
   (Jd (inR .i64 (fL.pv a).n) (Jv (0,(fL.pv a).n,())))
   (Jv ((fL.f a).1,0,())))
def ZX:aa prog 79 mQ:=
 conv (qfw XT (Λ:=dM) (fn:=f79) (fr:=qmn) (ps:=[.d bY,.d i64]) (rs:=[i64,i64]) ([],0,()) (by kernel_rfl) VK (λc E _=>bL c 0) (λx=>by kernel_rfl)) _ _ λw F xs vs hr _=>by
  obtain⟨l,d,_⟩:=xs;by_cases hc:(eD l).isNone=true
  ·have hb:dE.bad (l,())=true:=hc;refine⟨⟨λ_=>⟨vQ Ie,uT⟩,λh=>(by have h':dE.bad (l,())=false:=h; rw[hb] at h'; cases h')⟩,?_⟩;show(if dE.bad (l,())=true then ((0:Int),(1:Int),()) else _)=((dg l d).1,(dg l d).2,());unfold dg;rw[hb,if_pos rfl,if_pos hc]
  ·have hb:dE.bad (l,())=false:=(by show(eD l).isNone=false; exact ucx.2 hc);have hU:dg l d=bZ (bV l) d:=if_neg hc;refine⟨⟨λh=>(by have h':dE.bad (l,())=true:=h; rw[hb] at h'; cases h'),λ_=>⟨λ_=>⟨vQ (Mc _ _),uT⟩,λ_=>uT⟩⟩,?_⟩;show(if dE.bad (l,())=true then _ else if (!((bZ (bV l) d).2==0))=true then ((0:Int),(bZ (bV l) d).2,()) else ((bZ (bV l) d).1,0,()))=((dg l d).1,(dg l d).2,());rw[hb,if_neg (by decide),hU];by_cases h2:(bZ (bV l) d).2=0
   ·rw[if_neg (by simp[h2]),h2]
   ·rw[if_pos (by simp[h2]),zew _ _ h2]
def ss:Ct:=⟨[.d bY],[i64,i64],λx=>((dg x.1 292195).1,(dg x.1 292195).2,()),λ_=>[]⟩
def ZY:aa prog 47 ss:=
 flat (ps:=[.d bY]) (rs:=[i64,i64]) (aJ (cs:=[(79,mQ)]) (ps:=[]) aG ⟨ZX,uT⟩ trivial) (fn:=f47) (fr:=λx=>Jv ((mQ.f (x.1,292195,())).1,(mQ.f (x.1,292195,())).2.1,())) ([],()) (by kernel_rfl) (λx=>by kernel_rfl) _ _
  (λ_ _ x _ _ _=>⟨uT,rfl⟩)
open Go.Ab.Fr renaming val->Jv,need->Jd,br->Jb
def dx (f:bj.den):Int->Nat->Int
 |_,0=>0
 |a,n+1=>cW f a+dx f (a+1) n
def HX (f:bj.den):(m n:Nat)->(a:Int)->dx f a (m+n)=dx f a m+dx f (a+m) n
 |0,n,a=>by simp[dx]
 |m+1,n,a=>by
  have h:=HX f m n (a+1);rw[show m+1+n=(m+n)+1 by omega];simp only[dx];rw[h];have:a+1+(m:Int)=a+((m+1:Nat):Int):=by omega
  rw[this];omega
def zj {f:bj.den} (h:∀ d,0<=cW f d):(n:Nat)->(a:Int)->0<=dx f a n
 |0,a=>ufb _
 |n+1,a=>by
  have:=zj h n (a+1);have:=h a;simp only[dx];omega
def HY {f:bj.den} {v:Int}:(n:Nat)->(a:Int)->(∀ d,a<=d->d<a+n->cW f d=v)->dx f a n=n*v
 |0,a,_=>by simp[dx]
 |n+1,a,h=>by
  simp only[dx];rw[h a (by omega) (by omega),HY n (a+1) (λd h1 h2=>h d (by omega) (by omega))]
  grind
def qc9 {l:List Int} {a d:Int} (had:a<=d) (h:∀ x∈l,x<=a\/d<x):f8 l d=f8 l a:=by
 unfold f8;apply List.countP_congr;intro x hx;have:=h x hx;simp only[ucs];omega
def VZ {f:bj.den} {a d:Int} (had:a<=d) (h:∀ x∈f.1,x<=a\/d<x):cW f d=cW f a:=by
 unfold cW;rw[qc9 had h]
def ze0 {f:bj.den} (h:∀ y∈f.2.1,0<=y) (d:Int):0<=cW f d:=by
 unfold cW;split
 ·exact ufb _
 ·rename_i k _;rw[uah];cases hk:f.2.1[k]? with
  |none=>simp
  |some y=>
   have:=h y (ube hk);simpa using this
def Vv {s t a b v:Int} (hv:0<=v) (hab:a<b) (ht:t<=4000000000000000000) :
  kq (s,t) (a,b,v)=if t+(b-a)*v<=4000000000000000000 then some (s+(b-a)*v,t+(b-a)*v) else none:=by
 have hm:max v (-v)=v:=by omega
 unfold kq;simp only[hm];have hiff:v>(4000000000000000000-t)/(b-a)↔¬ t+(b-a)*v<=4000000000000000000:=by
  have:=Int.le_ediv_iff_mul_le (a:=v) (b:=4000000000000000000-t) (c:=b-a) (by omega);rw[uez v] at this;omega
 by_cases h:t+(b-a)*v<=4000000000000000000
 ·rw[if_neg (by rw[hiff]; exact λhc=>hc h),if_pos h]
 ·rw[if_pos (hiff.2 h),if_neg h]
def LI {f:bj.den} (hv:∀ d,0<=cW f d) {e:Int}:(l:List Int)->(a s t:Int)->l.Pairwise (· < ·)->(∀ x∈f.1,x<=a\/e<=x\/x∈l)->a<e->t<=4000000000000000000 ->
  eX (fI f e l a) (s,t)=if t+dx f a (e-a).toNat<=4000000000000000000 then some (s+dx f a (e-a).toNat,t+dx f a (e-a).toNat) else none
 |[],a,s,t,_,hc,hae,ht=>by
  have hd:dx f a (e-a).toNat=(e-a)*cW f a:=by
   rw[HY (e-a).toNat a (λd h1 h2=>VZ h1 (λx hx=>by
    rcases hc x hx with h|h|h
    ·exact .inl h
    ·exact .inr (by omega)
    ·cases h))]
   congr 1;omega
  rw[hd];simp only[fI,eX];rw[Vv (hv a) hae ht];split<;>rfl
 |d::l,a,s,t,hp,hc,hae,ht=>by
  obtain⟨hp1,hp2⟩:=ub8.1 hp;unfold fI;split
  ·rename_i hsk;refine LI hv l a s t hp2 (λx hx=>?_) hae ht;rcases hc x hx with h|h|h
   ·exact .inl h
   ·exact .inr (.inl h)
   ·rcases ueg.1 h with rfl|h
    ·rcases hsk with h|h
     ·exact .inl h
     ·exact .inr (.inl h)
    ·exact .inr (.inr h)
  ·rename_i hsk;have hda:a<d:=by omega
   have hde:d<e:=by omega
   have hd:dx f a (d-a).toNat=(d-a)*cW f a:=by
    rw[HY (d-a).toNat a (λd' h1 h2=>VZ h1 (λx hx=>by
     rcases hc x hx with h|h|h
     ·exact .inl h
     ·exact .inr (by omega)
     ·rcases ueg.1 h with rfl|h
      ·exact .inr (by omega)
      ·have:=hp1 x h;exact .inr (by omega)))]
    congr 1;omega
   have hsplit:dx f a (e-a).toNat=dx f a (d-a).toNat+dx f d (e-d).toNat:=by
    rw[show(e-a).toNat=(d-a).toNat+(e-d).toNat by omega,HX];congr 2;omega
   have hnn:=zj hv (e-d).toNat d;simp only[eX];rw[Vv (hv a) hda ht,<- hd];by_cases h1:t+dx f a (d-a).toNat<=4000000000000000000
   ·rw[if_pos h1];show eX (fI f e l d) _=_;have hc':∀ x∈f.1,x<=d\/e<=x\/x∈l:=λx hx=>by
     rcases hc x hx with h|h|h
     ·exact .inl (ue3 h (ues hda))
     ·exact .inr (.inl h)
     ·rcases ueg.1 h with rfl|h
      ·exact .inl (ufb _)
      ·exact .inr (.inr h)
    rw[LI hv l d _ _ hp2 hc' hde h1];rw[hsplit,Int.add_assoc,Int.add_assoc]
   ·have hno:¬ t+dx f a (e-a).toNat<=4000000000000000000:=by
     rw[hsplit];clear hd hsplit;generalize dx f a (d-a).toNat=A at *;generalize dx f d (e-d).toNat=B at *;omega
    rw[if_neg h1,if_neg hno];rfl
structure Pos (f:bj.den):Prop where
 right:lh f=true
 pos:∀ y∈f.2.1,0<=y
def Pos.val {f:bj.den} (h:Pos f) (d:Int):0<=cW f d:=ze0 h.pos d
def zcy {f:bj.den} (h:Pos f) {a e:Int} (ha:1<=a) (hae:a<e) (he:e<=292195) :
  eY f (a,e,())=if dx f a (e-a).toNat<=4000000000000000000 then (dx f a (e-a).toNat,0) else (0,5):=by
 obtain⟨h1,h2,h3,h4⟩:=Lg h.right;have hsum:=LI h.val (e:=e) f.1 a 0 0 h2 (λx hx=>.inr (.inr hx)) hae (by decide);simp only[Int.zero_add] at hsum;unfold eY;rw[if_pos ⟨h.right,jY.2 ⟨ha,hae,he⟩⟩,hsum];by_cases hc:dx f a (e-a).toNat<=4000000000000000000
 ·rw[if_pos hc,if_pos hc]
 ·rw[if_neg hc,if_neg hc]
def Sd (f:bj.den) (d:Int):Int:=dx f 1 (cP d-1).toNat
def qg6 {p:Int} (h:0<=p):gp p 365=(p+182)/365:=by
 unfold gp;split<;>omega
def qg3 {p:Int} (h:0<=p) (h2:p<=4000000000000000000):cV p 1 365=((p+182)/365,0):=by
 unfold cV;rw[Int.mul_one,qg6 h,if_neg (by omega),if_neg (by decide),if_neg (by omega)]
def Mb {f:bj.den} (h:Pos f) (d:Int):bZ f d=if Sd f d<=4000000000000000000 then ((Sd f d+182)/365,0) else (0,5):=by
 have hb:=Hy d;have hnn:=zj h.val (cP d-1).toNat 1;unfold bZ;by_cases hd:cP d=1
 ·rw[if_pos hd];have:Sd f d=0:=by
   unfold Sd;rw[hd];rfl
  rw[this,if_pos (by decide)];rfl
 ·rw[if_neg hd,zcy h (by decide) (by omega) hb.2];show i6 _ _=_;unfold Sd;by_cases hc:dx f 1 (cP d-1).toNat<=4000000000000000000
  ·rw[if_pos hc,if_pos hc];show i6 (dx f 1 (cP d-1).toNat) 0=_;unfold i6;rw[if_neg (λh=>h rfl),qg3 hnn hc,if_neg (λh=>h rfl)]
  ·rw[if_neg hc,if_neg hc];rfl
def qcu {a b:Int} (h:a<=b):cP a<=cP b:=by
 unfold cP;split<;>split<;>(try split)<;>(try split)<;>omega
def ZT {f:bj.den} (h:Pos f) {a b:Int} (hab:a<=b):Sd f a<=Sd f b:=by
 have hc:=qcu hab;have ha:=Hy a;unfold Sd;rw[show(cP b-1).toNat=(cP a-1).toNat+(cP b-cP a).toNat by omega,HX];have:=zj h.val (cP b-cP a).toNat (1+((cP a-1).toNat:Int));omega
def ZU {f:bj.den} (h:Pos f) (a:Int):0<=Sd f a:=zj h.val _ _
open Go.Ab.Fr renaming val->Jv,need->Jd,br->Jb
def Lh {d v:Int}:{l r:List Int}->(d0 v0:Int)->l.length=r.length ->
  ge (l++[d]) (r++[v]) d0 v0=(ge l r d0 v0&&(decide (l.getLast?.getD d0<d)&&(decide (d<=292194)&&(!(v==r.getLast?.getD v0)&&iq v))))
 |[],[],d0,v0,_=>by
  show(_&&true)=(true&&_);rw[uek,uej];rfl
 |[],_::_,_,_,h=>by simp at h
 |_::_,[],_,_,h=>by simp at h
 |a::l,b::r,d0,v0,h=>by
  have ih:=Lh (d:=d) (v:=v) (l:=l) (r:=r) a b (by simpa using h);simp only[uc2,ge];rw[ih];have e1:(a::l).getLast?.getD d0=l.getLast?.getD a:=by
   rw[List.getLast?_cons];rfl
  have e2:(b::r).getLast?.getD v0=r.getLast?.getD b:=by
   rw[List.getLast?_cons];rfl
  rw[e1,e2];simp only[uea]
structure Good (p:List Int×List Int) (m:Int):Prop where
 len:p.1.length=p.2.length
 up:ge p.1 p.2 0 0=true
 le:p.1.getLast?.getD 0<=m
 pos:∀ y∈p.2,0<=y
def J4 {l:List Int} {x:Int} (h:l.getLast? = some x):l=l.dropLast++[x]:=by
 cases l with
 |nil=>simp at h
 |cons a l=>
  rw[List.getLast?_eq_some_getLast (by simp)] at h;injection h with h
  rw[<- h];exact(List.dropLast_concat_getLast (by simp)).symm
def Good.pop {p:List Int×List Int} {m day:Int} (h:Good p m) (hl:p.1.getLast? = some day):Good (p.1.dropLast,p.2.dropLast) (day-1)/\day<=m:=by
 obtain⟨at_,val⟩:=p;obtain⟨h1,h2,h3,h4⟩:=h;simp only at *;have e1:=J4 hl;cases hv:val.getLast? with
 |none=>
  have:val=[]:=by simpa using hv
  subst this;rw[e1] at h1;simp at h1
 |some y=>
  have e2:=J4 hv;have hlen:at_.dropLast.length=val.dropLast.length:=by simp[h1]
  rw[e1,e2,Lh 0 0 hlen] at h2;simp only[uc9,ucs] at h2;refine⟨⟨hlen,h2.1,?_,λz hz=>h4 z ?_⟩,?_⟩
  ·have:=h2.2.1;show at_.dropLast.getLast?.getD 0<=day-1;omega
  ·rw[e2];exact ubh _ hz
  ·rw[hl] at h3;exact h3
def Good.push {p:List Int×List Int} {m day v:Int} (h:Good p m) (hd:m<day) (hday:day<=292194) (hv:0<=v/\v<=4000000000000000000) (hne:v≠p.2.getLast?.getD 0):Good (p.1++[day],p.2++[v]) day:=by
 obtain⟨h1,h2,h3,h4⟩:=h;refine⟨by simp[h1],?_,by simp,λz hz=>?_⟩
 ·show ge (p.1++[day]) (p.2++[v]) 0 0=true;rw[Lh 0 0 h1,h2];have hm:iq v=true:=SE.2 (by omega);have hb:(v==p.2.getLast?.getD 0)=false:=by simpa using hne
  have hlt:p.1.getLast?.getD 0<day:=by omega
  simp[hm,hb,hlt,hday]
 ·rcases udq.1 hz with hz|hz
  ·exact h4 z hz
  ·simp only[ucd] at hz;subst hz;exact hv.1
def Good.mono {p:List Int×List Int} {m m':Int} (h:Good p m) (hm:m<=m'):Good p m':=⟨h.len,h.up,ue3 h.le hm,h.pos⟩
def Good.add {p:List Int×List Int} {m day v:Int} (h:Good p m) (hd:m<=day) (h1:1<=day) (hv:0<=v/\v<=4000000000000000000):Good (eM p day v) day:=by
 unfold eM;by_cases hl:p.1.getLast? = some day
 ·have hp:=(h.pop hl).1;simp only[hl,if_true];split
  ·rename_i hc;exact hp.push (by omega) hc.2 hv hc.1
  ·exact hp.mono (by omega)
 ·simp only[hl,ufu];have hlt:p.1.getLast?.getD 0<=day-1:=by
   have hle:=h.le;cases hx:p.1.getLast? with
   |none=>show(0:Int)<=_; omega
   |some x=>
    rw[hx] at hle hl;have hne:x≠day:=λhe=>hl (by rw[he]);have hle':x<=m:=hle;show x<=_;omega
  have hg:Good p (day-1):=⟨h.len,h.up,hlt,h.pos⟩;split
  ·rename_i hc;exact hg.push (by omega) hc.2 hv hc.1
  ·exact hg.mono (by omega)
def jt {s:af.den} {e:Int}:fD s e=true↔e<=s.1.1/\s.1.1<s.1.2.1/\s.1.2.1<=292195/\0<=s.2.2.2.2.1/\s.2.2.2.2.1<=4000000000000000000:=by
 simp[fD]
def Good.addS {p:List Int×List Int} {s:af.den} {e:Int} (h:Good p e) (he:1<=e) (hs:fD s e=true):Good (addS p s) s.1.2.1:=by
 obtain⟨h1,h2,h3,h4,h5⟩:=jt.1 hs;have hf:1<=s.1.1:=ue3 he h1;have ht:1<=s.1.2.1:=ue3 hf (ues h2);exact(h.add h1 hf ⟨h4,h5⟩).add (ues h2) ht (by decide)
def hZ:List af.den->Int->List Int×List Int->Option (Int×(List Int×List Int))
 |[],e,p=>some (e,p)
 |s::l,e,p=>if fD s e=true then hZ l s.1.2.1 (addS p s) else none
def CG:(l:List af.den)->(e:Int)->(p:List Int×List Int)->gm l e p=(hZ l e p).map (·.2)
 |[],_,_=>rfl
 |s::l,e,p=>by
  simp only[gm,hZ];split
  ·exact CG l _ _
  ·rfl
def Pd:{l:List af.den} -> {e:Int} -> {p:List Int×List Int} -> {q:Int×(List Int×List Int)}->Good p e->1<=e->hZ l e p=some q->Good q.2 q.1/\1<=q.1
 |[],e,p,q,h,he,hq=>by
  simp only[hZ,ucj] at hq;subst hq;exact⟨h,he⟩
 |s::l,e,p,q,h,he,hq=>by
  simp only[hZ] at hq;split at hq
  ·rename_i hs;obtain⟨h1,h2,_⟩:=jt.1 hs;have ht:1<=s.1.2.1:=ue3 (ue3 he h1) (ues h2);exact Pd (h.addS he hs) ht hq
  ·cases hq
def Rr:Good ([],[]) 1:=⟨rfl,rfl,by show(0:Int)<=1; decide,by simp⟩
def H6 {l:List af.den} (h:(eD l).isNone=false):Pos (bV l):=by
 unfold bV;unfold eD at *;split at h
 ·rename_i hl;rw[if_pos hl];rw[CG] at h |-;cases hq:hZ l 1 ([],[]) with
  |none=>rw[hq] at h; cases h
  |some q=>
   have hg:=(Pd Rr (by decide) hq).1;show Pos (q.2.1,q.2.2,());refine⟨?_,hg.pos⟩;simp only[lh,hg.up,uek,ucs];exact hg.len
 ·cases h
open Go.Ab.Fr renaming val->Jv,need->Jd,br->Jb
noncomputable def WY:Cx:=cx [(95,fz),(104,fz)] []
def ux:CxOK prog WY:=aJ aG ⟨Ld,Lf,uT⟩ trivial
def Jq (x:aq [.d cj]):Fr (ae [.bool]):=
 let a:=x.1.2;Jv (bif bif bif bif bif bif decide (x.1.1>=0) then decide (x.1.1<4) else false then bif decide (a.1>=1) then decide (a.1<=1000000000000000) else false else false then decide (a.2.1>=0) else false then decide (a.2.1<=200) else false then decide (a.2.2.1>=0) else false then decide (a.2.2.1<100) else false,())
def qm2:aa prog 141 (aL [.d cj] [.bool] Jq):=
 aH ux f141
def Jr (x:aq [.d cj]):Fr (ae [.bool]):=
 let a:=x.1.2;Jb (bif bif bif decide (x.1.1<0) then true else decide (x.1.1>3) then true else decide (a.1<1) then true else decide (a.1>1000000000000000)) (Jv (false,())) (Jv (bif bif bif decide (a.2.1>=0) then decide (a.2.1<=200) else false then decide (a.2.2.1>=0) else false then decide (a.2.2.1<=99) else false,()))
def qm1:aa prog 165 (aL [.d cj] [.bool] Jr):=
 aH ux f165
def Jh (x:aq [.d ak]):Fr (ae [.bool]):=
 let a:=x.1.2.2;Jb (bif bif bif decide (x.1.1<0) then true else decide (x.1.1>7) then true else decide (a.2.2.1<1) then true else decide (a.2.2.1>10000)) (Jv (false,())) (Jv (bif bif bif decide (a.2.1>=0) then decide (a.2.1<x.1.2.1) else false then decide (x.1.2.1<=a.1) else false then decide (a.1<=1000000000000000) else false,()))
def qmq:aa prog 195 (aL [.d ak] [.bool] Jh):=
 aH ux f195
def Ji (x:aq [.d i64]):Fr (ae [.bool]):=
 Jv (bif decide (x.1>=1) then decide (x.1<=292194) else false,())
def qms:aa prog 145 (aL [.d i64] [.bool] Ji):=
 aH ux f145
def Jk (x:aq [.d bR,.d i64]):Fr (ae [.bool]):=
 Jv (bif bif (fz.f ((x.1.1,x.1.2.1,()),())).1 then decide (x.1.1<=x.2.1) else false then decide (x.2.1<x.1.2.1) else false,())
def qmu:aa prog 168 (aL [.d bR,.d i64] [.bool] Jk):=
 aH ux f168
def QT (x:aq [.d bR]):Fr (ae [bR]):=
 Jb (bif !(fz.f ((x.1.1,x.1.2.1,()),())).1 then true else x.1.1==x.1.2.1) (Jv ((0,0,()),())) (Jv ((x.1.1,x.1.2.1,()),()))
def qmw:aa prog 69 (aL [.d bR] [bR] QT):=
 aH ux f69
def Sj (b v:Bool):(if b=true then ((false,()):Bool×Unit) else (v,()))=(!b&&v,()):=by cases b<;>rfl
def jA (k v a z:Int):Bool:=decide (0<=k/\k<4/\1<=v/\v<=1000000000000000/\0<=a/\a<=200/\0<=z/\z<100)
def iF:Ct:=⟨[.d cj],[.bool],λx=>(jA x.1.1 x.1.2.1 x.1.2.2.1 x.1.2.2.2.1,()),λ_=>[]⟩
def Lj:aa prog 141 iF:=
 conv qm2 _ _ (λ_ _ x _ _ _=>by
  obtain⟨⟨k,v,a,z,_⟩,_⟩:=x;refine⟨by simp[aE,Fr.ok,Jq],?_⟩;dsimp only[Jq,Fr.get,jA,Ty.den,PT.den];simp only[ubw,ua9];congr 1;rw[udv];simp only[uc9,udr,ucs];omega)
def Up:aa prog 165 iF:=
 conv qm1 _ _ (λ_ _ x _ _ _=>by
  obtain⟨⟨k,v,a,z,_⟩,_⟩:=x;refine⟨by simp[aE,Fr.ok,Jr],?_⟩;dsimp only[Jr,Fr.get,jA,Ty.den,PT.den];simp only[Sj,ubw,ua9];congr 1;rw[udv];simp only[uc9,uct,ubm,ucs,uau];omega)
def kG (p l g d s:Int):Bool:=decide (0<=p/\p<8/\1<=s/\s<=10000/\0<=d/\d<l/\l<=g/\g<=1000000000000000)
def jO:Ct:=⟨[.d ak],[.bool],λx=>(kG x.1.1 x.1.2.1 x.1.2.2.1 x.1.2.2.2.1 x.1.2.2.2.2.1,()),λ_=>[]⟩
def OW:aa prog 195 jO:=
 conv qmq _ _ (λ_ _ x _ _ _=>by
  obtain⟨⟨p,l,g,d,s,_⟩,_⟩:=x;refine⟨by simp[aE,Fr.ok,Jh],?_⟩;dsimp only[Jh,Fr.get,kG,Ty.den,PT.den];simp only[Sj,ubw,ua9];congr 1;rw[udv];simp only[uc9,uct,ubm,ucs,uau];omega)
def eO (d:Int):Bool:=decide (1<=d/\d<=292194)
def uZ:Ct:=⟨[.d i64],[.bool],λx=>(eO x.1,()),λ_=>[]⟩
def P5:aa prog 145 uZ:=
 conv qms _ _ (λ_ _ x _ _ _=>by
  obtain⟨d,_⟩:=x;refine⟨by simp[aE,Fr.ok,Ji],?_⟩;dsimp only[Ji,Fr.get,eO,Ty.den,PT.den];simp only[ua9];congr 1;rw[udv];simp only[uc9,ucs,ge_iff_le])
def cE (a b d:Int):Bool:=decide (1<=a/\b<=292195/\a<=d/\d<b)
def eN:Ct:=⟨[.d bR,.d i64],[.bool],λx=>(cE x.1.1 x.1.2.1 x.2.1,()),λ_=>[]⟩
def JS:aa prog 168 eN:=
 conv qmu _ _ (λ_ _ x _ _ _=>by
  obtain⟨⟨a,b,_⟩,d,_⟩:=x;refine⟨by simp[aE,Fr.ok,Jk],?_⟩;dsimp only[Jk,Fr.get,cE,fz,e9,Ty.den,PT.den];simp only[ubw,ua9];congr 1;rw[udv];simp only[uc9,ucs];omega)
def sO (s:bR.den):bR.den:=if dd s=true then s else (0,0,())
def vk:Ct:=⟨[.d bR],[bR],λx=>(sO x.1,()),λ_=>[]⟩
def qpn (a b:Int):((¬a>=1\/¬a<=b\/¬b<=292195)\/a=b)↔(¬a>=1\/¬a<b\/¬b<=292195):=by omega
def qpk (a b:Int):(bif !(e9 (a,b,())) then true else a==b) = !(dd (a,b,())):=by
 dsimp only[e9,dd,Ty.den,PT.den];simp only[ubw];rw[udv];simp only[uc9,udr,uct,uba,ucs,uau,ufh];exact qpn a b
def qpm:aa prog 69 vk:=
 conv qmw _ _ (λ_ _ x _ _ _=>by
  obtain⟨⟨a,b,_⟩,_⟩:=x;refine⟨by simp[aE,Fr.ok,QT],?_⟩;show(if (bif !(e9 (a,b,())) then true else a==b)=true then (((0,0,()),()):bR.den×Unit) else ((a,b,()),()))=(if dd (a,b,())=true then (a,b,()) else (0,0,()),());rw[qpk];cases dd (a,b,())<;>rfl)
noncomputable def WZ:Cx:=cx [(69,vk)] []
def Mq:CxOK prog WZ:=aJ aG ⟨qpm,uT⟩ trivial
open Go.Ab.Fr renaming val->Jv,need->Jd,br->Jb
abbrev be:PT:=.pf [i64,i64] [i64]
def aO (g:be.den) (x y:Int):Bool:=decide ((g.1 (x,y,())).1<0)
def ku (g:be.den) (l:List Int):Prop:=∀ x∈l,∀ y∈l,g.2 (x,y,())
def ku.sub {g:be.den} {l s:List Int} (h:ku g l) (hs:∀ x∈s,x∈l):ku g s:=λx hx y hy=>h x (hs x hx) y (hs y hy)
def qny {i j:Nat} (h:i+j<=9223372036854775807):I6.wrap ((IntKind.u64.wrap (I6.wrap ((i:Int)+j))).fdiv (2 ^ min (Int.toNat 1) IntKind.u64.bits))=((i+j)/2:Nat):=by
 have h1:I6.wrap ((i:Int)+j)=(i:Int)+j:=IntWalk.i64_in _ (by omega);have h2:IntKind.u64.wrap ((i:Int)+j)=(i:Int)+j:=IntWalk.u64_in _ (by omega);have h3:(2:Int) ^ min (Int.toNat 1) IntKind.u64.bits=2:=by decide
 rw[h1,h2,h3,uag _ (by decide),IntWalk.i64_in _ (by omega)];omega
def BO {i j:Nat} (h:i+j<=9223372036854775807):I6.wrap ((i:Int)+j)=(i+j:Nat):=by
 rw[IntWalk.i64_in _ (by omega)];omega
def pD {i:Nat} (h:i+1<=9223372036854775807):I6.wrap ((i:Int)+1)=(i+1:Nat):=by
 rw[IntWalk.i64_in _ (by omega)];omega
def xK {i j:Nat} (h:j<=i) (h2:i<=9223372036854775807):I6.wrap ((i:Int)-j)=(i-j:Nat):=by
 rw[IntWalk.i64_in _ (by omega)];omega
def TE {i:Nat} (h:1<=i) (h2:i<=9223372036854775807):I6.wrap ((i:Int)-1)=(i-1:Nat):=by
 rw[IntWalk.i64_in _ (by omega)];omega
def lm {l:List Int} {i j:Nat}:(fX l 0 i j).length=l.length:=by simp[fX]
def V0 {l:List Int} {i j:Nat} (hi:i<l.length) (hj:j<l.length) {x:Int} (h:x∈fX l 0 i j):x∈l:=by
 unfold fX at h;have h1:l.getD i 0∈l:=eh hi;have h2:l.getD j 0∈l:=eh hj;rcases uao h with h|rfl
 ·rcases uao h with h|rfl
  ·exact h
  ·exact h2
 ·exact h1
abbrev mc:Pt:=⟨53,2,⟨[(1,.d i64),(2,.d i64),(3,be),(8,.d i64),(9,.d i64)],[.al 10000 0,.o 0 3 i64]⟩,⟨[(1,.d i64),(2,.d i64),(3,be),(8,.d i64)],[.al 10000 0,.o 0 3 i64]⟩,⟨[],[]⟩⟩
noncomputable def JV:Code:=((Go.Ab.loopB (aC f202 0) 0).getD .skip)
noncomputable def o5:Cx:=cx [] []
def eI:CxOK prog o5:=aJ aG trivial trivial
def Jl (x:mc.M.X):Fr mc.Out:=
 let a:=x.1.1; let j:=x.1.2.2.2.2.1; let g:=x.1.2.2.1; let l:=x.2.1
 Jd (decide (j>a)=true->0<=j/\j<l.length)
  (Jd (decide (j>a)=true->j.toNat<l.length)
   (Jd (decide (j>a)=true->0<=I6.wrap (j-1)/\I6.wrap (j-1)<l.length)
    (Jd (decide (j>a)=true->(I6.wrap (j-1)).toNat<l.length)
     (Jd (decide (j>a)=true->g.2 (l.getD j.toNat i64.dflt,l.getD (I6.wrap (j-1)).toNat i64.dflt,()))
      (Jb (bif decide (j>a) then decide ((g.1 (l.getD j.toNat i64.dflt,l.getD (I6.wrap (j-1)).toNat i64.dflt,())).1<0) else false)
       (Jd (0<=I6.wrap (j-1)/\I6.wrap (j-1)<l.length)
        (Jd ((I6.wrap (j-1)).toNat<l.length)
         (Jd (0<=j/\j<l.length)
          (Jd (j.toNat<l.length)
           (Jd (0<=j/\j<l.length)
            (Jd (j.toNat<l.length)
             (Jd (0<=I6.wrap (j-1)/\I6.wrap (j-1)<(l.set j.toNat (l.getD (I6.wrap (j-1)).toNat i64.dflt)).length)
              (Jd ((I6.wrap (j-1)).toNat<(l.set j.toNat (l.getD (I6.wrap (j-1)).toNat i64.dflt)).length)
               (Jv (Rd.next ((a,x.1.2.1,(g.1,g.2),x.1.2.2.2.1,I6.wrap (j-1),()),
                ((l.set j.toNat (l.getD (I6.wrap (j-1)).toNat i64.dflt)).set (I6.wrap (j-1)).toNat (l.getD j.toNat i64.dflt),()))))))))))))
       (Jv (Rd.out ((a,x.1.2.1,(g.1,g.2),x.1.2.2.2.1,()),(l,())))))))))
def zbh:ah prog JV mc.M mc Jl:=
 eH eI
structure InvInsI (a j:Int) (g:be.den) (l:List Int):Prop where
 a0:0<=a
 aj:a<=j
 jl:j<l.length
 big:(l.length:Int)<=9223372036854775807
 dom:ku g l
def Gg (x:mc.M.X):Fr mc.Out:=
 Jd (InvInsI x.1.1 x.1.2.2.2.2.1 x.1.2.2.1 x.2.1) (Jv (Rd.out ((x.1.1,x.1.2.1,x.1.2.2.1,x.1.2.2.2.1,()),(fT (aO x.1.2.2.1) 0 x.1.1.toNat x.1.2.2.2.2.1.toNat x.2.1,()))))
def qqi (a b i j:Int) (g:be.den) (l:List Int) (hinv:InvInsI a j g l) (Q:mc.Out->Prop)
  (hq:Q (Rd.out ((a,b,g,i,()),(fT (aO g) 0 a.toNat j.toNat l,())))):(Jl ((a,b,g,i,j,()),(l,()))).satP λ
   |.next x'=>InvInsI x'.1.1 x'.1.2.2.2.2.1 x'.1.2.2.1 x'.2.1/\x'.1.2.2.2.2.1.toNat<j.toNat/\(Gg x').satP Q
   |.out y=>Q (.out y)
   |.back z=>Q (.back z)
   |.pan p=>Q (.pan p):=by
 obtain⟨h0,h1,h2,h3,h4⟩:=hinv;obtain⟨a',rfl⟩:∃ n:Nat,a=n:=⟨a.toNat,by omega⟩;obtain⟨j',rfl⟩:∃ n:Nat,j=n:=⟨j.toNat,by omega⟩;dsimp only[Jl,Fr.satP,Ty.den,PT.den];by_cases hj:a'<j'
 ·obtain⟨k,rfl⟩:∃ k,j'=k+1:=⟨j'-1,by omega⟩;have hkl:k+1<l.length:=by omega
  have hw:I6.wrap (((k+1:Nat):Int)-1)=(k:Nat):=by rw[TE (by omega) (by omega)]; rfl
  have hd:decide (((k+1:Nat):Int)>(a':Int))=true:=ud8 (by omega);have t1:((k+1:Nat):Int).toNat=k+1:=rfl;have t2:((k:Nat):Int).toNat=k:=rfl;rw[hw,hd,t1,t2];simp only[udm];refine⟨λ_=>⟨by omega,by omega⟩,λ_=>by omega,λ_=>⟨by omega,by omega⟩,λ_=>by omega,λ_=>h4 _ (eh hkl) _ (eh (by omega)),λhc=>?_,λhc=>?_⟩
  ·refine⟨⟨by omega,by omega⟩,by omega,⟨by omega,by omega⟩,by omega,⟨by omega,by omega⟩,by omega,⟨by omega,by omega⟩,by omega,?_⟩;have hI:InvInsI a' k g (fX l 0 (k+1) k):=⟨by omega,by omega,by rw[lm]; omega,by rw[lm]; omega,h4.sub λx hx=>V0 hkl (by omega) hx⟩;refine⟨hI,by omega,hI,?_⟩;simp only[ucy,fT] at hq |-;rw[if_pos (by omega)] at hq;have hc':aO g (l.getD (k+1) 0) (l.getD k 0)=true:=hc;rw[hc'] at hq;exact hq
  ·simp only[ucy,fT] at hq;rw[if_pos (by omega)] at hq;have hc':aO g (l.getD (k+1) 0) (l.getD k 0)=false:=hc;rw[hc'] at hq;exact hq
 ·have hd:decide ((j':Int)>(a':Int))=false:=udt (by omega);rw[hd];refine⟨λh=>(by cases h),λh=>(by cases h),λh=>(by cases h),λh=>(by cases h),λh=>(by cases h),λhc=>(by cases hc),λ_=>?_⟩;have hx:fT (aO g) 0 a' j' l=l:=by
   cases j' with
   |zero=>rfl
   |succ k=>simp only[fT]; rw[if_neg (by omega)]
  simp only[ucy,hx] at hq;exact hq
def qrz:ah prog (.loop JV) mc.M mc Gg:=by
 refine ah.loop (n:=53) (id:=2) zbh (inv:=λx=>InvInsI x.1.1 x.1.2.2.2.2.1 x.1.2.2.1 x.2.1) (μ:=λx=>x.1.2.2.2.2.1.toNat) ?_ (λx Q h=>h.1);rintro⟨⟨a,b,g,i,j,_⟩,⟨l,_⟩⟩ hinv Q hq;exact qqi a b i j g l hinv Q hq.2
end Go.Proofs.YtgieagiaagoogaaGreat
