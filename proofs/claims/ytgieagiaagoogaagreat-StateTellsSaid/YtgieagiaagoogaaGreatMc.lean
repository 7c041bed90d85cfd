/-
  Parts of the proof, one behind the other: AbD, AbE, AbF.
-/
import Derived.Test.YtgieagiaagoogaaGreatMb
import Derived.Laws.Sem
import Derived.KernelRfl
import Derived.Recover
import Derived.Carry
import Derived.ChangeSame
import Derived.ProofKit
import Derived.OpenShut
import Derived.ChangeCalls
import Derived.IntWalk
import Derived.ScopeJumps
set_option linter.all false
namespace Go.Ab
open Go Go.RowKit
inductive Fr (α:Type) where
 |val (x:α)
 |br (b:Bool) (x y:Fr α)
 |need (p:Prop) (x:Fr α)
def Fr.needL {α:Type} (ns:List Prop) (x:Fr α):Fr α:=ns.foldr (λp t=>.need p t) x
def Fr.get {α:Type}:Fr α->α
 |.val x=>x
 |.br b x y=>if b=true then x.get else y.get
 |.need _ x=>x.get
def Fr.ok {α:Type}:Fr α->Prop
 |.val _=>True
 |.br b x y=>(b=true->x.ok)/\(b=false->y.ok)
 |.need p x=>p/\x.ok
def dS (P:Program) (rv:List ResultVar) (rs:List Ty) (s:St):Option (Fr (ae rs)):=
 match gV P s rv with
 |some (vs,n)=>match eF s.mem vs with
  |some (xs,_)=>match iK rs xs with
   |some y=>some (Fr.needL n (.val y))
   |none=>none
  |none=>none
 |none=>none
def iN (P:Program) (rv:List ResultVar) (rs:List Ty):Tr->Option (Fr (ae rs))
 |.leaf .ret s=>dS P rv rs s
 |.leaf .normal s=>dS P rv rs s
 |.leaf _ _=>none
 |.br b x y=>match iN P rv rs x,iN P rv rs y with
  |some x',some y'=>some (.br b x' y')
  |_,_=>none
 |.need p x=>match iN P rv rs x with
  |some x'=>some (.need p x')
  |none=>none
 |.two p x y=>match iN P rv rs x,iN P rv rs y with
  |some x',some y'=>some (.need (p->x'.ok/\x'.get=y'.get) y')
  |_,_=>none
def jU:(ps:List PT)->aq ps->List AV
 |[],_=>[]
 |p::r,x=>Ia p x.1::jU r x.2
def Lt (P:Program) (C:Cx) (Λ:Nat->St->Option Tr) (c:Code) (n:Nat) (rv:List ResultVar) (ps:List PT) (rs:List Ty) (xs:aq ps):Option (Fr (ae rs)):=
 match cU P C 0 Λ c 0 (tV n (jU ps xs)) with
 |some t=>iN P rv rs t
 |none=>none
section
variable {P:Program} {B:Nat} {w w':World} {E:Env} {F F':Nat->Prop} {bs:Nat} {γ γ' γ0:Nat->Value} {Γ:Gm} {M m:aY} {R:Nat->Value->Prop}
def ED (tmps:Array Value):ResultVar->Sem Value
 |.tmp t=>pure (tmps.getD t undef)
 |.cell a t=>do loadVar t (<- asAddr (tmps.getD a undef))
def E7 (P:Program) (tmps:Array Value) (w:World):List ResultVar->List Value->Prop
 |[],[]=>True
 |r::rs,v::vs=>(ED tmps r).run P w = .ok v w/\E7 P tmps w rs vs
 |_,_=>False
def SA {tmps:Array Value}:(l:List ResultVar)->(us:List Value)->E7 P tmps w l us->(l.mapM (m:=Sem) (ED tmps)).run P w = .ok us w
 |[],[],_=>by simp
 |r::rs,v::vs,h=>by
  rw[List.mapM_cons];simp only[uer,h.1,Result.andThen,SA rs vs h.2,uet]
def wV:List Value->Value
 |[v]=>v
 |vs=>.tuple vs.toArray
def tG {fn:Func} {tmps:Array Value} {vs:List Value} (h:E7 P tmps w fn.results.toList vs):(results fn tmps).run P w = .ok (wV vs) w:=by
 have he:results fn tmps=(do
   let vs <- fn.results.mapM (ED tmps)
   pure (if h:vs.size=1 then vs[0] else .tuple vs)):=by
  congr 1
 rw[he,Array.mapM_eq_mapM_toList];simp only[uer,map_eq_pure_bind,uet,SA _ _ h];cases vs with
 |nil=>simp[wV]
 |cons v vs=>
  cases vs with
  |nil=>simp[wV]
  |cons v' vs=>simp[wV]
def A7:{ts:List Ty} -> {x:ae ts} -> {vs:List Value}->eK w F ts x vs->ja w F ts x (wV vs)
 |[],_,_,h=>by
  cases h;exact⟨#[],rfl,rfl⟩
 |[t],x,vs,h=>by
  obtain⟨v,vs',rfl,h2,h3⟩:=h;cases h3;exact h2
 |t::t'::r,x,vs,h=>by
  obtain⟨v,vs',rfl,h2,h3⟩:=id h;obtain⟨v',vs'',rfl,_,_⟩:=id h3;exact⟨_,rfl,by simpa using h⟩
def qm:{ps:List PT} -> {xs:aq ps} -> {vs:List Value}->dX P w F ps xs vs->bC P w F R (jU ps xs) vs
 |[],_,_,h=>by cases h; trivial
 |_::_,_,_,⟨v,vs',h1,h2,h3⟩=>by subst h1; exact⟨PP h2,qm h3⟩
def tA:{xs:List AV} -> {vs:List Value}->bC P w F R xs vs->∀ i:Nat,aM P w F R (xs.getD i .dead) (vs.getD i undef)
 |[],[],_,i=>trivial
 |x::xs,v::vs,h,0=>h.1
 |x::xs,v::vs,h,i+1=>by
  have:=tA h.2 i;simpa using this
def xu {D:List Deferred} {n:Nat} {xs:List AV} {vs:List Value} (hb:∀ b,F b->b<w.heap.size) (h:∀ R,bC P w F R xs vs) (hn:vs.length<=n):I P ⟨w,F,λ_=>undef,D,w.heap.size,ufa _⟩ (tV n xs) { tmps:=vs.toArray++Array.replicate (n-vs.length) undef,defers:=D } w:=by
 refine⟨F,λ_=>undef,?_,rfl,⟨λ_=>undef,Step.refl hb⟩,⟨λid o ho=>(nomatch ho),λi j oi oj b _ ho=>(nomatch ho)⟩,λt=>?_,λt g want v ht=>?_,λ_=>uT⟩
 ·show _=n;simp;omega
 ·have hg:(vs.toArray++Array.replicate (n-vs.length) undef).getD t undef=vs.getD t undef:=by
   simp;rcases ueo t vs.length with hlt|hge
   ·rw[uai (by simpa using hlt)];simp
   ·rw[uad (by simpa using hge),ua2 hge];simp only[uar];split<;>rfl
  rw[hg];exact A6 (tA (h _) t)
 ·exfalso;have:=tA (h λ_ _=>True) t;have ht':xs.getD t .dead = .maybe g want v:=ht;rw[ht'] at this;exact this
def Af {α:Type} {x:Fr α}:(ns:List Prop)->(Fr.needL ns x).ok->aE ns/\x.ok
 |[],h=>⟨uT,h⟩
 |p::ns,h=>by
  have h':=h;obtain⟨h1,h2⟩:=Af ns h'.2;exact⟨jS.2 ⟨h'.1,h1⟩,h2⟩
def Ad {α:Type} {x:Fr α}:(ns:List Prop)->(Fr.needL ns x).get=x.get
 |[]=>rfl
 |_::ns=>Ad ns
def sF {rv:List ResultVar} {rs:List Ty}:{t:Tr} -> {f:Fr (ae rs)}->iN P rv rs t=some f->f.ok->t.sat λe s=>(e = .ret\/e = .normal)/\∃ n,dS P rv rs s=some (Fr.needL n (.val f.get))/\aE n
 |.leaf e s,f,h,hok=>by
  have key:dS P rv rs s=some f->∃ n,dS P rv rs s=some (Fr.needL n (.val f.get))/\aE n:=λh=>by
   have h0:=h;unfold dS at h;split at h<;>try trivial
   split at h<;>try trivial
   split at h<;>try trivial
   cases h;refine⟨_,?_,(Af _ hok).1⟩;rw[Ad];exact h0
  cases e with
  |exit i=>simp[iN] at h
  |panic i=>simp[iN] at h
  |val i=>simp[iN] at h
  |jump i=>simp[iN] at h
  |normal=>exact⟨.inr rfl,key h⟩
  |ret=>exact⟨.inl rfl,key h⟩
 |.br b x y,f,h,hok=>by
  simp only[iN] at h;split at h<;>try trivial
  rename_i x' y' hx hy;cases h;refine⟨λhb=>?_,λhb=>?_⟩
  ·have:=sF hx (hok.1 hb);simpa only[Fr.get,hb,if_true] using this
  ·have:=sF hy (hok.2 hb);simpa only[Fr.get,hb,ub1,ufu] using this
 |.need p x,f,h,hok=>by
  simp only[iN] at h;split at h<;>try trivial
  rename_i x' hx;cases h;have:=sF hx hok.2;exact⟨hok.1,this⟩
 |.two p x y,f,h,hok=>by
  simp only[iN] at h;split at h<;>try trivial
  rename_i x' y' hx hy;cases h;have h2:=sF hy hok.2;refine⟨λhp=>?_,h2⟩;have:=sF hx (hok.1 hp).1
  rwa [(hok.1 hp).2] at this
def qO {s:St} {a:Act} (hi:InvG P E s a w [] F γ):{rv:List ResultVar} -> {vs:List AV} -> {n:List Prop}->gV P s rv=some (vs,n)->aE n->∃ us,E7 P a.tmps w rv us/\bC P w F (aA s.mem γ) vs us
 |[],vs,n,h,hn=>by
  obtain⟨rfl,rfl⟩:=h;exact⟨[],uT,uT⟩
 |r::rv,vs,n,h,hn=>by
  simp only[gV] at h;split at h<;>try trivial
  rename_i v n1 vs' n2 h1 h2;cases h;obtain⟨us,h3,h4⟩:=qO hi h2 (lB.1 hn).2;have hn1:=(lB.1 hn).1;cases r with
  |tmp t=>
   obtain⟨rfl,_⟩:=h1;exact⟨a.tmps.getD t undef::us,⟨by simp[ED],h3⟩,sM hi t,h4⟩
  |cell ad t=>
   simp only[KU] at h1;split at h1<;>try trivial
   rename_i id off hs;split at h1<;>try trivial
   rename_i e he;cases h1;have hr:=sM hi ad;rw[hs] at hr;obtain⟨_,u,hu,hru⟩:=S6 hi.mem (λ_ _ h=>h) he hn1 hr;obtain⟨_,b,_,hv⟩:=hr;refine⟨u::us,⟨?_,h3⟩,hru,h4⟩;have hv':=hv;rw[hv'] at hu;show(do loadVar t (<- asAddr (a.tmps.getD ad undef)):Sem Value).run P w=_;rw[hv'];exact hu
def Ae {α:Type} {x y:α}:{ns ms:List Prop}->Fr.needL ns (.val x)=Fr.needL ms (.val y)->aE ms->aE ns/\x=y
 |[],[],h,_=>by
  have h':=h;injection h' with h'
  exact⟨uT,h'⟩
 |[],_::_,h,_=>nomatch (show Fr.val x=Fr.need _ _ from h)
 |_::_,[],h,_=>nomatch (show Fr.need _ _=Fr.val y from h)
 |p::ns,q::ms,h,hm=>by
  have h':=h;injection h' with h1 h2
  subst h1;obtain⟨a,b⟩:=jS.1 hm;obtain⟨c,d⟩:=Ae h2 b;exact⟨jS.2 ⟨a,c⟩,d⟩
def qng {C:Cx} (hC:CxOK P C) {Λ:Nat->St->Option Tr} {f:FuncId} {fn:Func} {c:Code} {ps:List PT} {rs:List Ty} {fr:aq ps->Fr (ae rs)}
  (hf:P.funcs[f]? = some fn) (hb:fn.body=some c) (hc:∀ args w,(callFunc f args).run P w = .ok (.enter f args) w) (hn:ps.length<=fn.ntmps) (hΛ:∀ E,cH P E Λ c 0)
  (hrun:∀ xs,Lt P C Λ c fn.ntmps fn.results.toList ps rs xs=some (fr xs)):aa P f ⟨ps,rs,λxs=>(fr xs).get,λxs=>[(fr xs).ok]⟩:=by
 refine⟨hc,λw F xs vs hbd hr hok=>ufe hf hb ?_⟩;have hr':=hrun xs;unfold Lt at hr';split at hr'<;>try trivial
 rename_i t ht;have hlen:vs.length=ps.length:=by
  have:∀ {ps:List PT} {xs:aq ps} {vs:List Value},dX P w F ps xs vs->vs.length=ps.length:=by
   intro ps
   induction ps with
   |nil=>intro xs vs h; cases h; rfl
   |cons p r ih=>
    intro xs vs h;obtain⟨v,vs',rfl,_,h3⟩:=h;simp[ih h3]
  exact this hr
 have hstart:=xu (D:=[]) (n:=fn.ntmps) hbd (λR=>qm hr) (by omega);have hwp:=gF hC c 0 (hΛ _) ht (sF hr' hok) hstart;have hsz:(vs.toArray).size=vs.length:=by simp
 refine wp_mono hwp ?_;rintro e a' w' ⟨xe,s,rfl,⟨F',γ',hi⟩,hxe,n,hend,hnn⟩;have hfin:a'.defers=[]/\∃ v,(results fn a'.tmps).run P w' = .ok v w'/\fy w F rs (fr xs).get (.returned v) w':=by
  unfold dS at hend;split at hend<;>try trivial
  rename_i avs n' hres;split at hend<;>try trivial
  rename_i axs u hrs;split at hend<;>try trivial
  rename_i y hdec;injection hend with hend
  obtain⟨hn',hy⟩:=Ae hend hnn;subst hy;obtain⟨us,hran,hreps⟩:=qO hi hres hn';obtain⟨F'',hs,hm',_,hxs⟩:=ko hi.mem (eo hi) (g6 λ_ _ h=>h) hrs hreps;obtain⟨γ0,h0⟩:=hi.step;have hst:=h0.trans hs;refine⟨hi.df,_,tG hran,_,F'',rfl,⟨hst.os,hst.tape,hst.output,hst.size,hst.old⟩,hst.hF,λb hb=>⟨hst.new b hb,hst.bd b hb⟩,A7 (oO hdec hxs)⟩
 rcases hxe with rfl|rfl
 ·exact hfin
 ·exact hfin
def conv {f:FuncId} {ct:Ct} (h:aa P f ct) (g:aq ct.ps->ae ct.rs) (ok:aq ct.ps->List Prop) (hg:∀ w F xs vs,dX P w F ct.ps xs vs->aE (ok xs)->aE (ct.ok xs)/\ct.f xs=g xs):aa P f ⟨ct.ps,ct.rs,g,ok⟩:=by
 refine⟨h.1,λw F xs vs hb hr hok=>?_⟩;obtain⟨h1,h2⟩:=hg w F xs vs hr hok;have:=h.2 w F xs vs hb hr h1;rw[h2] at this;exact this
def enters {f:FuncId} {fn:Func} {c:Code} (hf:P.funcs[f]? = some fn) (hb:fn.body=some c) (hn:(fn.name == "runtime.NumGoroutine")=false) (args:Array Value) (w:World):(callFunc f args).run P w = .ok (.enter f args) w:=by
 have hn':¬ fn.name = "runtime.NumGoroutine" := by simpa using hn
 simp[callFunc,hf,hb,hn']
def mw (P:Program) (C:Cx) (Λ:Nat->St->Option Tr) (fn:Func) (ps:List PT) (rs:List Ty) (xs:aq ps):Option (Fr (ae rs)):=
 match fn.body with
 |some c=>if (fn.name == "runtime.NumGoroutine")=false/\ps.length<=fn.ntmps then Lt P C Λ c fn.ntmps fn.results.toList ps rs xs else none
 |none=>none
def mY {C:Cx} (hC:CxOK P C) {Λ:Nat->St->Option Tr} {f:FuncId} {fn:Func} {ps:List PT} {rs:List Ty} {fr:aq ps->Fr (ae rs)} (x0:aq ps)
  (hf:P.funcs[f]? = some fn) (hΛ:∀ c E,fn.body=some c->cH P E Λ c 0) (hrun:∀ xs,mw P C Λ fn ps rs xs=some (fr xs)):aa P f ⟨ps,rs,λxs=>(fr xs).get,λxs=>[(fr xs).ok]⟩:=by
 have h0:=hrun x0;unfold mw at h0;split at h0<;>try trivial
 rename_i c hb;split at h0<;>try trivial
 rename_i hc;refine qng hC hf hb (enters hf hb hc.1) hc.2 (λE=>hΛ c E hb) λxs=>?_;have:=hrun xs;unfold mw at this;simp only[hb,hc,if_true] at this;exact this
def Vf {s:St} {a:Act} {n:Nat} {xs:List AV} {vs:List Value} (hi:InvG P E s a w [] F γ) (h:bC P w F (aA s.mem γ) xs vs) (hn:vs.length<=n) :
  I P ⟨E.w0,E.F0,eT a E,[],E.B,E.hB⟩ ⟨n,λi=>xs.getD i .dead,s.mem,s.at⟩ { tmps:=vs.toArray++Array.replicate (n-vs.length) undef,defers:=[] } w:=by
 refine⟨F,γ,?_,rfl,hi.step,hi.mem,λt=>?_,λt g want v ht=>?_,λt=>Sg hi t⟩
 ·show _=n;simp;omega
 ·have hg:(vs.toArray++Array.replicate (n-vs.length) undef).getD t undef=vs.getD t undef:=by
   simp;rcases ueo t vs.length with hlt|hge
   ·rw[uai (by simpa using hlt)];simp
   ·rw[uad (by simpa using hge),ua2 hge];simp only[uar];split<;>rfl
  rw[hg];exact A6 (tA h t)
 ·exfalso;have:=tA h t;have ht':xs.getD t .dead = .maybe g want v:=ht;rw[ht'] at this;exact this
def DF {s s':St} {a a':Act} {w':World} (hi:InvG P E s a w [] F γ) (h:InvG P ⟨E.w0,E.F0,eT a E,[],E.B,E.hB⟩ s' a' w' [] F' γ'):InvG P E (s'.back s.n) a w' [] F' γ':=by
 refine⟨hi.n,hi.df,h.step,h.mem,λt=>?_,λt g want v ht=>?_,λt=>?_⟩
 ·show eL P w' F' _ _ (if t<10000 then s'.gs t else .dead) _;split
  ·rename_i ht;have:=h.gh t;have he:eT a E t=a.tmps.getD t undef:=by unfold eT; rw[if_pos ht]
   have h2:aM P w' F' (aA s'.mem γ') (s'.gs t) (eT a E t):=this;rw[he] at h2;exact A6 h2
  ·trivial
 ·exfalso;have ht':(if t<10000 then s'.gs t else .dead) = .maybe g want v:=ht;split at ht'
  ·have:=h.gh t;rw[ht'] at this;exact this
  ·cases ht'
 ·have hk:∀ k,aM P w' F' (aA s'.mem γ') (s'.gs k) (eT a E k):=λk=>h.gh k;have hall:∀ k,k=t+10000->aM P w' F' (aA s'.mem γ') (s'.gs k) (E.G t):=λk hkt=>by
   have h2:=hk k;unfold eT at h2;rw[if_neg (by omega)] at h2;have he:k-10000=t:=by omega
   rw[he] at h2;exact h2
  exact hall _ rfl
def Uc:{xs:List AV} -> {vs:List Value}->bC P w F R xs vs->aM P w F R (tB xs) (wV vs)
 |[],[],_=>⟨#[],rfl,rfl,uT⟩
 |[_],[_],h=>h.1
 |x::y::r,v::u::s,h=>by
  refine⟨_,rfl,?_,?_⟩
  ·have:∀ {xs:List AV} {vs:List Value},bC P w F R xs vs->vs.length=xs.length:=λh=>h.length;simpa using this h
  ·have:∀ (xs:List AV) (vs:List Value),bC P w F R xs vs->mJ P w F R xs (λj u=>vs[j]? = some u):=by
    intro xs
    induction xs with
    |nil=>intros; trivial
    |cons x xs ih=>
     intro vs h;cases vs with
     |nil=>exact h.elim
     |cons v vs=>exact⟨⟨v,rfl,h.1⟩,by simpa using ih vs h.2⟩
   simpa using this _ _ h
 |[],_::_,h=>h.elim
 |_::_,[],h=>h.elim
 |[_],_::_::_,h=>h.2.elim
 |_::_::_,[_],h=>h.2.elim
def s6 {rv:List ResultVar} {n:Nat} {Q:XE->St->Prop}:{t t':Tr}->gM P rv n t=some t'->t'.sat Q->t.sat λe s=>match e with
  |.panic p=>Q (.panic p) (s.back n)
  |.ret=>∃ vs ns,gV P s rv=some (vs,ns)/\aE ns/\Q (.val (tB vs)) (s.back n)
  |.normal=>∃ vs ns,gV P s rv=some (vs,ns)/\aE ns/\Q (.val (tB vs)) (s.back n)
  |_=>False
 |.leaf e s,t',h,hq=>by
  cases e with
  |panic p=>
   simp only[gM,ucj] at h;subst h;exact hq
  |ret=>
   simp only[gM] at h;split at h<;>try trivial
   rename_i vs ns hr;cases h;obtain⟨h1,h2⟩:=kW _ hq;exact⟨vs,ns,hr,h1,h2⟩
  |normal=>
   simp only[gM] at h;split at h<;>try trivial
   rename_i vs ns hr;cases h;obtain⟨h1,h2⟩:=kW _ hq;exact⟨vs,ns,hr,h1,h2⟩
  |exit _=>simp[gM] at h
  |val _=>simp[gM] at h
  |jump _=>simp[gM] at h
 |.br b x y,t',h,hq=>by
  simp only[gM] at h;split at h<;>try trivial
  rename_i x' y' hx hy;cases h;exact⟨λhb=>s6 hx (hq.1 hb),λhb=>s6 hy (hq.2 hb)⟩
 |.need p x,t',h,hq=>by
  simp only[gM] at h;split at h<;>try trivial
  rename_i x' hx;cases h;exact⟨hq.1,s6 hx hq.2⟩
 |.two p x y,t',h,hq=>by
  simp only[gM] at h;split at h<;>try trivial
  rename_i x' y' hx hy;cases h;exact⟨λhb=>s6 hx (hq.1 hb),s6 hy hq.2⟩
def q9 {C:Cx} (hC:CxOK P C) {Xi:FuncId->Option (Func×(Nat->St->Option Tr))} (hX:∀ f fn Λ,Xi f=some (fn,Λ)->P.funcs[f]? = some fn/\∀ c E,fn.body=some c->cH P E Λ c 0):kv P (ne P C Xi):=by
 intro d f args s t h;unfold ne at h;split at h<;>try trivial
 rename_i fn Λ hxi;split at h<;>try trivial
 rename_i c hbody;split at h<;>try trivial
 rename_i hc;split at h<;>try trivial
 rename_i t1 ht1;obtain⟨hf,hΛ⟩:=hX f fn Λ hxi;refine⟨enters hf hbody hc.2,λE a w F γ vs Q hi hr hq=>ufe hf hbody ?_⟩;have hlen:=hr.length;have hstart:=Vf (n:=fn.ntmps) hi hr (by omega);have hsat:=s6 h hq;have hwp:=gF hC c 0 (hΛ c _ hbody) ht1 hsat hstart;have hsz:(vs.toArray).size=vs.length:=by simp
 refine wp_mono hwp ?_;rintro e a' w' ⟨xe,s',rfl,⟨F',γ',hi'⟩,hx⟩;have hfin:(∃ vs ns,gV P s' fn.results.toList=some (vs,ns)/\aE ns/\Q (.val (tB vs)) (s'.back s.n))->a'.defers=[]/\∃ v,(results fn a'.tmps).run P w' = .ok v w'/\Ga P E a Q (.returned v) w':=by
  rintro⟨vs,ns,hres,hns,hqv⟩;obtain⟨us,hran,hreps⟩:=qO hi' hres hns;exact⟨hi'.df,_,tG hran,_,_,F',γ',hqv,DF hi hi',_,rfl,Uc hreps⟩
 cases xe with
 |panic p=>exact⟨hi'.df,.panic p,_,F',γ',hx,DF hi hi',rfl⟩
 |ret=>exact hfin hx
 |normal=>exact hfin hx
 |exit _=>exact hx.elim
 |val _=>exact hx.elim
 |jump _=>exact hx.elim
end
end Go.Ab

namespace Go.Ab
open Go Go.RowKit
def Sz {p:Nat->Prop} (h:∃ n,p n):∃ n,p n/\∀ m,p m->n<=m:=by
 obtain⟨n,hn⟩:=h
 induction n using Nat.strongRecOn with
 |_ n ih=>
  by_cases hm:∃ m,m<n/\p m
  ·obtain⟨m,h1,h2⟩:=hm;exact ih m h1 h2
  ·refine⟨n,hn,λm hm'=>?_⟩;rcases ueo m n with h|h
   ·exact absurd ⟨m,h,hm'⟩ hm
   ·exact h
noncomputable def wu (p:Nat->Prop):Nat:=open Classical in if h:∃ n,p n then (Sz h).choose else 0
def wv {p:Nat->Prop} (h:∃ n,p n):p (wu p)/\∀ m,p m->wu p<=m:=by
 unfold wu;rw[dif_pos h];exact(Sz h).choose_spec
def zfg {P:Program} {c:Code} {Q:Exit->Act->World->Prop} {a:Act} {w:World} (J:Nat->Act->World->Prop) (h0:∃ m,J m a w)
  (round:∀ m a w,J m a w->c.wp P (Exit.then (λa' w'=>∃ m',m'<m/\J m' a' w') Q) a w):(Code.loop c).wp P Q a w:=by
 refine wp_loop (λa w=>∃ m,J m a w) (λa w=>wu λm=>J m a w) h0 λa w h=>?_;obtain⟨h1,h2⟩:=wv h;refine wp_mono (round _ a w h1) λe a' w' he=>?_;cases e with
 |normal=>
  obtain⟨m',h3,h4⟩:=he;exact⟨⟨m',h4⟩,ucb ((wv ⟨m',h4⟩).2 m' h4) h3⟩
 |_=>exact he
def Fr.satP {α:Type} (Q:α->Prop):Fr α->Prop
 |.val x=>Q x
 |.br b x y=>(b=true->x.satP Q)/\(b=false->y.satP Q)
 |.need p x=>p/\x.satP Q
def mH {α:Type} {Q:α->Prop}:{f:Fr α}->f.ok->Q f.get->f.satP Q
 |.val _,_,h=>h
 |.br b x y,h,hq=>by
  refine⟨λhb=>mH (h.1 hb) ?_,λhb=>mH (h.2 hb) ?_⟩
  ·simpa only[Fr.get,hb,if_true] using hq
  ·simpa only[Fr.get,hb,ub1,ufu] using hq
 |.need p x,h,hq=>⟨h.1,mH h.2 hq⟩
def xQ {α:Type} {Q:α->Prop}:{f:Fr α}->f.satP Q->f.ok/\Q f.get
 |.val _,h=>⟨uT,h⟩
 |.br b x y,h=>by
  cases b with
  |true=>
   have:=xQ (h.1 rfl);exact⟨⟨λ_=>this.1,λhb=>by cases hb⟩,this.2⟩
  |false=>
   have:=xQ (h.2 rfl);exact⟨⟨λhb=>(by cases hb),λ_=>this.1⟩,this.2⟩
 |.need p x,h=>⟨⟨h.1,(xQ h.2).1⟩,(xQ h.2).2⟩
def Fx {α:Type} {Q:α->Prop} {x:Fr α}:{ns:List Prop}->(Fr.needL ns x).satP Q->aE ns/\x.satP Q
 |[],h=>⟨uT,h⟩
 |p::ns,h=>by
  have h':=h;obtain⟨h1,h2⟩:=Fx h'.2;exact⟨jS.2 ⟨h'.1,h1⟩,h2⟩
inductive Rd (X Y Z:Type) where
 |next (x:X)
 |out (y:Y)
 |back (z:Z)
 |pan (p:PV)
structure Lp where
 n:Nat
 id:Nat
 L:LS
 E:LS
 R:LS
abbrev Lp.In (l:Lp):Type:=l.L.X
abbrev Lp.Out (l:Lp):Type:=Rd Unit l.E.X l.R.X
abbrev Lp.Round (l:Lp):Type:=Rd l.L.X l.E.X l.R.X
def Lp.rdOf (Γ:Gm) (l:Lp):Tr->Option (Fr l.Round)
 |.leaf .normal s=>if s.n=l.n then match l.L.ext Γ s with
   |some (x,n)=>some (Fr.needL n (.val (.next x)))
   |none=>none
  else none
 |.leaf (.exit i) s=>if i=l.id/\s.n=l.n then match l.E.ext Γ s with
   |some (x,n)=>some (Fr.needL n (.val (.out x)))
   |none=>none
  else none
 |.leaf .ret s=>if s.n=l.n then match l.R.ext Γ s with
   |some (x,n)=>some (Fr.needL n (.val (.back x)))
   |none=>none
  else none
 |.leaf (.panic p) s=>if s.n=l.n then some (.val (.pan p)) else none
 |.leaf (.val _) _=>none
 |.leaf (.jump _) _=>none
 |.br b x y=>match l.rdOf Γ x,l.rdOf Γ y with
  |some x',some y'=>some (.br b x' y')
  |_,_=>none
 |.need p x=>match l.rdOf Γ x with
  |some x'=>some (.need p x')
  |none=>none
 |.two p x y=>match l.rdOf Γ x,l.rdOf Γ y with
  |some x',some y'=>some (.need (p->x'.ok/\x'.get=y'.get) y')
  |_,_=>none
def Lp.round (P:Program) (C:Cx) (bs:Nat) (Λ:Nat->St->Option Tr) (c:Code) (l:Lp) (x:l.In):Option (Fr l.Round):=
 match cU P C bs Λ c 0 (l.L.tpl l.n x) with
 |some t=>l.rdOf C.Γ t
 |none=>none
def Lp.toTr (l:Lp):Fr l.Out->Tr
 |.val (.next _)=>.need False (.leaf .ret ⟨0,λ_=>.dead,λ_=>none,λ_=>.dead⟩)
 |.val (.out y)=>.leaf (.exit l.id) (l.E.tpl l.n y)
 |.val (.back z)=>.leaf .ret (l.R.tpl l.n z)
 |.val (.pan p)=>.leaf (.panic p) ⟨l.n,λ_=>.dead,λ_=>none,λ_=>.dead⟩
 |.br b x y=>.br b (l.toTr x) (l.toTr y)
 |.need p x=>.need p (l.toTr x)
def Lp.han (Γ:Gm) (l:Lp) (F:l.In->Fr l.Out) (s:St):Option Tr:=
 if s.n=l.n then match l.L.ext Γ s with
  |some (x,n)=>some (needL n (l.toTr (F x)))
  |none=>none
 else none
section
variable {P:Program} {B:Nat} {w w':World} {E:Env} {bs:Nat} {Γ:Gm}
def Lp.toTr_sat (l:Lp) {Q:XE->St->Prop}:{f:Fr l.Out}->(l.toTr f).sat Q->f.satP λ
  |.next _=>False
  |.out y=>Q (.exit l.id) (l.E.tpl l.n y)
  |.back z=>Q .ret (l.R.tpl l.n z)
  |.pan p=>Q (.panic p) ⟨l.n,λ_=>.dead,λ_=>none,λ_=>.dead⟩
 |.val (.next _),h=>h.1
 |.val (.out _y),h=>h
 |.val (.back _z),h=>h
 |.val (.pan _),h=>h
 |.br _b _x _y,h=>⟨λhb=>l.toTr_sat (h.1 hb),λhb=>l.toTr_sat (h.2 hb)⟩
 |.need _p _x,h=>⟨h.1,l.toTr_sat h.2⟩
def Lp.rd_sat (l:Lp) {Q:l.Round->Prop}:{t:Tr} -> {f:Fr l.Round}->l.rdOf Γ t=some f->f.satP Q->t.sat λe s=>match e with
  |.normal=>s.n=l.n/\∃ x n,l.L.ext Γ s=some (x,n)/\aE n/\Q (.next x)
  |.exit i=>i=l.id/\s.n=l.n/\∃ x n,l.E.ext Γ s=some (x,n)/\aE n/\Q (.out x)
  |.ret=>s.n=l.n/\∃ x n,l.R.ext Γ s=some (x,n)/\aE n/\Q (.back x)
  |.panic p=>s.n=l.n/\Q (.pan p)
  |.val _=>False
  |.jump _=>False
 |.leaf .normal s,f,h,hq=>by
  simp only[Lp.rdOf] at h;split at h<;>try trivial
  rename_i hn;split at h<;>try trivial
  rename_i x n hx;cases h;obtain⟨h1,h2⟩:=Fx hq;exact⟨hn,x,n,hx,h1,h2⟩
 |.leaf (.exit i) s,f,h,hq=>by
  simp only[Lp.rdOf] at h;split at h<;>try trivial
  rename_i hn;split at h<;>try trivial
  rename_i x n hx;cases h;obtain⟨h1,h2⟩:=Fx hq;exact⟨hn.1,hn.2,x,n,hx,h1,h2⟩
 |.leaf .ret s,f,h,hq=>by
  simp only[Lp.rdOf] at h;split at h<;>try trivial
  rename_i hn;split at h<;>try trivial
  rename_i x n hx;cases h;obtain⟨h1,h2⟩:=Fx hq;exact⟨hn,x,n,hx,h1,h2⟩
 |.leaf (.panic p) s,f,h,hq=>by
  simp only[Lp.rdOf] at h;split at h<;>try trivial
  rename_i hn;cases h;exact⟨hn,hq⟩
 |.leaf (.val _) s,f,h,hq=>by simp[Lp.rdOf] at h
 |.leaf (.jump _) s,f,h,hq=>by simp[Lp.rdOf] at h
 |.br b x y,f,h,hq=>by
  simp only[Lp.rdOf] at h;split at h<;>try trivial
  rename_i x' y' hx hy;cases h;exact⟨λhb=>l.rd_sat hx (hq.1 hb),λhb=>l.rd_sat hy (hq.2 hb)⟩
 |.need p x,f,h,hq=>by
  simp only[Lp.rdOf] at h;split at h<;>try trivial
  rename_i x' hx;cases h;have:=l.rd_sat hx hq.2;exact⟨hq.1,this⟩
 |.two p x y,f,h,hq=>by
  simp only[Lp.rdOf] at h;split at h<;>try trivial
  rename_i x' y' hx hy;cases h;refine⟨λhp=>l.rd_sat hx (mH (hq.1 hp).1 ?_),l.rd_sat hy hq.2⟩;rw[(hq.1 hp).2];exact(xQ hq.2).2
end
end Go.Ab

namespace Go.Ab
open Go Go.RowKit
inductive Oc (α:Type) where
 |ok (x:α)
 |pan (p:PV)
def P9:(ts:List Ty)->ae ts
 |[]=>()
 |t::r=>(t.dflt,P9 r)
def Oc.bad {α:Type}:Oc α->Bool
 |.ok _=>false
 |.pan _=>true
def Oc.pv {α:Type}:Oc α->PV
 |.ok _=>⟨0,.i64,0⟩
 |.pan p=>p
def Oc.val {ts:List Ty}:Oc (ae ts)->ae ts
 |.ok x=>x
 |.pan _=>P9 ts
def CT (P:Program) (rv:List ResultVar) (rs:List Ty) (s:St):Option (Fr (Oc (ae rs))):=
 match gV P s rv with
 |some (vs,n)=>match eF s.mem vs with
  |some (xs,_)=>match iK rs xs with
   |some y=>some (Fr.needL n (.val (.ok y)))
   |none=>none
  |none=>none
 |none=>none
def jr (P:Program) (rv:List ResultVar) (rs:List Ty):Tr->Option (Fr (Oc (ae rs)))
 |.leaf .ret s=>CT P rv rs s
 |.leaf .normal s=>CT P rv rs s
 |.leaf (.panic p) _=>some (.val (.pan p))
 |.leaf _ _=>none
 |.br b x y=>match jr P rv rs x,jr P rv rs y with
  |some x',some y'=>some (.br b x' y')
  |_,_=>none
 |.need p x=>match jr P rv rs x with
  |some x'=>some (.need p x')
  |none=>none
 |.two p x y=>match jr P rv rs x,jr P rv rs y with
  |some x',some y'=>some (.need (p->x'.ok/\x'.get=y'.get) y')
  |_,_=>none
def Lu (P:Program) (C:Cx) (Λ:Nat->St->Option Tr) (fn:Func) (ps:List PT) (rs:List Ty) (xs:aq ps):Option (Fr (Oc (ae rs))):=
 match fn.body with
 |some c=>if (fn.name == "runtime.NumGoroutine")=false/\ps.length<=fn.ntmps then match cU P C 0 Λ c 0 (tV fn.ntmps (jU ps xs)) with
   |some t=>jr P fn.results.toList rs t
   |none=>none
  else none
 |none=>none
section
variable {P:Program} {w w':World} {E:Env} {F F':Nat->Prop} {γ γ':Nat->Value}
def wa {rv:List ResultVar} {rs:List Ty}:{t:Tr} -> {f:Fr (Oc (ae rs))}->jr P rv rs t=some f->f.ok->t.sat λe s=>match e with
  |.panic p=>f.get = .pan p
  |.ret=>∃ vs n xs u y,gV P s rv=some (vs,n)/\aE n/\eF s.mem vs=some (xs,u)/\iK rs xs=some y/\f.get = .ok y
  |.normal=>∃ vs n xs u y,gV P s rv=some (vs,n)/\aE n/\eF s.mem vs=some (xs,u)/\iK rs xs=some y/\f.get = .ok y
  |_=>False
 |.leaf e s,f,h,hok=>by
  have key:CT P rv rs s=some f->∃ vs n xs u y,gV P s rv=some (vs,n)/\aE n/\eF s.mem vs=some (xs,u)/\iK rs xs=some y/\f.get = .ok y:=λh=>by
   unfold CT at h;split at h<;>try trivial
   rename_i vs n hr;split at h<;>try trivial
   rename_i xs u hx;split at h<;>try trivial
   rename_i y hy;cases h;exact⟨vs,n,xs,u,y,hr,(Af _ hok).1,hx,hy,Ad _⟩
  cases e with
  |exit i=>simp[jr] at h
  |panic p=>
   simp only[jr,ucj] at h;subst h;rfl
  |val v=>simp[jr] at h
  |jump v=>simp[jr] at h
  |normal=>exact key h
  |ret=>exact key h
 |.br b x y,f,h,hok=>by
  simp only[jr] at h;split at h<;>try trivial
  rename_i x' y' hx hy;cases h;refine⟨λhb=>?_,λhb=>?_⟩
  ·have:=wa hx (hok.1 hb);simpa only[Fr.get,hb,if_true] using this
  ·have:=wa hy (hok.2 hb);simpa only[Fr.get,hb,ub1,ufu] using this
 |.need p x,f,h,hok=>by
  simp only[jr] at h;split at h<;>try trivial
  rename_i x' hx;cases h;have:=wa hx hok.2;exact⟨hok.1,this⟩
 |.two p x y,f,h,hok=>by
  simp only[jr] at h;split at h<;>try trivial
  rename_i x' y' hx hy;cases h;have h2:=wa hy hok.2;refine⟨λhp=>?_,h2⟩;have:=wa hx (hok.1 hp).1
  rwa [(hok.1 hp).2] at this
def wR:{ps:List PT} -> {xs:aq ps} -> {vs:List Value}->dX P w F ps xs vs->vs.length=ps.length
 |[],_,_,h=>by cases h; rfl
 |_::_,_,_,⟨_,_,h1,_,h3⟩=>by subst h1; simp[wR h3]
def Q8 {C:Cx} (hC:CxOK P C) {Λ:Nat->St->Option Tr} {f:FuncId} {fn:Func} {ps:List PT} {rs:List Ty} {fr:aq ps->Fr (Oc (ae rs))} (x0:aq ps)
  (hf:P.funcs[f]? = some fn) (hΛ:∀ c E,fn.body=some c->cH P E Λ c 0) (hrun:∀ xs,Lu P C Λ fn ps rs xs=some (fr xs)) :
  kz P f ⟨ps,rs,λxs=>(fr xs).get.val,λxs=>(fr xs).get.bad,λxs=>(fr xs).get.pv,λxs=>[(fr xs).ok]⟩:=by
 have h0:=hrun x0;unfold Lu at h0;split at h0<;>try trivial
 rename_i c hb;split at h0<;>try trivial
 rename_i hc;refine⟨enters hf hb hc.1,λw F xs vs hbd hr hok=>ufe hf hb ?_⟩;have hr':=hrun xs;unfold Lu at hr';simp only[hb,hc,ufs,if_true] at hr';split at hr'<;>try trivial
 rename_i t ht;have hlen:vs.length=ps.length:=wR hr;have hstart:=xu (D:=[]) (n:=fn.ntmps) hbd (λR=>qm hr) (by omega);have hwp:=gF hC c 0 (hΛ c _ hb) ht (wa hr' hok) hstart;have hsz:(vs.toArray).size=vs.length:=by simp
 refine wp_mono hwp ?_;rintro e a' w' ⟨xe,s,rfl,⟨F',γ',hi⟩,hx⟩;obtain⟨γ0,h0⟩:=hi.step;have hfin:(∃ vs n xs' u y,gV P s fn.results.toList=some (vs,n)/\aE n/\eF s.mem vs=some (xs',u)/\iK rs xs'=some y/\(fr xs).get = .ok y) ->
   a'.defers=[]/\∃ v,(results fn a'.tmps).run P w' = .ok v w'/\(((fr xs).get.bad=false/\fy w F rs (fr xs).get.val (.returned v) w')\/((fr xs).get.bad=true/\Ending.returned v = .panicked [{ v:=(fr xs).get.pv.val,recovered:=false }]/\Below w.heap.size w w')):=by
  rintro⟨vs,n,xs',u,y,hres,hn,hrs,hdec,hget⟩;obtain⟨us,hran,hreps⟩:=qO hi hres hn;obtain⟨F'',hs,hm',_,hxs⟩:=ko hi.mem (eo hi) (g6 λ_ _ h=>h) hrs hreps;have hst:=h0.trans hs;refine⟨hi.df,_,tG hran,.inl ⟨by rw[hget]; rfl,_,F'',rfl,⟨hst.os,hst.tape,hst.output,hst.size,hst.old⟩,hst.hF,λb hb=>⟨hst.new b hb,hst.bd b hb⟩,?_⟩⟩;rw[hget];exact A7 (oO hdec hxs)
 cases xe with
 |normal=>exact hfin hx
 |ret=>exact hfin hx
 |panic p=>
  have hx':=hx;refine⟨hi.df,.inr ⟨?_,?_,⟨h0.os,h0.tape,h0.output,h0.size,h0.old⟩⟩⟩
  ·show(fr xs).get.bad=true;rw[hx'];rfl
  ·show Ending.panicked _=Ending.panicked [{ v:=(fr xs).get.pv.val,recovered:=false }];rw[hx'];rfl
 |exit _=>exact hx.elim
 |val _=>exact hx.elim
 |jump _=>exact hx.elim
def OO {f:FuncId} {ct:Pc} (h:kz P f ct) (g:aq ct.ps->ae ct.rs) (bad:aq ct.ps->Bool) (pv:aq ct.ps->PV) (ok:aq ct.ps->List Prop)
  (hg:∀ w F xs vs,dX P w F ct.ps xs vs->aE (ok xs)->aE (ct.ok xs)/\ct.bad xs=bad xs/\(bad xs=false->ct.f xs=g xs)/\(bad xs=true->ct.pv xs=pv xs)):kz P f ⟨ct.ps,ct.rs,g,bad,pv,ok⟩:=by
 refine⟨h.1,λw F xs vs hb hr hok=>?_⟩;obtain⟨h1,h2,h3,h4⟩:=hg w F xs vs hr hok;refine(h.2 w F xs vs hb hr h1).mono λe w' he=>?_;rcases he with ⟨b,hp⟩|⟨b,rfl,hbel⟩
 ·have hb':=h2 ▸ b;refine .inl ⟨hb',?_⟩;show fy w F ct.rs (g xs) e w';rw[<- h3 hb'];exact hp
 ·have hb':=h2 ▸ b;refine .inr ⟨hb',?_,hbel⟩;rw[h4 hb']
end
end Go.Ab

namespace Go.Ab
open Go Go.RowKit
structure Pt where
 n:Nat
 id:Nat
 M:LS
 E:LS
 R:LS
def Pt.lp (p:Pt):Lp:=⟨p.n,p.id,p.M,p.E,p.R⟩
abbrev Pt.Out (p:Pt):Type:=Rd p.M.X p.E.X p.R.X
def uw (P:Program) (E:Env) (p:Pt) (Q:p.Out->Prop) (e:Exit) (a:Act) (w:World):Prop:=
 ∃ r,Q r/\match r with
  |.next m=>e = .normal/\I P E (p.M.tpl p.n m) a w
  |.out y=>e = .exit p.id/\I P E (p.E.tpl p.n y) a w
  |.back z=>e = .ret/\I P E (p.R.tpl p.n z) a w
  |.pan v=>e = .panic [{ v:=v.val,recovered:=false }]/\∃ s,s.n=p.n/\I P E s a w
def ah (P:Program) (c:Code) (L:LS) (p:Pt) (f:L.X->Fr p.Out):Prop:=
 ∀ (E:Env) (a:Act) (w:World) (x:L.X) (Q:p.Out->Prop),I P E (L.tpl p.n x) a w->(f x).satP Q->c.wp P (uw P E p Q) a w
def nZ (P:Program) (C:Cx) (bs:Nat) (Λ:Nat->St->Option Tr) (c:Code) (L:LS) (p:Pt) (x:L.X):Option (Fr p.Out):=
 match cU P C bs Λ c 0 (L.tpl p.n x) with
 |some t=>p.lp.rdOf C.Γ t
 |none=>none
def Fr.bindR {X Y Z W:Type} (k:X->Fr (Rd W Y Z)):Fr (Rd X Y Z)->Fr (Rd W Y Z)
 |.val (.next m)=>k m
 |.val (.out y)=>.val (.out y)
 |.val (.back z)=>.val (.back z)
 |.val (.pan p)=>.val (.pan p)
 |.br b x y=>.br b (x.bindR k) (y.bindR k)
 |.need p x=>.need p (x.bindR k)
def Fr.outR {Y Z W:Type}:Fr (Rd Y Y Z)->Fr (Rd Y W Z)
 |.val (.next m)=>.val (.next m)
 |.val (.out y)=>.val (.next y)
 |.val (.back z)=>.val (.back z)
 |.val (.pan p)=>.val (.pan p)
 |.br b x y=>.br b x.outR y.outR
 |.need p x=>.need p x.outR
section
variable {P:Program} {E:Env}
def Fr.bindR_sat {X Y Z W:Type} {k:X->Fr (Rd W Y Z)} {Q:Rd W Y Z->Prop}:{f:Fr (Rd X Y Z)}->(f.bindR k).satP Q->f.satP λ
  |.next m=>(k m).satP Q
  |.out y=>Q (.out y)
  |.back z=>Q (.back z)
  |.pan p=>Q (.pan p)
 |.val (.next _),h=>h
 |.val (.out _),h=>h
 |.val (.back _),h=>h
 |.val (.pan _),h=>h
 |.br _b _x _y,h=>⟨λhb=>bindR_sat (h.1 hb),λhb=>bindR_sat (h.2 hb)⟩
 |.need _p _x,h=>⟨h.1,bindR_sat h.2⟩
def Fr.outR_sat {Y Z W:Type} {Q:Rd Y W Z->Prop}:{f:Fr (Rd Y Y Z)}->f.outR.satP Q->f.satP λ
  |.next m=>Q (.next m)
  |.out y=>Q (.next y)
  |.back z=>Q (.back z)
  |.pan p=>Q (.pan p)
 |.val (.next _),h=>h
 |.val (.out _),h=>h
 |.val (.back _),h=>h
 |.val (.pan _),h=>h
 |.br _b _x _y,h=>⟨λhb=>outR_sat (h.1 hb),λhb=>outR_sat (h.2 hb)⟩
 |.need _p _x,h=>⟨h.1,outR_sat h.2⟩
def Fr.satP_mono {α:Type} {Q Q':α->Prop} (h:∀ x,Q x->Q' x):{f:Fr α}->f.satP Q->f.satP Q'
 |.val _,hq=>h _ hq
 |.br _ _ _,hq=>⟨λhb=>satP_mono h (hq.1 hb),λhb=>satP_mono h (hq.2 hb)⟩
 |.need _ _,hq=>⟨hq.1,satP_mono h hq.2⟩
def ah.of_run {C:Cx} (hC:CxOK P C) {bs:Nat} {Λ:Nat->St->Option Tr} {c:Code} {L:LS} {p:Pt} (hM:p.M.low=true) (hE:p.E.low=true) (hR:p.R.low=true) (hΛ:∀ E,cH P E Λ c 0) {f:L.X->Fr p.Out}
  (hr:∀ x,nZ P C bs Λ c L p x=some (f x)):ah P c L p f:=by
 intro E a w x Q hi hq;have hrx:=hr x;unfold nZ at hrx;split at hrx<;>try trivial
 rename_i t ht;have hsat:=p.lp.rd_sat hrx hq;refine wp_mono (gF hC c 0 (hΛ E) ht hsat hi) ?_;rintro e a' w' ⟨xe,s',rfl,his,hqs⟩;cases xe with
 |normal=>
  obtain⟨hn',y,n',hy,hn,hqy⟩:=hqs;have:=kO hC.ct hM his hy hn;rw[hn'] at this;exact⟨.next y,hqy,rfl,this⟩
 |exit i=>
  obtain⟨rfl,hn',y,n',hy,hn,hqy⟩:=hqs;have:=kO hC.ct hE his hy hn;rw[hn'] at this;exact⟨.out y,hqy,rfl,this⟩
 |ret=>
  obtain⟨hn',y,n',hy,hn,hqy⟩:=hqs;have:=kO hC.ct hR his hy hn;rw[hn'] at this;exact⟨.back y,hqy,rfl,this⟩
 |panic v=>exact⟨.pan v,hqs.2,rfl,s',hqs.1,his⟩
 |val _=>exact hqs.elim
 |jump _=>exact hqs.elim
def ah.conv {c:Code} {L:LS} {p:Pt} {f g:L.X->Fr p.Out} (h:ah P c L p f) (hg:∀ x Q,(g x).satP Q->(f x).satP Q):ah P c L p g:=
 λE a w x Q hi hq=>h E a w x Q hi (hg x Q hq)
def ah.seq {a b:Code} {L M N Eo R:LS} {n id:Nat} {f:L.X->Fr (Rd M.X Eo.X R.X)} {g:M.X->Fr (Rd N.X Eo.X R.X)} (hf:ah P a L ⟨n,id,M,Eo,R⟩ f) (hg:ah P b M ⟨n,id,N,Eo,R⟩ g) :
  ah P (.seq a b) L ⟨n,id,N,Eo,R⟩ λx=>(f x).bindR g:=by
 intro E ac w x Q hi hq;refine wp_seq (wp_mono (hf E ac w x _ hi (Fr.bindR_sat hq)) ?_);rintro e a' w' ⟨r,hr,hm⟩;cases r with
 |next m=>
  obtain⟨rfl,hi'⟩:=hm;exact hg E a' w' m Q hi' hr
 |out y=>
  obtain⟨rfl,hi'⟩:=hm;exact⟨.out y,hr,rfl,hi'⟩
 |back z=>
  obtain⟨rfl,hi'⟩:=hm;exact⟨.back z,hr,rfl,hi'⟩
 |pan v=>
  obtain⟨rfl,hi'⟩:=hm;exact⟨.pan v,hr,rfl,hi'⟩
def ah.block {c:Code} {L M Eo R:LS} {n id id':Nat} {f:L.X->Fr (Rd M.X M.X R.X)} (h:ah P c L ⟨n,id,M,M,R⟩ f):ah P (.block id c) L ⟨n,id',M,Eo,R⟩ λx=>(f x).outR:=by
 intro E ac w x Q hi hq;refine wp_block (wp_mono (h E ac w x _ hi (Fr.outR_sat hq)) ?_);rintro e a' w' ⟨r,hr,hm⟩;cases r with
 |next m=>
  obtain⟨rfl,hi'⟩:=hm;exact⟨.next m,hr,rfl,hi'⟩
 |out y=>
  obtain⟨rfl,hi'⟩:=hm;unfold Exit.inBlock;simp;exact⟨.next y,hr,rfl,hi'⟩
 |back z=>
  obtain⟨rfl,hi'⟩:=hm;exact⟨.back z,hr,rfl,hi'⟩
 |pan v=>
  obtain⟨rfl,hi'⟩:=hm;exact⟨.pan v,hr,rfl,hi'⟩
def ah.loop {c:Code} {L N Eo R:LS} {n id:Nat} {f:L.X->Fr (Rd L.X Eo.X R.X)} (h:ah P c L ⟨n,id,L,Eo,R⟩ f) {F:L.X->Fr (Rd N.X Eo.X R.X)} {inv:L.X->Prop} {μ:L.X->Nat}
  (hlaw:∀ x,inv x->∀ Q:Rd N.X Eo.X R.X->Prop,(F x).satP Q->(f x).satP λ
   |.next x'=>inv x'/\μ x'<μ x/\(F x').satP Q
   |.out y=>Q (.out y)
   |.back z=>Q (.back z)
   |.pan p=>Q (.pan p)) (hinv:∀ x Q,(F x).satP Q->inv x):ah P (.loop c) L ⟨n,id,N,Eo,R⟩ F:=by
 intro E a w x Q hi hq;refine zfg (λm a w=>∃ x,inv x/\μ x=m/\I P E (L.tpl n x) a w/\(F x).satP Q) ⟨μ x,x,hinv x Q hq,rfl,hi,hq⟩ ?_;rintro m a w ⟨x,hx,rfl,hix,hFx⟩;refine wp_mono (h E a w x _ hix (hlaw x hx Q hFx)) ?_;rintro e a' w' ⟨r,hr,hm⟩;cases r with
 |next x'=>
  obtain⟨rfl,hi'⟩:=hm;exact⟨μ x',hr.2.1,x',hr.1,rfl,hi',hr.2.2⟩
 |out y=>
  obtain⟨rfl,hi'⟩:=hm;exact⟨.out y,hr,rfl,hi'⟩
 |back z=>
  obtain⟨rfl,hi'⟩:=hm;exact⟨.back z,hr,rfl,hi'⟩
 |pan v=>
  obtain⟨rfl,hi'⟩:=hm;exact⟨.pan v,hr,rfl,hi'⟩
def Pt.toTr (p:Pt):Fr p.Out->Tr
 |.val (.next m)=>.leaf .normal (p.M.tpl p.n m)
 |.val (.out y)=>.leaf (.exit p.id) (p.E.tpl p.n y)
 |.val (.back z)=>.leaf .ret (p.R.tpl p.n z)
 |.val (.pan v)=>.leaf (.panic v) ⟨p.n,λ_=>.dead,λ_=>none,λ_=>.dead⟩
 |.br b x y=>.br b (p.toTr x) (p.toTr y)
 |.need q x=>.need q (p.toTr x)
def Pt.han (Γ:Gm) (L:LS) (p:Pt) (F:L.X->Fr p.Out) (s:St):Option Tr:=
 if s.n=p.n then match L.ext Γ s with
  |some (x,n)=>some (needL n (p.toTr (F x)))
  |none=>none
 else none
def Pt.toTr_sat (p:Pt) {Q:XE->St->Prop}:{f:Fr p.Out}->(p.toTr f).sat Q->f.satP λ
  |.next m=>Q .normal (p.M.tpl p.n m)
  |.out y=>Q (.exit p.id) (p.E.tpl p.n y)
  |.back z=>Q .ret (p.R.tpl p.n z)
  |.pan v=>Q (.panic v) ⟨p.n,λ_=>.dead,λ_=>none,λ_=>.dead⟩
 |.val (.next _),h=>h
 |.val (.out _),h=>h
 |.val (.back _),h=>h
 |.val (.pan _),h=>h
 |.br _b _x _y,h=>⟨λhb=>p.toTr_sat (h.1 hb),λhb=>p.toTr_sat (h.2 hb)⟩
 |.need _q _x,h=>⟨h.1,p.toTr_sat h.2⟩
def ah.han {C:Cx} (hC:CxOK P C) {c:Code} {L:LS} {p:Pt} {F:L.X->Fr p.Out} (hL:L.low=true) (h:ah P (.loop c) L p F):kx P E c (p.han C.Γ L F):=by
 intro s t hs Q hq a w hi;unfold Pt.han at hs;split at hs<;>try trivial
 rename_i hsn;split at hs<;>try trivial
 rename_i x n hx;cases hs;obtain⟨hq1,hq2⟩:=kW _ hq;have hi':=kO hC.ct hL hi hx hq1;rw[hsn] at hi';refine wp_mono (h E a w x _ hi' (p.toTr_sat hq2)) ?_;rintro e a' w' ⟨r,hr,hm⟩;cases r with
 |next m=>
  obtain⟨rfl,hi'⟩:=hm;exact⟨.normal,_,rfl,hi',hr⟩
 |out y=>
  obtain⟨rfl,hi'⟩:=hm;exact⟨.exit p.id,_,rfl,hi',hr⟩
 |back z=>
  obtain⟨rfl,hi'⟩:=hm;exact⟨.ret,_,rfl,hi',hr⟩
 |pan v=>
  obtain⟨rfl,s',hn',hi'⟩:=hm;have hdead:I P E ⟨p.n,λ_=>.dead,λ_=>none,λ_=>.dead⟩ a' w':=by
   have:=kO hC.ct (L:=⟨[],[]⟩) rfl hi' rfl trivial;rw[hn'] at this;obtain⟨F',γ',h⟩:=this;exact⟨F',γ',h.n,h.df,h.step,h.mem,λt=>uT,λt g want v ht=>(nomatch ht),λt=>uT⟩
  exact⟨.panic v,_,rfl,hdead,hr⟩
end
end Go.Ab

namespace Go.Ab
open Go Go.RowKit
def CO:(ts:List Ty)->ae ts
 |[]=>()
 |t::r=>(t.dflt,CO r)
def aW:(ps:List PT)->aq ps
 |[]=>()
 |.d t::r=>(t.dflt,aW r)
 |.ptr t::r=>(t.dflt,aW r)
 |.fn _ rs::r=>(λ_=>CO rs,aW r)
 |.pf _ rs::r=>((λ_=>CO rs,λ_=>False),aW r)
 |.pfn _ rs::r=>(λ_=>CO rs,aW r)
 |.pk _::r=>((),aW r)
def HT:(fs:List YF)->dG fs
 |[]=>()
 |(some _,_)::r=>([],HT r)
 |(none,t)::r=>(t.dflt,HT r)
def aZ:(ms:List MI)->bW ms
 |[]=>()
 |.o _ _ _::r=>([],aZ r)
 |.x _ _ ty::r=>(ty.dflt,aZ r)
 |.r _ _ _::r=>aZ (r)
 |.y _ _ fs::r=>(HT fs,aZ r)
 |.g _ _ _::r=>aZ (r)
 |.al _ _::r=>aZ (r)
def dH {α:Type}:List (FuncId×α)->FuncId->Option α
 |[],_=>none
 |(g,c)::r,f=>if f=g then some c else dH r f
def oz (P:Program):List (FuncId×Ct)->Prop
 |[]=>True
 |(f,c)::r=>aa P f c/\oz P r
def rN (P:Program):List (FuncId×Pc)->Prop
 |[]=>True
 |(f,c)::r=>kz P f c/\rN P r
def oz.get {P:Program}:{l:List (FuncId×Ct)}->oz P l->∀ f c,dH l f=some c->aa P f c
 |[],_,f,c,h=>by simp[dH] at h
 |(g,c0)::r,ha,f,c,h=>by
  unfold dH at h;split at h
  ·rename_i hfg;injection h with h
   subst h hfg;exact ha.1
  ·exact oz.get ha.2 f c h
def rN.get {P:Program}:{l:List (FuncId×Pc)}->rN P l->∀ f c,dH l f=some c->kz P f c
 |[],_,f,c,h=>by simp[dH] at h
 |(g,c0)::r,ha,f,c,h=>by
  unfold dH at h;split at h
  ·rename_i hfg;injection h with h
   subst h hfg;exact ha.1
  ·exact rN.get ha.2 f c h
def cx (cs:List (FuncId×Ct)) (ps:List (FuncId×Pc)):Cx:=⟨dH cs,dH ps,λ_ _ _ _=>none⟩
def ib (cs:List (FuncId×Ct)) (ps:List (FuncId×Pc)) (K:Nat->FuncId->List AV->St->Option Tr):Cx:=⟨dH cs,dH ps,K⟩
def aJ {P:Program} (hm:P.follows .mixedOrders=true) {cs:List (FuncId×Ct)} {ps:List (FuncId×Pc)} (h:oz P cs) (k:rN P ps):CxOK P (cx cs ps):=
 ⟨hm,⟨h.get,λ_ _ h=>(nomatch h)⟩,k.get,λ_ _ _ _ _ h=>(nomatch h)⟩
def iI {P:Program} (hm:P.follows .mixedOrders=true) {cs:List (FuncId×Ct)} {ps:List (FuncId×Pc)} {K:Nat->FuncId->List AV->St->Option Tr} (h:oz P cs) (k:rN P ps) (hK:kv P K):CxOK P (ib cs ps K):=
 ⟨hm,⟨h.get,λ_ _ h=>(nomatch h)⟩,k.get,hK⟩
def xV (P:Program):List (FuncId×Row)->Prop
 |[]=>True
 |(f,r)::l=>BF P f r/\xV P l
def xV.get {P:Program}:{l:List (FuncId×Row)}->xV P l->∀ f c,dH l f=some c->BF P f c
 |[],_,f,c,h=>by simp[dH] at h
 |(g,c0)::r,ha,f,c,h=>by
  simp only[dH] at h;split at h
  ·rename_i hf;subst hf;cases h;exact ha.1
  ·exact xV.get ha.2 f c h
def vF (cs:List (FuncId×Ct)) (ps:List (FuncId×Pc)) (rs:List (FuncId×Row)) (K:Nat->FuncId->List AV->St->Option Tr):Cx:=⟨⟨dH cs,dH rs⟩,dH ps,K⟩
def yW {P:Program} (hm:P.follows .mixedOrders=true) {cs:List (FuncId×Ct)} {ps:List (FuncId×Pc)} {rs:List (FuncId×Row)} {K:Nat->FuncId->List AV->St->Option Tr} (h:oz P cs) (k:rN P ps) (l:xV P rs) (hK:kv P K):CxOK P (vF cs ps rs K):=
 ⟨hm,⟨h.get,l.get⟩,k.get,hK⟩
def dM:Nat->St->Option Tr:=λ_ _=>none
def bL {P:Program} {E:Env}:(c:Code)->(k:Nat)->cH P E dM c k
 |.seq a b,k=>⟨bL a k,bL b _⟩
 |.cond _ a b,k=>⟨bL a k,bL b _⟩
 |.block _ c,k=>bL c k
 |.scope c,k=>bL c k
 |.loop _,_=>λ_ _ h=>nomatch h
 |.skip,_=>trivial
 |.ret,_=>trivial
 |.exit _,_=>trivial
 |.region _ _ _,_=>trivial
 |.label _,_=>trivial
 |.goto _,_=>trivial
 |.rangeFunc _ _ _ _,_=>trivial
 |.refuse _,_=>trivial
def loopB:Code->Nat->Option Code
 |.loop c,0=>some c
 |.seq a b,k=>if k<cG a then loopB a k else loopB b (k-cG a)
 |.cond _ a b,k=>if k<cG a then loopB a k else loopB b (k-cG a)
 |.block _ c,k=>loopB c k
 |.scope c,k=>loopB c k
 |_,_=>none
def aC (f:Func) (k:Nat):Code:=(f.body.bind (loopB · k)).getD .skip
def nq:{c:Code} -> {k:Nat} -> {b:Code}->loopB c k=some b->k<cG c
 |.loop _,0,_,_=>uds
 |.loop _,_+1,_,h=>by simp[loopB] at h
 |.seq x y,k,b,h=>by
  simp only[loopB] at h;simp only[cG];split at h
  ·omega
  ·have:=nq h;omega
 |.cond _ x y,k,b,h=>by
  simp only[loopB] at h;simp only[cG];split at h
  ·omega
  ·have:=nq h;omega
 |.block _ c,k,b,h=>nq (c:=c) h
 |.scope c,k,b,h=>nq (c:=c) h
 |.skip,_,_,h=>by simp[loopB] at h
 |.region _ _ _,_,_,h=>by simp[loopB] at h
 |.ret,_,_,h=>by simp[loopB] at h
 |.exit _,_,_,h=>by simp[loopB] at h
 |.label _,_,_,h=>by simp[loopB] at h
 |.goto _,_,_,h=>by simp[loopB] at h
 |.rangeFunc _ _ _ _,_,_,h=>by simp[loopB] at h
 |.refuse _,_,_,h=>by simp[loopB] at h
def nk {P:Program} {E:Env} {Λ:Nat->St->Option Tr}:(c:Code)->(k:Nat)->(∀ i b,loopB c i=some b->kx P E b (Λ (k+i)))->cH P E Λ c k
 |.loop b,k,h=>h 0 b rfl
 |.seq x y,k,h=>⟨nk x k λi b hb=>h i b (by simp only[loopB]; rw[if_pos (nq hb)]; exact hb),nk y _ λi b hb=>by
   have:=h (cG x+i) b (by simp only[loopB]; rw[if_neg (by omega),uaw]; exact hb)
   rwa [<- uef] at this⟩
 |.cond _ x y,k,h=>⟨nk x k λi b hb=>h i b (by simp only[loopB]; rw[if_pos (nq hb)]; exact hb),nk y _ λi b hb=>by
   have:=h (cG x+i) b (by simp only[loopB]; rw[if_neg (by omega),uaw]; exact hb)
   rwa [<- uef] at this⟩
 |.block _ c,k,h=>nk c k h
 |.scope c,k,h=>nk c k h
 |.skip,_,_=>trivial
 |.ret,_,_=>trivial
 |.exit _,_,_=>trivial
 |.region _ _ _,_,_=>trivial
 |.label _,_,_=>trivial
 |.goto _,_,_=>trivial
 |.rangeFunc _ _ _ _,_,_=>trivial
 |.refuse _,_,_=>trivial
def Kd {P:Program} {E:Env} {Λ:Nat->St->Option Tr} {c b:Code} (hn:cG c=1) (hb:loopB c 0=some b) (h:kx P E b (Λ 0)):cH P E Λ c 0:=by
 refine nk c 0 λi b' hb'=>?_;have h1:=nq hb';have hi:i=0:=by omega
 subst hi;rw[hb] at hb';cases hb';exact h
def ws {P:Program} {E:Env} {Λ:Nat->St->Option Tr} {fn:Func} {c b:Code} (hc:fn.body=some c) (hn:(fn.body.map cG)=some 1) (hb:fn.body.bind (loopB · 0)=some b) (h:kx P E b (Λ 0)):cH P E Λ c 0:=by
 rw[hc] at hn hb;exact Kd (by simpa using hn) (by simpa using hb) h
def Su {P:Program} {E:Env} {Λ:Nat->St->Option Tr} {fn:Func} {c b0 b1:Code} (hc:fn.body=some c) (hn:(fn.body.map cG)=some 2) (hb0:fn.body.bind (loopB · 0)=some b0) (hb1:fn.body.bind (loopB · 1)=some b1)
  (h0:kx P E b0 (Λ 0)) (h1:kx P E b1 (Λ 1)):cH P E Λ c 0:=by
 rw[hc] at hn hb0 hb1;simp at hn;simp at hb0 hb1;refine nk c 0 λi b' hb'=>?_;have hlt:=nq hb';have hi:i=0\/i=1:=by omega
 rcases hi with rfl|rfl
 ·rw[hb0] at hb';cases hb';exact h0
 ·rw[hb1] at hb';cases hb';exact h1
def flat {P:Program} {C:Cx} (hC:CxOK P C) {f:FuncId} {fn:Func} {ps:List PT} {rs:List Ty} {fr:aq ps->Fr (ae rs)} (x0:aq ps) (hf:P.funcs[f]? = some fn)
  (hrun:∀ xs,mw P C dM fn ps rs xs=some (fr xs)) (g:aq ps->ae rs) (ok:aq ps->List Prop)
  (hg:∀ w F xs vs,dX P w F ps xs vs->aE (ok xs)->(fr xs).ok/\(fr xs).get=g xs):aa P f ⟨ps,rs,g,ok⟩:=
 conv (mY hC x0 hf (λc _E _=>bL c 0) hrun) g ok hg
def JK (P:Program) (Γ:Gm) (f:FuncId) (fn:Func) (L:LS) (p:Pt) (F:L.X->Fr p.Out) (_d:Nat) (g:FuncId) (args:List AV) (s:St):Option Tr:=
 if g=f/\args.length<=fn.ntmps/\p.n=fn.ntmps then
  match L.ext Γ ⟨fn.ntmps,λi=>args.getD i .dead,s.mem,s.at⟩ with
  |some (x,n)=>match gM P fn.results.toList s.n (p.toTr (F x)) with
   |some t=>some (needL n t)
   |none=>none
  |none=>none
 else none
def qn0 {P:Program} {C:Cx} (hC:CxOK P C) {f:FuncId} {fn:Func} {c:Code} (hf:P.funcs[f]? = some fn) (hb:fn.body=some c) (hn:(fn.name == "runtime.NumGoroutine")=false) {L:LS} (hL:L.low=true) {p:Pt} {F:L.X->Fr p.Out} (h:ah P c L p F) :
  kv P (JK P C.Γ f fn L p F):=by
 intro d g args s t ht;unfold JK at ht;split at ht<;>try trivial
 rename_i hcond;obtain⟨rfl,hlen0,hpn⟩:=hcond;split at ht<;>try trivial
 rename_i x n hx;split at ht<;>try trivial
 rename_i t1 ht1;cases ht;refine⟨enters hf hb hn,λE a w F0 γ vs Q hi hr hq=>ufe hf hb ?_⟩;have hlen:=hr.length;have hstart:=Vf (n:=fn.ntmps) hi hr (by omega);obtain⟨hq1,hq2⟩:=kW _ hq;have hi':=kO hC.ct hL hstart hx hq1;have hsat:=s6 ht1 hq2;have hsz:(vs.toArray).size=vs.length:=by simp
 have hi2:I P ⟨E.w0,E.F0,eT a E,[],E.B,E.hB⟩ (L.tpl p.n x) { tmps:=vs.toArray++Array.replicate (fn.ntmps-vs.length) undef,defers:=[] } w:=by
  rw[hpn];exact hi'
 refine wp_mono (h _ _ w x _ hi2 (p.toTr_sat hsat)) ?_;rintro e a' w' ⟨r,hr',hm⟩;have hfin:∀ s':St,I P ⟨E.w0,E.F0,eT a E,[],E.B,E.hB⟩ s' a' w'->(∃ vs ns,gV P s' fn.results.toList=some (vs,ns)/\aE ns/\Q (.val (tB vs)) (s'.back s.n))->a'.defers=[]/\∃ v,(results fn a'.tmps).run P w' = .ok v w'/\Ga P E a Q (.returned v) w':=by
  rintro s' ⟨F',γ',hi'⟩ ⟨vs,ns,hres,hns,hqv⟩;obtain⟨us,hran,hreps⟩:=qO hi' hres hns;exact⟨hi'.df,_,tG hran,_,_,F',γ',hqv,DF hi hi',_,rfl,Uc hreps⟩
 cases r with
 |next m=>
  obtain⟨rfl,hi3⟩:=hm;exact hfin _ hi3 hr'
 |out y=>exact hr'.elim
 |back z=>
  obtain⟨rfl,hi3⟩:=hm;exact hfin _ hi3 hr'
 |pan v=>
  obtain⟨rfl,s',hn',hi3⟩:=hm;have hdead:I P ⟨E.w0,E.F0,eT a E,[],E.B,E.hB⟩ ⟨p.n,λ_=>.dead,λ_=>none,λ_=>.dead⟩ a' w':=by
   have:=kO hC.ct (L:=⟨[],[]⟩) rfl hi3 rfl trivial;rw[hn'] at this;obtain⟨F',γ',h⟩:=this;exact⟨F',γ',h.n,h.df,h.step,h.mem,λt=>uT,λt g want v ht=>(nomatch ht),λt=>uT⟩
  obtain⟨F',γ',h4⟩:=hdead;exact⟨h4.df,.panic v,_,F',γ',hr',DF hi h4,rfl⟩
def Ak (K K':Nat->FuncId->List AV->St->Option Tr) (d:Nat) (f:FuncId) (args:List AV) (s:St):Option Tr:=
 match K d f args s with
 |some t=>some t
 |none=>K' d f args s
def K4 {P:Program} {K K':Nat->FuncId->List AV->St->Option Tr} (h:kv P K) (h':kv P K'):kv P (Ak K K'):=by
 intro d f args s t ht;unfold Ak at ht;split at ht
 ·rename_i t' hk;cases ht;exact h d f args s _ hk
 ·exact h' d f args s t ht
def qpv {P:Program} {E:Env} {Λ:Nat->St->Option Tr} {fn:Func} {c b0 b1 b2:Code} (hc:fn.body=some c) (hn:(fn.body.map cG)=some 3) (hb0:fn.body.bind (loopB · 0)=some b0) (hb1:fn.body.bind (loopB · 1)=some b1) (hb2:fn.body.bind (loopB · 2)=some b2)
  (h0:kx P E b0 (Λ 0)) (h1:kx P E b1 (Λ 1)) (h2:kx P E b2 (Λ 2)):cH P E Λ c 0:=by
 rw[hc] at hn hb0 hb1 hb2;simp at hn;simp at hb0 hb1 hb2;refine nk c 0 λi b' hb'=>?_;have hlt:=nq hb';have hi:i=0\/i=1\/i=2:=by omega
 rcases hi with rfl|rfl|rfl
 ·rw[hb0] at hb';cases hb';exact h0
 ·rw[hb1] at hb';cases hb';exact h1
 ·rw[hb2] at hb';cases hb';exact h2
def eH {P:Program} {C:Cx} (hC:CxOK P C) {c:Code} {L:LS} {p:Pt} {f:L.X->Fr p.Out} (hr:∀ x,nZ P C 0 dM c L p x=some (f x):=by intro x; kernel_rfl) (hM:p.M.low=true:=by rfl) (hE:p.E.low=true:=by rfl) (hR:p.R.low=true:=by rfl):ah P c L p f:=
 ah.of_run hC hM hE hR (λ_=>bL _ 0) hr
abbrev aL (ps:List PT) (rs:List Ty) (fr:aq ps->Fr (ae rs)):Ct:=⟨ps,rs,λxs=>(fr xs).get,λxs=>[(fr xs).ok]⟩
def aH {P:Program} {C:Cx} (hC:CxOK P C) (fn:Func) {f:FuncId} {ps:List PT} {rs:List Ty} {fr:aq ps->Fr (ae rs)} (hf:P.funcs[f]? = some fn:=by kernel_rfl) (h:∀ xs,mw P C dM fn ps rs xs=some (fr xs):=by intro x; kernel_rfl):aa P f (aL ps rs fr):=
 mY hC (aW ps) hf (λc _ _=>bL c 0) h
section
variable {P:Program} {C:Cx} {fn:Func} {L1 L2 L3:LS} {p1 p2 p3:Pt} {F1:L1.X->Fr p1.Out} {F2:L2.X->Fr p2.Out} {F3:L3.X->Fr p3.Out} {f:FuncId} {ps:List PT} {rs:List Ty} {fr:aq ps->Fr (ae rs)}
def bz (hC:CxOK P C) (h1:ah P (.loop (aC fn 0)) L1 p1 F1) (hf:P.funcs[f]? = some fn:=by kernel_rfl) (hn:fn.body.map cG=some 1:=by kernel_rfl) (hb:fn.body.bind (loopB · 0)=some (aC fn 0):=by kernel_rfl) (hL:L1.low=true:=by rfl)
  (h:∀ xs,mw P C (λ_=>p1.han C.Γ L1 F1) fn ps rs xs=some (fr xs):=by intro x; kernel_rfl):aa P f (aL ps rs fr):=
 mY hC (aW ps) hf (λ_ _ hc=>ws hc hn hb (ah.han hC hL h1)) h
def zr (hC:CxOK P C) (h1:ah P (.loop (aC fn 0)) L1 p1 F1) (h2:ah P (.loop (aC fn 1)) L2 p2 F2) (hf:P.funcs[f]? = some fn:=by kernel_rfl) (hn:fn.body.map cG=some 2:=by kernel_rfl) (hb:fn.body.bind (loopB · 0)=some (aC fn 0):=by kernel_rfl) (hb2:fn.body.bind (loopB · 1)=some (aC fn 1):=by kernel_rfl) (hL:L1.low=true:=by rfl) (hL2:L2.low=true:=by rfl)
  (h:∀ xs,mw P C (λk=>if k=0 then p1.han C.Γ L1 F1 else p2.han C.Γ L2 F2) fn ps rs xs=some (fr xs):=by intro x; kernel_rfl):aa P f (aL ps rs fr):=
 mY hC (aW ps) hf (λ_ _ hc=>Su hc hn hb hb2 (ah.han hC hL h1) (ah.han hC hL2 h2)) h
def fn3 (hC:CxOK P C) (h1:ah P (.loop (aC fn 0)) L1 p1 F1) (h2:ah P (.loop (aC fn 1)) L2 p2 F2) (h3:ah P (.loop (aC fn 2)) L3 p3 F3) (hf:P.funcs[f]? = some fn:=by kernel_rfl) (hn:fn.body.map cG=some 3:=by kernel_rfl) (hb:fn.body.bind (loopB · 0)=some (aC fn 0):=by kernel_rfl) (hb2:fn.body.bind (loopB · 1)=some (aC fn 1):=by kernel_rfl) (hb3:fn.body.bind (loopB · 2)=some (aC fn 2):=by kernel_rfl) (hL:L1.low=true:=by rfl) (hL2:L2.low=true:=by rfl) (hL3:L3.low=true:=by rfl)
  (h:∀ xs,mw P C (λk=>if k=0 then p1.han C.Γ L1 F1 else if k=1 then p2.han C.Γ L2 F2 else p3.han C.Γ L3 F3) fn ps rs xs=some (fr xs):=by intro x; kernel_rfl):aa P f (aL ps rs fr):=
 mY hC (aW ps) hf (λ_ _ hc=>qpv hc hn hb hb2 hb3 (ah.han hC hL h1) (ah.han hC hL2 h2) (ah.han hC hL3 h3)) h
end
end Go.Ab

namespace Go.Ab
open Go Go.RowKit
structure TolOK (P:Program) (g:FuncId) (T:TypeId) (k:IntKind):Prop where
 enter:∀ args w,(callFunc g args).run P w = .ok (.enter g args) w
 idle:∀ (p:Addr) (w:World),CallsD P g #[.pointer (some p)] .returning w λe u' w'=>(∃ v,e = .returned v)/\u' = .returning/\w'=w
 told:∀ (b:Nat) (ty:TypeId) (old:Value) (n:Int) (w:World),w.heap[b]? = some (.cells #[old] ty (0,0)) ->
  CallsD P g #[.pointer (some ⟨b,0,none⟩)] (.panicking [{ v:=.iface T (.int k n),recovered:=false }]) w λe u' w'=>
   (∃ v,e = .returned v)/\u' = .panicking [{ v:=.iface T (.int k n),recovered:=true }]/\w'=w.setRow b #[.int k n]
def Fj (T:TypeId) (k:IntKind) (p:PV) (s:St):Option St:=
 match s.gs 0 with
 |.c (.ptr id 0)=>match s.mem id with
  |some (.box e [_])=>if p.ty=T/\p.k=k/\T<1000000 then some ⟨s.n,s.sl,upd s.mem id (.box e [.int k p.n]),s.gs⟩ else none
  |_=>none
 |_=>none
def iM (P:Program) (T:TypeId) (k:IntKind) (rv:List ResultVar) (rs:List Ty):Tr->Option (Fr (ae rs))
 |.leaf .ret s=>dS P rv rs s
 |.leaf .normal s=>dS P rv rs s
 |.leaf (.panic p) s=>match Fj T k p s with
  |some s'=>match dS P rv rs s' with
   |some f=>some (.need (inR k p.n) f)
   |none=>none
  |none=>none
 |.leaf _ _=>none
 |.br b x y=>match iM P T k rv rs x,iM P T k rv rs y with
  |some x',some y'=>some (.br b x' y')
  |_,_=>none
 |.need p x=>match iM P T k rv rs x with
  |some x'=>some (.need p x')
  |none=>none
 |.two p x y=>match iM P T k rv rs x,iM P T k rv rs y with
  |some x',some y'=>some (.need (p->x'.ok/\x'.get=y'.get) y')
  |_,_=>none
def Lq (P:Program) (C:Cx) (Λ:Nat->St->Option Tr) (g:FuncId) (T:TypeId) (k:IntKind) (fn:Func) (ps:List PT) (rs:List Ty) (xs:aq ps):Option (Fr (ae rs)):=
 match fn.body with
 |some (.seq A (.seq (.region _ ops false) c))=>if (fn.name == "runtime.NumGoroutine")=false/\ps.length<=fn.ntmps then
   match ops.toList with
   |[⟨none,.defer ⟨.value (.func f),args,_⟩,_,_,_,none⟩]=>match args.toList with
    |[.tmp tp]=>if f=g then
      match cU P C 0 Λ A 0 (tV fn.ntmps (jU ps xs)) with
      |some (.leaf .normal s1)=>match s1.sl tp with
       |.c (.ptr id 0)=>match cU P C 0 Λ c (cG A) ⟨s1.n,s1.sl,s1.mem,λt=>if t=0 then .c (.ptr id 0) else .dead⟩ with
        |some t=>iM P T k fn.results.toList rs t
        |none=>none
       |_=>none
      |_=>none
     else none
    |_=>none
   |_=>none
  else none
 |_=>none
section
variable {P:Program} {w w':World} {E:Env} {F F':Nat->Prop} {γ γ':Nat->Value}
def vM {rv:List ResultVar} {rs:List Ty} {s:St} {f:Fr (ae rs)} (h:dS P rv rs s=some f) (hok:f.ok):∃ n,dS P rv rs s=some (Fr.needL n (.val f.get))/\aE n:=by
 have h0:=h;unfold dS at h;split at h<;>try trivial
 split at h<;>try trivial
 split at h<;>try trivial
 cases h;refine⟨_,?_,(Af _ hok).1⟩;rw[Ad];exact h0
def sE {T:TypeId} {k:IntKind} {rv:List ResultVar} {rs:List Ty}:{t:Tr} -> {f:Fr (ae rs)}->iM P T k rv rs t=some f->f.ok->t.sat λe s=>match e with
  |.ret=>∃ n,dS P rv rs s=some (Fr.needL n (.val f.get))/\aE n
  |.normal=>∃ n,dS P rv rs s=some (Fr.needL n (.val f.get))/\aE n
  |.panic p=>∃ s' n,Fj T k p s=some s'/\inR k p.n/\dS P rv rs s'=some (Fr.needL n (.val f.get))/\aE n
  |_=>False
 |.leaf e s,f,h,hok=>by
  cases e with
  |exit i=>simp[iM] at h
  |val i=>simp[iM] at h
  |jump i=>simp[iM] at h
  |normal=>exact vM h hok
  |ret=>exact vM h hok
  |panic p=>
   simp only[iM] at h;split at h<;>try trivial
   rename_i s' hs';split at h<;>try trivial
   rename_i f' hf';cases h;obtain⟨n,h1,h2⟩:=vM hf' hok.2;exact⟨s',n,hs',hok.1,h1,h2⟩
 |.br b x y,f,h,hok=>by
  simp only[iM] at h;split at h<;>try trivial
  rename_i x' y' hx hy;cases h;refine⟨λhb=>?_,λhb=>?_⟩
  ·have:=sE hx (hok.1 hb);simpa only[Fr.get,hb,if_true] using this
  ·have:=sE hy (hok.2 hb);simpa only[Fr.get,hb,ub1,ufu] using this
 |.need p x,f,h,hok=>by
  simp only[iM] at h;split at h<;>try trivial
  rename_i x' hx;cases h;have:=sE hx hok.2;exact⟨hok.1,this⟩
 |.two p x y,f,h,hok=>by
  simp only[iM] at h;split at h<;>try trivial
  rename_i x' y' hx hy;cases h;have h2:=sE hy hok.2;refine⟨λhp=>?_,h2⟩;have:=sE hx (hok.1 hp).1
  rwa [(hok.1 hp).2] at this
def vN {fn:Func} {rs:List Ty} {s:St} {a:Act} {y:ae rs} {n:List Prop} (hi:InvG P E s a w [] F γ) (hEB:E.B=E.w0.heap.size) (h:dS P fn.results.toList rs s=some (Fr.needL n (.val y))) (hn:aE n) :
  ∃ v,(results fn a.tmps).run P w = .ok v w/\fy E.w0 E.F0 rs y (.returned v) w:=by
 unfold dS at h;split at h<;>try trivial
 rename_i avs n' hres;split at h<;>try trivial
 rename_i axs u hrs;split at h<;>try trivial
 rename_i y' hdec;injection h with h
 obtain⟨hn',hy⟩:=Ae h hn;subst hy;obtain⟨us,hran,hreps⟩:=qO hi hres hn';obtain⟨F'',hs,hm',_,hxs⟩:=ko hi.mem (eo hi) (g6 λ_ _ h=>h) hrs hreps;obtain⟨γ0,h0⟩:=hi.step;rw[hEB] at hs h0;have hst:=h0.trans hs;exact⟨_,tG hran,_,F'',rfl,⟨hst.os,hst.tape,hst.output,hst.size,hst.old⟩,hst.hF,λb hb=>⟨hst.new b hb,hst.bd b hb⟩,A7 (oO hdec hxs)⟩
def Kz {arr:Array Value} (h:arr.size=1):∃ v,arr = #[v]:=by
 refine⟨arr[0]'(by omega),?_⟩;apply ufo
 ·simp[h]
 ·intro i h1 h2;have:i=0:=by omega
  subst this;rfl
def VJ {T:TypeId} {k:IntKind} {p:PV} {s s':St} {a:Act} (hi:InvG P E s a w [] F γ) (h:Fj T k p s=some s') (hr:inR k p.n) :
  p.ty=T/\p.k=k/\T<1000000/\∃ b ty old,E.G 0 = .pointer (some ⟨b,0,none⟩)/\w.heap[b]? = some (.cells #[old] ty (0,0))/\InvG P E s' a (w.setRow b #[.int k p.n]) [] F γ:=by
 unfold Fj at h;split at h<;>try trivial
 rename_i id hgs;split at h<;>try trivial
 rename_i e c0 hM;split at h<;>try trivial
 rename_i hp;cases h;have hg:=hi.gh 0;rw[hgs] at hg;obtain⟨b,arr,e1,e2,e3,e4,e5,e6,e7⟩:=oD hi.mem hM hg.2;obtain⟨old,rfl⟩:=Kz (by simpa using e6);have hov:d8 #[old] 0 [.int k p.n] = #[.int k p.n]:=by simp[d8]
 obtain⟨s1,s2⟩:=qV (off:=0) (cs':=[.int k p.n]) (vs:=[.int k p.n]) hi.mem (eo hi) hM e1 e3 e4 e5 (by simp) rfl ⟨⟨.int k p.n,by rw[hov]; rfl,rfl,rfl,hr⟩,uT⟩;refine⟨hp.1,hp.2.1,hp.2.2,b,e,old,e2,e3,⟨hi.n,hi.df,?_,s2,λt=>(hi.sl t).mono s1.hF s1.hw s1.hR,hi.hg,λt=>s1.repA (hi.gh t)⟩⟩;obtain⟨γ0,h0⟩:=hi.step;exact⟨γ0,h0.trans s1⟩
def qfw {C:Cx} (hC:CxOK P C) {Λ:Nat->St->Option Tr} {f g:FuncId} {T:TypeId} {k:IntKind} {fn:Func} {ps:List PT} {rs:List Ty} {fr:aq ps->Fr (ae rs)} (x0:aq ps)
  (hf:P.funcs[f]? = some fn) (hT:TolOK P g T k) (hΛ:∀ c E,fn.body=some c->cH P E Λ c 0) (hrun:∀ xs,Lq P C Λ g T k fn ps rs xs=some (fr xs)):aa P f ⟨ps,rs,λxs=>(fr xs).get,λxs=>[(fr xs).ok]⟩:=by
 have h0:=hrun x0;unfold Lq at h0;split at h0<;>try trivial
 rename_i A rid ops c hb;split at h0<;>try trivial
 rename_i hc;refine⟨enters hf hb hc.1,λw F xs vs hbd hr hok=>ucc hf hb ?_⟩;have hr':=hrun xs;unfold Lq at hr';simp only[hb,hc,ufs,if_true] at hr';split at hr'<;>try trivial
 rename_i f0 args ats ty pos aft hops;split at hr'<;>try trivial
 rename_i tp hargs;split at hr'<;>try trivial
 rename_i hfg;subst hfg;split at hr'<;>try trivial
 rename_i s1 ht1;split at hr'<;>try trivial
 rename_i id hsl;split at hr'<;>try trivial
 rename_i t ht2;have hlam:=λE=>hΛ _ E hb;have hlen:vs.length=ps.length:=wR hr;have hstart:=xu (D:=[]) (n:=fn.ntmps) hbd (λR=>qm hr) (by omega);have hsz:(vs.toArray).size=vs.length:=by simp
 refine wp_seq (wp_mono (gF hC A 0 (hlam _).1 ht1 (Q:=λe s=>e = .normal/\s=s1) ⟨rfl,rfl⟩ hstart) ?_);rintro e a1 w1 ⟨xe,s,rfl,⟨F1,γ1,hi⟩,rfl,rfl⟩;obtain⟨ol⟩:=ops;subst hops;have hv0:=sM hi tp;rw[hsl] at hv0;obtain⟨_,b0,hR0,hv0⟩:=hv0;refine wp_seq (ufq ?_);have hargs':args = #[.tmp tp]:=by
  obtain⟨l⟩:=args;simp only at hargs;rw[hargs]
 subst hargs';have hev:a1.eval (.tmp tp) = .pointer (some ⟨b0,0,none⟩):=hv0;have hexec:(execOp a1.eval ⟨none,.defer ⟨.value (.func f0),#[.tmp tp],ats⟩,ty,pos,aft,none⟩).run P w1 = .ok (.defer { target:=.fn (.func f0) #[],args:=#[.pointer (some ⟨b0,0,none⟩)] }) w1:=by
  have hef:a1.eval (.func f0) = .func (.func f0) #[] #[]:=rfl;simp[execOp,resolve,hev,hef,Deferred.ofValue]
 have hrange:List.range (#[(⟨none,.defer ⟨.value (.func f0),#[.tmp tp],ats⟩,ty,pos,aft,none⟩:Oper)]:Array Oper).size=[0]:=rfl;unfold wpOps;simp;have hw:Region.wanted (⟨none,.defer ⟨.value (.func f0),#[.tmp tp],ats⟩,ty,pos,aft,none⟩:Oper) (yielded #[(⟨none,.defer ⟨.value (.func f0),#[.tmp tp],ats⟩,ty,pos,aft,none⟩:Oper)] a1.tmps)=true:=rfl;refine .inl ?_;unfold Oper.wp;rw[hexec];have hi':InvG P ⟨w,F,λ_=>.pointer (some ⟨b0,0,none⟩),[{ target:=.fn (.func f0) #[],args:=#[.pointer (some ⟨b0,0,none⟩)] }],w.heap.size,ufa _⟩ ⟨s.n,s.sl,s.mem,λt=>if t=0 then .c (.ptr id 0) else .dead⟩ { a1 with defers:={ target:=.fn (.func f0) #[],args:=#[.pointer (some ⟨b0,0,none⟩)] }::a1.defers } w1 [] F1 γ1:=by
  refine⟨hi.n,?_,hi.step,hi.mem,hi.sl,hi.hg,λt=>?_⟩
  ·show _::a1.defers=[_];rw[hi.df]
  ·show aM P w1 F1 _ (if t=0 then .c (.ptr id 0) else .dead) _;split
   ·exact⟨rfl,b0,hR0,rfl⟩
   ·trivial
 have hwp:=gF hC c (cG A) (by have:=(hlam ⟨w,F,λ_=>.pointer (some ⟨b0,0,none⟩),[{ target:=.fn (.func f0) #[],args:=#[.pointer (some ⟨b0,0,none⟩)] }],w.heap.size,ufa _⟩).2.2; simpa[cG] using this) ht2 (sE hr' hok) ⟨F1,γ1,hi'⟩;refine wp_mono hwp ?_;rintro e a2 w2 ⟨xe,s2,rfl,⟨F2,γ2,hi2⟩,hx⟩;have hinv:∀ W,(invoke (.fn (.func f0) #[]) #[.pointer (some ⟨b0,0,none⟩)]).run P W = .ok (.enter f0 #[.pointer (some ⟨b0,0,none⟩)]) W:=λW=>by
  have:=hT.enter #[.pointer (some ⟨b0,0,none⟩)] W;simp[invoke,this]
 have hfin:(∃ n,dS P fn.results.toList rs s2=some (Fr.needL n (.val (fr xs).get))/\aE n)->Leaves P fn a2.tmps (fy w F rs (fr xs).get) a2.defers .returning w2:=by
  rintro⟨n,hend,hn⟩;rw[hi2.df];refine uff (by simp) (hinv w2) ((hT.idle _ w2).mono ?_);rintro e u' w' ⟨⟨v,rfl⟩,rfl,rfl⟩;exact vN hi2 rfl hend hn
 cases xe with
 |normal=>exact hfin hx
 |ret=>exact hfin hx
 |exit _=>exact hx.elim
 |val _=>exact hx.elim
 |jump _=>exact hx.elim
 |panic p=>
  obtain⟨s',n,hs',hin,hend,hn⟩:=hx;obtain⟨hty,hk,hlow,b,tyb,old,hG,hheap,hi3⟩:=VJ hi2 hs' hin;have hG':=hG;simp at hG';subst hG';show Leaves P fn a2.tmps _ a2.defers (.panicking [{ v:=p.val,recovered:=false }]) w2;rw[W6 (by rw[hty]; exact hlow),hi2.df,hty,hk];refine uff (by simp) (hinv w2) ((hT.told b0 tyb old p.n w2 hheap).mono ?_);rintro e u' w' ⟨⟨v,rfl⟩,rfl,rfl⟩;exact vN hi3 rfl hend hn
end
end Go.Ab

namespace Go.Ab
open Go Go.RowKit Go.WideShapes Go.ChangeShapes
def fV (r:TypeId->Ty->Bool):List Field->Ty->Nat->Bool
 |[],.unit,_=>true
 |f::fs,.pair a b,off=>(f.offset==off)&&(r f.type a&&fV r fs b (off+a.size))
 |_,_,_=>false
def fU (r:Ty->Bool):Nat->Ty->Bool
 |0,.unit=>true
 |k+1,.pair a b=>r a&&fU r k b
 |_,_=>false
def gt (P:Program):Nat->TypeId->Ty->Bool
 |0,_,_=>false
 |n+1,t,ty=>(P.cellsOf t==ty.size)&&match P.underlying t,ty with
  |some .bool,.bool=>true
  |some (.int k),.int k'=>decide (k=k')
  |some .string,.str=>true
  |some (.slice e),.sl te=>decide (0<te.size)&&gt P n e te
  |some (.struct fs),ty=>ty.wide&&fV (gt P n) fs.toList ty 0
  |some (.array k e),ty=>ty.wide&&fU (gt P n e) k ty
  |_,_=>false
section
variable {H:Type} {enc:TypeId×Value->H} {P:Program} {w:World} {sp:Nat->Bool} {held:Bool}
def qao (a:Addr) (k j:Nat):(a.add k).add j=a.add (k+j):=by
 unfold Addr.add;by_cases hk:k=0
 ·subst hk;simp
 ·by_cases hj:j=0
  ·subst hj;simp
  ·have:¬ k+j=0:=by omega
   simp[hk,hj,uef]
def S4 {α:Type} {Q:Nat->α->Prop}:(n:Nat)->(∀ i,i<n->∃ y,Q i y)->∃ l:List α,l.length=n/\∀ (i:Nat) (y:α),l[i]? = some y->Q i y
 |0,_=>⟨[],rfl,λi y h=>by simp at h⟩
 |n+1,h=>by
  obtain⟨l,hl,hq⟩:=S4 n (λi hi=>h i (by omega));obtain⟨y,hy⟩:=h n (by omega);refine⟨l++[y],by simp[hl],λi z hz=>?_⟩;rcases ueo i l.length with hi|hi
  ·rw[uaj hi] at hz;exact hq i z hz
  ·rw[uae hi] at hz;have:i-l.length=0:=by
    rcases ub3 (i-l.length) with h0|h0
    ·exact h0
    ·rw[ua2 (by simp; omega)] at hz;cases hz
   rw[this] at hz;simp at hz;subst hz;have:i=n:=by omega
   subst this;exact hy
def qcf {a:Addr} {n:Nat} {cs:List Value} (h:w.cells? 0 a n=some cs):cs.length=n/\∀ j,j<n->w.cell? (a.add j)=cs[j]? := by
 unfold World.cells? at h;refine⟨by simpa using mapM_some_length h,λj hj=>?_⟩;exact mapM_some_get h j j (by simp[hj])
def qce {a:Addr} {v:Value} (h:w.cell? a=some v):a.block<w.heap.size:=by
 unfold World.cell? at h;split at h
 ·rename_i hb;exact(uaf.1 hb).1
 ·cases h
def zfa {k:IntKind} {n:Int} (h:(Lit.int k n).wf=true):inR k n:=by
 simpa[Lit.wf,inR] using h
abbrev nu (w:World):Nat->Prop:=λb=>b<w.heap.size
def SV {n fuel:Nat} (ih:∀ (t:TypeId) (ty:Ty) (fuel:Nat) (cs:List Value) (x:DataW H×List MemPlace),gt P n t ty=true->DataW.trod enc P w 0 sp held fuel t cs=some x->cs.length=ty.size/\∃ y,aD w (nu w) ty y (λj u=>cs[j]? = some u))
  {cs:List Value}:(l:List Field)->(ty:Ty)->(off:Nat)->fV (gt P n) l ty off=true->(∀ f∈l,∃ x,DataW.trod enc P w 0 sp held fuel f.type ((cs.drop f.offset).take (P.cellsOf f.type))=some x)->∃ y,aD w (nu w) ty y (λj u=>cs[off+j]? = some u)
 |[],.unit,_,_,_=>⟨(),uT⟩
 |f::fs,.pair a b,off,h,hx=>by
  simp only[fV,uc9,ufh] at h;obtain⟨h1,h2,h3⟩:=h;obtain⟨x,hx1⟩:=hx f (by simp);obtain⟨hl,y,hy⟩:=ih _ _ _ _ _ h2 hx1;obtain⟨y',hy'⟩:=SV ih fs b (off+a.size) h3 (λg hg=>hx g (by simp[hg]));refine⟨(y,y'),aD.mono (λ_ h=>h) (λ_ _=>rfl) (λj u hj hu=>?_) hy,aD.mono (λ_ h=>h) (λ_ _=>rfl) (λj u hj hu=>?_) hy'⟩
  ·rw[ub0] at hu;split at hu
   ·rw[ubz,h1] at hu;exact hu
   ·cases hu
  ·rw[uef] at hu;exact hu
 |[],.int _,_,h,_=>by simp[fV] at h
 |[],.bool,_,h,_=>by simp[fV] at h
 |[],.str,_,h,_=>by simp[fV] at h
 |[],.sl _,_,h,_=>by simp[fV] at h
 |[],.pair _ _,_,h,_=>by simp[fV] at h
 |[],.fm _,_,h,_=>by simp[fV] at h
 |_::_,.fm _,_,h,_=>by simp[fV] at h
 |[],.ic _ _,_,h,_=>by simp[fV] at h
 |_::_,.ic _ _,_,h,_=>by simp[fV] at h
 |[],.fc _,_,h,_=>by simp[fV] at h
 |_::_,.fc _,_,h,_=>by simp[fV] at h
 |_::_,.int _,_,h,_=>by simp[fV] at h
 |_::_,.bool,_,h,_=>by simp[fV] at h
 |_::_,.str,_,h,_=>by simp[fV] at h
 |_::_,.sl _,_,h,_=>by simp[fV] at h
 |_::_,.unit,_,h,_=>by simp[fV] at h
def SU {n fuel:Nat} {e:TypeId} (ih:∀ (t:TypeId) (ty:Ty) (fuel:Nat) (cs:List Value) (x:DataW H×List MemPlace),gt P n t ty=true->DataW.trod enc P w 0 sp held fuel t cs=some x->cs.length=ty.size/\∃ y,aD w (nu w) ty y (λj u=>cs[j]? = some u))
  {cs:List Value}:(k:Nat)->(ty:Ty)->(i0:Nat)->fU (gt P n e) k ty=true->(∀ i,i<k->∃ x,DataW.trod enc P w 0 sp held fuel e ((cs.drop ((i0+i)*P.cellsOf e)).take (P.cellsOf e))=some x)->∃ y,aD w (nu w) ty y (λj u=>cs[i0*P.cellsOf e+j]? = some u)
 |0,.unit,_,_,_=>⟨(),uT⟩
 |k+1,.pair a b,i0,h,hx=>by
  simp only[fU,uc9] at h;obtain⟨h2,h3⟩:=h;obtain⟨x,hx1⟩:=hx 0 (by omega);obtain⟨hl,y,hy⟩:=ih _ _ _ _ _ h2 hx1;have hsz:P.cellsOf e=a.size:=by
   cases n with
   |zero=>simp[gt] at h2
   |succ n=>
    simp only[gt,uc9,ufh] at h2;exact h2.1
  obtain⟨y',hy'⟩:=SU ih k b (i0+1) h3 (λi hi=>by
   have:=hx (i+1) (by omega)
   rwa [show i0+1+i=i0+(i+1) by omega])
  refine⟨(y,y'),aD.mono (λ_ h=>h) (λ_ _=>rfl) (λj u hj hu=>?_) hy,aD.mono (λ_ h=>h) (λ_ _=>rfl) (λj u hj hu=>?_) hy'⟩
  ·rw[ub0] at hu;split at hu
   ·rw[ubz] at hu;simpa using hu
   ·cases hu
  ·rw[ufc,Nat.one_mul,hsz,uef] at hu;rw[hsz];exact hu
 |0,.int _,_,h,_=>by simp[fU] at h
 |0,.bool,_,h,_=>by simp[fU] at h
 |0,.str,_,h,_=>by simp[fU] at h
 |0,.sl _,_,h,_=>by simp[fU] at h
 |0,.pair _ _,_,h,_=>by simp[fU] at h
 |0,.fm _,_,h,_=>by simp[fU] at h
 |_+1,.fm _,_,h,_=>by simp[fU] at h
 |0,.ic _ _,_,h,_=>by simp[fU] at h
 |_+1,.ic _ _,_,h,_=>by simp[fU] at h
 |0,.fc _,_,h,_=>by simp[fU] at h
 |_+1,.fc _,_,h,_=>by simp[fU] at h
 |_+1,.int _,_,h,_=>by simp[fU] at h
 |_+1,.bool,_,h,_=>by simp[fU] at h
 |_+1,.str,_,h,_=>by simp[fU] at h
 |_+1,.sl _,_,h,_=>by simp[fU] at h
 |_+1,.unit,_,h,_=>by simp[fU] at h
def zeb {t e:TypeId} {k fuel:Nat} {cs:List Value} {x:DataW H×List MemPlace} (ht:P.underlying t=some (.array k e)) (h:DataW.trod enc P w 0 sp held fuel t cs=some x) :
  ∃ n,∀ i,i<k->∃ y,DataW.trod enc P w 0 sp held n e ((cs.drop (i*P.cellsOf e)).take (P.cellsOf e))=some y:=by
 cases fuel with
 |zero=>simp[DataW.trod] at h
 |succ n=>
  unfold DataW.trod at h;split at h<;>simp_all
  obtain⟨hl,xs,hp,hd⟩:=h;refine⟨n,λi hi=>?_⟩;have h1:=mapM_some_get hp i i (by simp[hi]);have h2:=mapM_some_length hp;rw[uap (by simp at h2; omega)] at h1;exact⟨_,_,h1⟩
def Fm:(n:Nat)->(t:TypeId)->(ty:Ty)->(fuel:Nat)->(cs:List Value)->(x:DataW H×List MemPlace)->gt P n t ty=true->DataW.trod enc P w 0 sp held fuel t cs=some x->cs.length=ty.size/\∃ y,aD w (nu w) ty y (λj u=>cs[j]? = some u)
 |0,t,ty,fuel,cs,x,h,_=>by simp[gt] at h
 |n+1,t,ty,fuel,cs,x,h,hx=>by
  simp only[gt,uc9,ufh] at h;obtain⟨hsz,h⟩:=h;split at h
  ·rename_i ht;obtain⟨b,rfl,_⟩:=DataW.trod_bool ht hx;exact⟨rfl,b,rfl⟩
  ·rename_i k k' ht;have hk:k=k':=by simpa using h
   subst hk;obtain⟨m,rfl,_,hw⟩:=DataW.trod_int ht hx;exact⟨rfl,m,rfl,zfa hw⟩
  ·rename_i ht;obtain⟨s,rfl,_,hs⟩:=DataW.trod_string ht hx;exact⟨rfl,s,rfl,hs⟩
  ·rename_i e te ht;simp at h;obtain⟨hpos,hte⟩:=h;have hse:P.cellsOf e=te.size:=by
    cases n with
    |zero=>simp[gt] at hte
    |succ n=>
     simp only[gt,uc9,ufh] at hte;exact hte.1
   rcases DataW.trod_slice ht hx with ⟨rfl,_⟩|⟨a,len,cap,elems,rest,m,rfl,rfl,_,_,h1,h2,hel,hget,_⟩
   ·exact⟨rfl,[],none,0,rfl,ufa _,by simp,λi y hy=>by simp at hy⟩
   ·have hall:∀ i,i<len->∃ y,aD w (nu w) te y (λj u=>w.cell? (a.add (i*te.size+j))=some u)/\a.block<w.heap.size:=λi hi=>by
     have hg:=hget i hi;rw[uap (by omega)] at hg;rw[Option.bind_eq_some_iff] at hg;obtain⟨ci,hci,htr⟩:=hg;rw[hse] at hci;obtain⟨hl,y,hy⟩:=Fm n e te m ci _ hte htr;obtain⟨hcl,hcg⟩:=qcf hci;have hc:∀ j,j<te.size->w.cell? (a.add (i*te.size+j))=ci[j]? := λj hj=>by
      rw[<- qao];exact hcg j hj
     refine⟨y,aD.mono (λ_ h=>h) (λ_ _=>rfl) (λj u hj hu=>(hc j hj).trans hu) hy,?_⟩;have h0:=hc 0 hpos;rw[uap (by omega)] at h0;have hlt:=qce h0;have:(a.add (i*te.size+0)).block=a.block:=by unfold Addr.add; split<;>rfl
     rwa [this] at hlt
    obtain⟨l,hl,hq⟩:=S4 len hall;subst hl;exact⟨rfl,l,some a,cap,rfl,h1,h2,λi y hy=>⟨a,rfl,(hq i y hy).2,(hq i y hy).1⟩⟩
  ·rename_i ty' fs ht;simp at h;obtain⟨xs,m,rfl,rfl,hl,hxl,hget⟩:=DataW.trod_struct ht hx;refine⟨by omega,?_⟩;have:=SV (λt ty fuel cs x=>Fm n t ty fuel cs x) fs.toList _ 0 h.2 (λf hf=>by
    obtain⟨i,hi⟩:=ua7.1 hf;have hi':fs[i]? = some f:=by simpa using hi
    have hlt:=(uaf.1 hi').1;have hg:=hget i f hi';rw[uap (by omega)] at hg;exact⟨_,hg⟩)
   simpa using this
  ·rename_i ty' k e ht;simp at h;obtain⟨m,hm⟩:=zeb ht hx;have hl:cs.length=P.cellsOf t:=by
    cases fuel with
    |zero=>simp[DataW.trod] at hx
    |succ m=>
     unfold DataW.trod at hx;split at hx<;>simp_all
   refine⟨by omega,?_⟩;have:=SU (λt ty fuel cs x=>Fm n t ty fuel cs x) k _ 0 h.2 (λi hi=>by simpa using hm i hi);simpa using this
  ·cases h
def qyo {n:Nat} {t:TypeId} {ty:Ty} {v:Value} {d:DataW H} {ps:List MemPlace} {r:Reach} {base:Nat} (h:gt P n t ty=true) (hv:Value.okWide P w r base t v) (hd:DataW.Trod enc P w 0 sp held t v d ps):∃ y,bq w (nu w) ty y v:=by
 obtain⟨fuel,hf⟩:=hd;obtain⟨hl,y,hy⟩:=Fm n t ty fuel _ _ h hf;refine⟨y,by simpa using hl,?_,aD.mono (λ_ h=>h) (λ_ _=>rfl) (λj u hj hu=>by simpa using hu) hy⟩;cases n with
 |zero=>simp[gt] at h
 |succ n=>
  simp only[gt,uc9] at h;replace h:=h.2;unfold Value.okWide at hv;split at h
  ·rename_i ht;simp only[Cell.okWide,ht,Cell.ok] at hv;refine⟨λhw=>(by cases hw),λ⟨cs,hc⟩=>?_⟩;subst hc;exact hv.elim
  ·rename_i k k' ht;simp only[Cell.okWide,ht,Cell.ok] at hv;refine⟨λhw=>(by cases hw),λ⟨cs,hc⟩=>?_⟩;subst hc;exact hv.elim
  ·rename_i ht;simp only[Cell.okWide,ht,Cell.ok] at hv;refine⟨λhw=>(by cases hw),λ⟨cs,hc⟩=>?_⟩;subst hc;exact hv.elim
  ·rename_i e te ht;simp only[Cell.okWide,ht,Cell.ok] at hv;refine⟨λhw=>(by cases hw),λ⟨cs,hc⟩=>?_⟩;subst hc;exact hv.elim
  ·rename_i ty' fs ht;rw[ht] at hv;simp at h;obtain⟨cs,hc,_⟩:=hv;exact⟨λ_=>⟨cs,hc⟩,λ_=>h.1⟩
  ·rename_i ty' k e ht;rw[ht] at hv;simp at h;obtain⟨cs,hc,_⟩:=hv;exact⟨λ_=>⟨cs,hc⟩,λ_=>h.1⟩
  ·cases h
def lT (P:Program):List TypeId->List PT->Bool
 |[],[]=>true
 |t::ts,.d ty::ps=>gt P 12 t ty&&lT P ts ps
 |_,_=>false
def TQ {r:Reach} {base:Nat}:{ts:List TypeId} -> {ps:List PT} -> {vs:List Value} -> {ds:List (DataW H)} -> {pl:List MemPlace}->lT P ts ps=true->DataW.TrodAll enc P w 0 sp held ts vs ds pl ->
  (∀ (j:Nat) t v,ts[j]? = some t->vs[j]? = some v->Value.okWide P w r base t v)->∃ xs,dX P w (nu w) ps xs vs
 |[],[],[],[],_,_,_,_=>⟨(),rfl⟩
 |t::ts,.d ty::ps,v::vs,d::ds,_,h,ht,hv=>by
  simp only[lT,uc9] at h;obtain⟨p,q,h1,h2,_⟩:=ht;obtain⟨y,hy⟩:=qyo h.1 (hv 0 t v rfl rfl) h1;obtain⟨ys,hys⟩:=TQ h.2 h2 (λj t v a b=>hv (j+1) t v a b);exact⟨(y,ys),v,vs,rfl,hy,hys⟩
 |[],_::_,_,_,_,h,_,_=>by simp[lT] at h
 |_::_,[],_,_,_,h,_,_=>by simp[lT] at h
 |_::_,.ptr _::_,_,_,_,h,_,_=>by simp[lT] at h
 |_::_,.fn _ _::_,_,_,_,h,_,_=>by simp[lT] at h
 |_::_,.pf _ _::_,_,_,_,h,_,_=>by simp[lT] at h
 |_::_,.pfn _ _::_,_,_,_,h,_,_=>by simp[lT] at h
 |_::_,.pk _::_,_,_,_,h,_,_=>by simp[lT] at h
 |[],[],_::_,_,_,_,h,_=>h.elim
 |[],[],[],_::_,_,_,h,_=>h.elim
 |_::_,.d _::_,[],_,_,_,h,_=>h.elim
 |_::_,.d _::_,_::_,[],_,_,h,_=>h.elim
def TP (hl:laidOutB P=true) {W':World} {sp':Nat->Bool}:{ts:List TypeId} -> {vs:List Value} -> {ds:List (DataW H)} -> {pl:List MemPlace}->(ts.all λt=>P.readableRec t&&decide (t<P.types.size))=true ->
  DataW.TrodAll enc P w 0 (λ_=>true) true ts vs ds pl->(∀ p∈pl,w.sameAt W' p)->(∀ p∈pl,sp' p.block=true)->DataW.TrodAll enc P W' 0 sp' true ts vs ds pl
 |[],[],[],_,_,h,_,_=>h
 |t::ts,v::vs,d::ds,_,hr,h,h1,h2=>by
  simp at hr;obtain⟨p,q,a,b,rfl⟩:=h;exact⟨p,q,WideElems.Trod_stays hl hr.1.1 hr.1.2 a (λx hx=>h1 x (by simp[hx])) (λx hx=>h2 x (by simp[hx])),TP hl (by simpa using hr.2) b (λx hx=>h1 x (by simp[hx])) (λx hx=>h2 x (by simp[hx])),rfl⟩
 |[],_::_,_,_,_,h,_,_=>h.elim
 |[],[],_::_,_,_,h,_,_=>h.elim
 |_::_,[],_,_,_,h,_,_=>h.elim
 |_::_,_::_,[],_,_,h,_,_=>h.elim
def qxy {f:Func} {s:ChangeSpec} {apart fresh handsOn again:Bool} {W W':World} {args:Array Value} {v:Value} {ds gs:List (DataW H)} {before pa pv:List MemPlace}
  (hW:DataW.Whole enc P f.params.toList s.vars apart W args.toList ds gs before)
  (hres:∀ (b:Nat) (sp:Nat->Bool) (hd:Bool),DataW.TrodAll enc P W' b sp hd f.resultTypes.toList (v.resultList f.resultTypes.size) (s.fn H (ds++gs)).results [])
  (hargs:∀ sp:Nat->Bool,(∀ p∈before,sp p.block=true)->DataW.TrodAll enc P W' 0 sp true f.params.toList args.toList (s.fn H (ds++gs)).args pa)
  (hvars:∀ sp:Nat->Bool,(∀ p∈before,sp p.block=true)->DataW.TrodVars enc P W' sp s.vars (s.fn H (ds++gs)).vars pv)
  (hps:before=pa++pv) (hb:Below W.heap.size W W')
  (hok:∀ (j:Nat) (t:TypeId) (r:Value),f.resultTypes[j]? = some t->(v.resultList f.resultTypes.size)[j]? = some r->Value.okWide P W' .any 0 t r) :
  s.post enc P f apart fresh handsOn again W args v W':=by
 have hlt:=λp hp=>hW.lt p hp;have hold:∀ p∈before,(λb=>decide (b<W.heap.size)) p.block=true:=λp hp=>by simpa using hlt p hp
 refine⟨ds,gs,before,[],pa,pv,hW,hres _ _ _,hargs _ hold,hvars _ hold,World.keptBut_mono (λp hp=>⟨hp,?_⟩) (hb.frame (· ∈ before)),λ_=>?_⟩
 ·rw[hps,udq] at hp;exact Or.inr hp
 ·obtain⟨_,_,_,_,_,hz,hn⟩:=hW;refine⟨hok,_,_,([]++pa)++pv,⟨[]++pa,pv,trodAll_append (hargs _ (λ_ _=>rfl)) (hres _ _ _),hvars _ (λ_ _=>rfl),rfl,?_,?_⟩,?_⟩
  ·intro b off hp;have hin:MemPlace.cell b off∈before:=by rw[hps]; simpa using hp
   rw[hb.frozen (hlt _ hin)];exact hz b off hin
  ·intro ha;have:=hn ha;rw[hps] at this;simpa using this
  ·intro p hp _;rw[hps];simpa using hp
def law_contract {fid:FuncId} {f:Func} {s:ChangeSpec} {ps:List PT} {apart fresh handsOn again:Bool} {tb:TypeId} (hl:laidOutB P=true) (hr:(f.params.toList.all λt=>P.readableRec t&&decide (t<P.types.size))=true) (hty:lT P f.params.toList ps=true)
  (hvars:s.vars=[]) (hrt:f.resultTypes = #[tb]) (htb:P.underlying tb=some .bool) (hs:∀ ds:List (DataW H),ds.length=f.params.size->s.fn H ds = { results:=[.lit (.bool true)],args:=ds })
  (hc:aa P fid ⟨ps,[.bool],λ_=>(true,()),λ_=>[]⟩) (W:World) (base:Nat) (args:Array Value) (ds gs:List (DataW H)) (before:List MemPlace)
  (hval:∀ (j:Nat) t v,f.params[j]? = some t->args[j]? = some v->Value.okWide P W .any base t v)
  (hW:DataW.Whole enc P f.params.toList s.vars apart W args.toList ds gs before) :
  Calls P fid args W λe W'=>∃ v,e = .returned v/\s.post enc P f apart fresh handsOn again W args v W':=by
 have hW':=hW;obtain⟨p,q,hA,hV,rfl,hfz,hnd⟩:=hW;rw[hvars] at hV;obtain⟨rfl,rfl⟩:=trodVars_none hV;obtain⟨xs,hxs⟩:=TQ hty hA (λj t v a b=>hval j t v (by simpa using a) (by simpa using b));have hcalls:=hc.2 W (nu W) xs args.toList (λb hb=>hb) hxs trivial;refine hcalls.mono ?_;rintro e W' ⟨v,F',rfl,hbel,_,_,hv⟩;have hv':aM P W' F' (λ_ _=>True) (gL .bool true) v:=jV hv;have hvb:=hv'.2;subst hvb;refine⟨_,rfl,?_⟩;have hlen:(ds++[]).length=f.params.size:=by
  have:=trodAll_length hA;simp[this.2]
 have hsf:=hs (ds++[]) hlen;have hlt:∀ x∈p,x.block<W.heap.size:=λx hx=>hW'.lt x (by simp[hx]);refine qxy (pa:=p) (pv:=[]) hW' (λb sp hd=>?_) (λsp hsp=>?_) (λsp _=>?_) (by simp) hbel (ok_one hrt rfl (okWide_bool_mk htb true))
 ·rw[hrt,hsf];exact trodAll_mk1 (shut_bool htb true)
 ·rw[hsf];simp;exact TP hl hr hA (λx hx=>hbel.same (hlt x hx)) (λx hx=>hsp x (by simp[hx]))
 ·rw[hvars,hsf];rfl
end
end Go.Ab
namespace Go.Ab
open Go Go.RowKit
def Ty.flat:Ty->Bool
 |.sl _=>false
 |.fm _=>false
 |.ic _ _=>false
 |.fc _=>false
 |.pair a b=>a.flat&&b.flat
 |_=>true
section
variable {P:Program} {B:Nat} {w w':World} {E:Env} {F F':Nat->Prop} {γ γ':Nat->Value} {m:aY}
def aD.flat:{t:Ty}->t.flat=true -> {x:t.den} -> {g:Nat->Value->Prop}->aD w F t x g->aD w' F' t x g
 |.int _,_,_,_,h=>h
 |.bool,_,_,_,h=>h
 |.str,_,_,_,h=>h
 |.unit,_,_,_,h=>h
 |.sl _,hf,_,_,_=>by simp[Ty.flat] at hf
 |.fm _,hf,_,_,_=>by simp[Ty.flat] at hf
 |.ic _ _,hf,_,_,_=>by simp[Ty.flat] at hf
 |.fc _,hf,_,_,_=>by simp[Ty.flat] at hf
 |.pair a b,hf,_,_,h=>by
  simp only[Ty.flat,uc9] at hf;exact⟨aD.flat hf.1 h.1,aD.flat hf.2 h.2⟩
def bq.flat {t:Ty} (hf:t.flat=true) {x:t.den} {v:Value} (h:bq w F t x v):bq w' F' t x v:=⟨h.1,h.2.1,h.2.2.flat hf⟩
def eK.flat:{ts:List Ty}->ts.all Ty.flat=true -> {x:ae ts} -> {vs:List Value}->eK w F ts x vs->eK w' F' ts x vs
 |[],_,_,_,h=>h
 |t::r,hf,_,_,⟨v,vs',h1,h2,h3⟩=>by
  simp only[ueh,uc9] at hf;exact⟨v,vs',h1,h2.flat hf.1,eK.flat hf.2 h3⟩
def ja.flat:{ts:List Ty}->ts.all Ty.flat=true -> {x:ae ts} -> {v:Value}->ja w F ts x v->ja w' F' ts x v
 |[],hf,_,_,⟨vs,h1,h2⟩=>⟨vs,h1,eK.flat hf h2⟩
 |[t],hf,_,_,h=>by
  simp only[ueh,uc9] at hf;exact bq.flat hf.1 h
 |t::t'::r,hf,_,_,⟨vs,h1,h2⟩=>⟨vs,h1,eK.flat hf h2⟩
def cJ.flat {t:Ty} (hf:t.flat=true) {l:List t.den} {xs:List Value} (h:cJ w F t l xs):cJ w' F' t l xs:=λi x hi=>(h i x hi).flat hf
structure Mt where
 e:TypeId
 T:Ty
 ps:List PT
 rs:List Ty
 f:List T.den->aq ps->List T.den×ae rs
 ok:List T.den->aq ps->List Prop
def N3 (w:World) (mt:Mt) (v:Value) (y:List mt.T.den×ae mt.rs) (e:Ending) (w':World):Prop:=
 ∃ u rows,e = .returned u/\w.grownBy w' v.ownBlock/\w'.ownsRow 0 mt.e mt.T.size v y.1.length rows/\cJ w' (λ_=>False) mt.T y.1 rows/\(∀ u∈rows,u.oneCell'=true)/\ja w' (λ_=>False) mt.rs y.2 u
structure SoundMt (P:Program) (f:FuncId) (mt:Mt):Prop where
 flat:mt.T.flat=true
 flats:mt.rs.all Ty.flat=true
 enters:∀ args w,(callFunc f args).run P w = .ok (.enter f args) w
 calls:∀ (w:World) (F:Nat->Prop) (l:List mt.T.den) (xs:aq mt.ps) (v:Value) (vs rows:List Value),(∀ b,F b->b<w.heap.size)->w.ownsRow 0 mt.e mt.T.size v l.length rows->(∀ g,v.ownBlock=some g->¬ F g) ->
  cJ w F mt.T l rows->(∀ u∈rows,u.oneCell'=true)->v.oneCell'=true->dX P w F mt.ps xs vs->aE (mt.ok l xs)->Calls P f (v::vs).toArray w (N3 w mt v (mt.f l xs))
def oX (Γ:Gm) (f:FuncId) (mt:Mt) (_d:Nat) (g:FuncId) (args:List AV) (s:St):Option Tr:=
 if g=f then match args with
  |.c (.own id)::rest=>match eF s.mem rest with
   |some (xs,u)=>match aK s.mem u id with
    |some (.arr e t l)=>if h:t=mt.T then if e=mt.e then match lD Γ mt.ps xs with
      |some (x,n)=>some (needL (n++mt.ok (dw h l) x) (.leaf (.val (mU mt.rs (mt.f (dw h l) x).2)) ⟨s.n,s.sl,upd (aK s.mem u) id (.arr mt.e mt.T (mt.f (dw h l) x).1),s.gs⟩))
      |none=>none
     else none else none
    |_=>none
   |none=>none
  |_=>none
 else none
def sX {Γ:Gm} (hΓ:hH P Γ) {f:FuncId} {mt:Mt} (h:SoundMt P f mt):kv P (oX Γ f mt):=by
 intro d g args s t ht;unfold oX at ht;split at ht<;>try trivial
 rename_i hg;subst hg;split at ht<;>try trivial
 rename_i id rest;split at ht<;>try trivial
 rename_i xs u hrs;split at ht<;>try trivial
 rename_i e ty l hm1;split at ht<;>try trivial
 rename_i hty;split at ht<;>try trivial
 rename_i hee;split at ht<;>try trivial
 rename_i x n hdec;cases ht;subst hty;subst hee;refine⟨h.enters,λE a w F γ vs Q hi hr hq=>?_⟩;obtain⟨hn,hqv⟩:=kW _ hq;obtain⟨hn1,hn2⟩:=lB.1 hn;cases vs with
 |nil=>exact hr.elim
 |cons v vs=>
  obtain⟨⟨hone,hv⟩,hr⟩:=hr;obtain⟨F1,s1,m1,_,r1⟩:=ko hi.mem (eo hi) (g6 λ_ _ h=>h) hrs hr;have hps:=sy hΓ hdec hn1 r1;have hv1:v=γ id:=by
   have h2:aA (aK s.mem u) γ id v:=s1.hR id v hv;simpa[aA,hm1] using h2
  obtain⟨rows,o1,o2,o3,o4⟩:=m1.ob id _ hm1;rw[<- hv1] at o1 o2;have hblk:∀ g,v.ownBlock=some g->E.B<=g/\g<w.heap.size:=λg hg=>o1.lt g hg;have hc:=h.calls w F1 l x v vs rows s1.bd (Ek o1 (λ_ _=>ufg _)) o2 o3 o4 hone hps hn2;refine hc.mono λen w2 hp=>?_;obtain⟨u2,rows2,rfl,hgr,p1,p2,p3,p4⟩:=hp;have hkeep:∀ b,b<w.heap.size->v.ownBlock≠some b->w2.heap[b]? = w.heap[b]? := λb hb hne=>hgr.block b hb (λh=>hne h.symm);have hBs:=rL hi;have hR:∀ i v',aA (aK s.mem u) γ i v'->aA (upd (aK s.mem u) id (.arr mt.e mt.T (mt.f l x).1)) γ i v':=λi v' hv'=>by
   unfold aA at hv' |-;by_cases hii:i=id
   ·subst hii;rw[hm1] at hv';simpa[upd] using hv'
   ·simpa[upd,hii] using hv'
  have s2:Step E.B w F1 γ (aK s.mem u) w2 F1 γ (upd (aK s.mem u) id (.arr mt.e mt.T (mt.f l x).1)):=
   ⟨λ_ h=>h,λb hb=>hkeep b (s1.bd b hb) (λh=>o2 b h hb),hR,λb hb=>hkeep b (by omega) (λh=>by have:=(hblk b h).1; omega),
    hgr.os,hgr.tape,hgr.output,hgr.size,λb hb=>ub9 (s1.bd b hb) hgr.size,λb hb=>.inl hb⟩
  have hex:∀ i o,upd (aK s.mem u) id (.arr mt.e mt.T (mt.f l x).1) i=some o->∃ o0,aK s.mem u i=some o0/\cQ o0 (γ i)=cQ o (γ i):=λi o ho=>by
   by_cases hii:i=id
   ·subst hii;simp only[upd,if_true,ucj] at ho;subst ho;exact⟨_,hm1,rfl⟩
   ·simp only[upd,if_neg hii] at ho;exact⟨o,ho,rfl⟩
  have m2:MemOK P E.B w2 F1 γ (upd (aK s.mem u) id (.arr mt.e mt.T (mt.f l x).1)):=by
   refine⟨λi o ho=>?_,λi j oi oj b hij hoi hoj hb hb'=>?_⟩
   ·by_cases hii:i=id
    ·subst hii;simp only[upd,if_true,ucj] at ho;subst ho;rw[<- hv1];exact⟨rows2,Ek p1 (λg hg=>(hblk g hg).1),o2,p2.flat h.flat,p3⟩
    ·simp only[upd,if_neg hii] at ho;refine(m1.ob i o ho).keep (λ_ h=>h) (λb hb=>hkeep b (s1.bd b hb) (λh=>o2 b h hb)) hR λb hb=>?_;obtain⟨l1,l2,_⟩:=lI (m1.ob i o ho) hb;refine⟨hkeep b l1 (λhvb=>?_),l2⟩;exact m1.apart i id o _ b hii ho hm1 hb (by rw[<- hv1]; exact hvb)
   ·obtain⟨oi0,a1,a2⟩:=hex i oi hoi;obtain⟨oj0,b1,b2⟩:=hex j oj hoj;exact m1.apart i j oi0 oj0 b hij a1 b1 (a2.trans hb) (b2.trans hb')
  have s3:=s1.trans s2;have hinv:InvG P E ⟨s.n,s.sl,upd (aK s.mem u) id (.arr mt.e mt.T (mt.f l x).1),s.gs⟩ a w2 [] F1 γ:=by
   refine⟨hi.n,hi.df,?_,m2,λt=>(hi.sl t).mono s3.hF s3.hw s3.hR,hi.hg,λt=>s3.repA (hi.gh t)⟩;obtain⟨γ0,h0⟩:=hi.step;exact⟨γ0,h0.trans s3⟩
  exact⟨.val (mU mt.rs (mt.f l x).2),_,F1,γ,hqv,hinv,u2,rfl,CR (p4.flat h.flats)⟩
def ET (n:Nat) (e:TypeId) (T:Ty) (l:List T.den) (args:List AV):St:=
 ⟨n,λi=>(AV.c (.own (bn 0))::args).getD i .dead,λi=>if i=bn 0 then some (.arr e T l) else none,λi=>if i=0 then .c (.own (bn 0)) else .dead⟩
def s7 (P:Program) (rv:List ResultVar) (e:TypeId) (T:Ty) (rs:List Ty) (s:St):Option (Fr (List T.den×ae rs)):=
 match s.gs 0 with
 |.c (.own k)=>match s.mem k with
  |some (.arr e' t l)=>if h:t=T then if e'=e then match gV P s rv with
    |some (vs,n)=>match eF s.mem vs with
     |some (xs,_)=>match iK rs xs with
      |some y=>some (Fr.needL n (.val (dw h l,y)))
      |none=>none
     |none=>none
    |none=>none
   else none else none
  |_=>none
 |_=>none
def jq (P:Program) (rv:List ResultVar) (e:TypeId) (T:Ty) (rs:List Ty):Tr->Option (Fr (List T.den×ae rs))
 |.leaf .ret s=>s7 P rv e T rs s
 |.leaf .normal s=>s7 P rv e T rs s
 |.leaf _ _=>none
 |.br b x y=>match jq P rv e T rs x,jq P rv e T rs y with
  |some x',some y'=>some (.br b x' y')
  |_,_=>none
 |.need p x=>match jq P rv e T rs x with
  |some x'=>some (.need p x')
  |none=>none
 |.two p x y=>match jq P rv e T rs x,jq P rv e T rs y with
  |some x',some y'=>some (.need (p->x'.ok/\x'.get=y'.get) y')
  |_,_=>none
def vZ {rv:List ResultVar} {e:TypeId} {T:Ty} {rs:List Ty}:{t:Tr} -> {f:Fr (List T.den×ae rs)}->jq P rv e T rs t=some f->f.ok->t.sat λx s=>(x = .ret\/x = .normal)/\∃ n,s7 P rv e T rs s=some (Fr.needL n (.val f.get))/\aE n
 |.leaf x s,f,h,hok=>by
  have key:s7 P rv e T rs s=some f->∃ n,s7 P rv e T rs s=some (Fr.needL n (.val f.get))/\aE n:=λh=>by
   have h0:=h;unfold s7 at h;split at h<;>try trivial
   split at h<;>try trivial
   split at h<;>try trivial
   split at h<;>try trivial
   split at h<;>try trivial
   split at h<;>try trivial
   split at h<;>try trivial
   cases h;refine⟨_,?_,(Af _ hok).1⟩;rw[Ad];exact h0
  cases x with
  |exit i=>simp[jq] at h
  |panic i=>simp[jq] at h
  |val i=>simp[jq] at h
  |jump i=>simp[jq] at h
  |normal=>exact⟨.inr rfl,key h⟩
  |ret=>exact⟨.inl rfl,key h⟩
 |.br b x y,f,h,hok=>by
  simp only[jq] at h;split at h<;>try trivial
  rename_i x' y' hx hy;cases h;refine⟨λhb=>?_,λhb=>?_⟩
  ·have:=vZ hx (hok.1 hb);simpa only[Fr.get,hb,if_true] using this
  ·have:=vZ hy (hok.2 hb);simpa only[Fr.get,hb,ub1,ufu] using this
 |.need p x,f,h,hok=>by
  simp only[jq] at h;split at h<;>try trivial
  rename_i x' hx;cases h;have:=vZ hx hok.2;exact⟨hok.1,this⟩
 |.two p x y,f,h,hok=>by
  simp only[jq] at h;split at h<;>try trivial
  rename_i x' y' hx hy;cases h;have h2:=vZ hy hok.2;refine⟨λhp=>?_,h2⟩;have:=vZ hx (hok.1 hp).1
  rwa [(hok.1 hp).2] at this
def EI (P:Program) (C:Cx) (Λ:Nat->St->Option Tr) (fn:Func) (e:TypeId) (T:Ty) (ps:List PT) (rs:List Ty) (l:List T.den) (xs:aq ps):Option (Fr (List T.den×ae rs)):=
 match fn.body with
 |some c=>if (fn.name == "runtime.NumGoroutine")=false/\ps.length+1<=fn.ntmps then match cU P C 0 Λ c 0 (ET fn.ntmps e T l (jU ps xs)) with
   |some t=>jq P fn.results.toList e T rs t
   |none=>none
  else none
 |none=>none
def wy {C:Cx} (hC:CxOK P C) {Λ:Nat->St->Option Tr} {f:FuncId} {fn:Func} {e:TypeId} {T:Ty} {ps:List PT} {rs:List Ty} {fr:List T.den->aq ps->Fr (List T.den×ae rs)} (x0:aq ps)
  (hf:P.funcs[f]? = some fn) (hT:T.flat=true) (hTs:rs.all Ty.flat=true) (hΛ:∀ c E,fn.body=some c->cH P E Λ c 0) (hrun:∀ l xs,EI P C Λ fn e T ps rs l xs=some (fr l xs)) :
  SoundMt P f ⟨e,T,ps,rs,λl xs=>(fr l xs).get,λl xs=>[(fr l xs).ok]⟩:=by
 have h0:=hrun [] x0;unfold EI at h0;split at h0<;>try trivial
 rename_i c hb;split at h0<;>try trivial
 rename_i hc;refine⟨hT,hTs,enters hf hb hc.1,λw F l xs v vs rows hbd hown hnF hrows hcell hone hr hok=>ufe hf hb ?_⟩;have hr':=hrun l xs;unfold EI at hr';simp only[hb,hc,ufs,if_true] at hr';split at hr'<;>try trivial
 rename_i t ht;have hlen:vs.length=ps.length:=wR hr;have hFb:∀ b,F b->(b<w.heap.size/\v.ownBlock≠some b):=λb hb=>⟨hbd b hb,λh=>hnF b h hb⟩;have hps:dX P w (λb=>b<w.heap.size/\v.ownBlock≠some b) ps xs vs:=dX.mono hFb (λ_ _=>rfl) hr;have hargs:∀ R:Nat->Value->Prop,R (bn 0) v->bC P w (λb=>b<w.heap.size/\v.ownBlock≠some b) R (AV.c (.own (bn 0))::jU ps xs) (v::vs):=λR hR=>⟨⟨hone,hR⟩,qm hps⟩;have hstart:I P ⟨w,λb=>b<w.heap.size/\v.ownBlock≠some b,λ_=>v,[],0,ufg _⟩ (ET fn.ntmps e T l (jU ps xs)) { tmps:=(v::vs).toArray++Array.replicate (fn.ntmps-(v::vs).length) undef,defers:=[] } w:=by
  refine⟨_,λ_=>v,?_,rfl,⟨λ_=>undef,⟨λ_ h=>h,λ_ _=>rfl,λ_ _ h=>h.elim,λb hb=>absurd hb (Nat.not_lt_zero b),rfl,rfl,rfl,ufa _,λb hb=>hb.1,λb hb=>.inl hb⟩⟩,⟨λid o ho=>?_,λi j oi oj b hij hi hj=>?_⟩,λt=>?_,λt g want v ht=>?_,λt=>?_⟩
  ·show _=fn.ntmps;simp only[ucn,uco,Array.size_replicate,uc7];omega
  ·have ho':(if id=bn 0 then some (Ob.arr e T l) else none)=some o:=ho;split at ho'
   ·cases ho';exact⟨rows,hown,λg hg h=>h.2 hg,hrows.flat hT,hcell⟩
   ·cases ho'
  ·have hi':(if i=bn 0 then some (Ob.arr e T l) else none)=some oi:=hi;have hj':(if j=bn 0 then some (Ob.arr e T l) else none)=some oj:=hj;split at hi'
   ·split at hj'
    ·rename_i h1 h2;exact absurd (h1.trans h2.symm) hij
    ·cases hj'
   ·cases hi'
  ·have hg:((v::vs).toArray++Array.replicate (fn.ntmps-(v::vs).length) undef).getD t undef=(v::vs).getD t undef:=by
    simp only[uac,uah];rcases ueo t (v::vs).length with hlt|hge
    ·rw[uai (by simpa using hlt)];simp
    ·rw[uad (by simpa using hge),ua2 hge];simp only[uar];split<;>rfl
   show eL P w _ _ _ ((AV.c (.own (bn 0))::jU ps xs).getD t .dead) (((v::vs).toArray++Array.replicate (fn.ntmps-(v::vs).length) undef).getD t undef);rw[hg];exact A6 (tA (hargs _ (by simp[aA,ET])) t)
  ·exfalso;have:=tA (hargs (λ_ _=>True) trivial) t;have ht':(AV.c (.own (bn 0))::jU ps xs).getD t .dead = .maybe g want v:=ht;rw[ht'] at this;exact this
  ·show aM P w _ _ (if t=0 then .c (.own (bn 0)) else .dead) v;split
   ·exact⟨hone,by simp[bh,aA,ET]⟩
   ·trivial
 have hwp:=gF hC c 0 (hΛ c _ hb) ht (vZ hr' hok) hstart;have hsz:((v::vs).toArray).size=(v::vs).length:=by simp
 rw[hsz];refine wp_mono hwp ?_;rintro ex a' w' ⟨xe,s,rfl,⟨F',γ',hi⟩,hxe,n,hend,hnn⟩;have hfin:a'.defers=[]/\∃ u,(results fn a'.tmps).run P w' = .ok u w'/\N3 w ⟨e,T,ps,rs,λl xs=>(fr l xs).get,λl xs=>[(fr l xs).ok]⟩ v (fr l xs).get (.returned u) w':=by
  unfold s7 at hend;split at hend<;>try trivial
  rename_i k hgs;split at hend<;>try trivial
  rename_i e' t' l' hmk;split at hend<;>try trivial
  rename_i hty;split at hend<;>try trivial
  rename_i hee;split at hend<;>try trivial
  rename_i avs n' hres;split at hend<;>try trivial
  rename_i axs u hrs;split at hend<;>try trivial
  rename_i y hdec;injection hend with hend
  obtain⟨hn',hy⟩:=Ae hend hnn;subst hty;subst hee;obtain⟨us,hran,hreps⟩:=qO hi hres hn';obtain⟨F'',hs,hm',_,hxs⟩:=ko hi.mem (eo hi) (g6 λ_ _ h=>h) hrs hreps;obtain⟨γ0,h1⟩:=hi.step;have hgv:v=γ' k:=by
   have h2:=hi.gh 0;rw[hgs] at h2;have h3:aA s.mem γ' k v:=h2.2;simpa[aA,hmk] using h3
  obtain⟨rows2,q1,q2,q3,q4⟩:=hi.mem.ob k _ hmk;rw[<- hgv] at q1;refine⟨hi.df,_,tG hran,_,rows2,rfl,⟨h1.os,h1.tape,h1.output,h1.size,λb hb hne=>h1.hw b ⟨hb,λh=>hne h.symm⟩⟩,?_,?_,q4,?_⟩
  ·rw[<- hy];exact q1
  ·rw[<- hy];exact q3.flat hT
  ·rw[<- hy];exact(A7 (oO hdec hxs)).flat hTs
 rcases hxe with rfl|rfl
 ·exact hfin
 ·exact hfin
def qzu {t:Ty} {l:List t.den} {xs:List Value} (h:cJ w F t l xs):∀ x∈l,Wf t x:=λx hx=>by
 obtain⟨i,hi,rfl⟩:=List.mem_iff_getElem.1 hx;exact aD.wf (h i _ (uap hi))
def qxa {e:TypeId} {size n:Nat} {v:Value} {xs:List Value} (h:w.ownsRow B e size v n xs):n<=maxLen:=by
 rcases h.2 with ⟨_,rfl⟩|⟨g,cap,cur,_,_,_,h1,h2,_⟩
 ·exact ufg _
 ·exact uen h1 h2
def vE {f:FuncId} {mt:Mt} (h:SoundMt P f mt) (g:List mt.T.den->aq mt.ps->List mt.T.den×ae mt.rs) (ok:List mt.T.den->aq mt.ps->List Prop)
  (hg:∀ w F l xs vs,dX P w F mt.ps xs vs->l.length<=maxLen->(∀ x∈l,Wf mt.T x)->aE (ok l xs)->aE (mt.ok l xs)/\mt.f l xs=g l xs):SoundMt P f ⟨mt.e,mt.T,mt.ps,mt.rs,g,ok⟩:=by
 refine⟨h.flat,h.flats,h.enters,λw F l xs v vs rows hb ho hn hr hc h1 hp hok=>?_⟩;obtain⟨h2,h3⟩:=hg w F l xs vs hp (qxa ho) (qzu hr) hok;have:=h.calls w F l xs v vs rows hb ho hn hr hc h1 hp h2;rw[h3] at this;exact this
end
end Go.Ab

namespace Go.Ab
open Go Go.RowKit
def bc {T σ ρ:Type} (step:T->σ->Fr (σ ⊕ ρ)):List T->σ->σ ⊕ ρ
 |[],s=>.inl s
 |x::r,s=>match (step x s).get with
  |.inl s'=>bc step r s'
  |.inr y=>.inr y
def d7 {T σ ρ:Type} (step:T->σ->Fr (σ ⊕ ρ)):List T->σ->Prop
 |[],_=>True
 |x::r,s=>(step x s).ok/\match (step x s).get with
  |.inl s'=>d7 step r s'
  |.inr _=>True
def fg {T σ:Type} (step:T->σ->Fr σ):List T->σ->σ
 |[],s=>s
 |x::r,s=>fg step r (step x s).get
def kX {T σ:Type} (step:T->σ->Fr σ):List T->σ->Prop
 |[],_=>True
 |x::r,s=>(step x s).ok/\kX step r (step x s).get
def bi {σ ρ:Type}:σ ⊕ ρ->Bool
 |.inl _=>true
 |.inr _=>false
def cZ {σ ρ:Type} (d:σ):σ ⊕ ρ->σ
 |.inl s=>s
 |.inr _=>d
def ba {σ ρ:Type} (d:ρ):σ ⊕ ρ->ρ
 |.inl _=>d
 |.inr y=>y
def Rd.up {X Y Z:Type}:Rd Empty Y Z->Rd X Y Z
 |.next x=>nomatch x
 |.out y=>.out y
 |.back z=>.back z
 |.pan p=>.pan p
section
variable {P:Program} {c:Code} {L Eo R:LS} {n id:Nat} {T σ ρ:Type}
structure InL (good:Prop) (u:Int×List T×σ):Prop where
 good:good
 lo:0<=u.1
 hi:u.1<=u.2.1.length
 big:(u.2.1.length:Int)<=9223372036854775807
def FL (step:T->σ->Fr (σ ⊕ ρ)) (un:L.X->Int×List T×σ) (good:L.X->Prop) (bO:σ->Eo.X) (outR:ρ->Rd Empty Eo.X R.X) (d:σ) (d2:ρ) (x:L.X):Fr (Rd L.X Eo.X R.X):=
 Fr.need (InL (good x) (un x)) (Fr.need (d7 step ((un x).2.1.drop (un x).1.toNat) (un x).2.2)
  (Fr.br (bi (bc step ((un x).2.1.drop (un x).1.toNat) (un x).2.2)) (Fr.val (Rd.out (bO (cZ d (bc step ((un x).2.1.drop (un x).1.toNat) (un x).2.2)))))
   (Fr.val (Rd.up (outR (ba d2 (bc step ((un x).2.1.drop (un x).1.toNat) (un x).2.2)))))))
def Mf {fr:L.X->Fr (Rd L.X Eo.X R.X)} (h:ah P c L ⟨n,id,L,Eo,R⟩ fr) (step:T->σ->Fr (σ ⊕ ρ)) (un:L.X->Int×List T×σ) (good:L.X->Prop) (bO:σ->Eo.X) (outR:ρ->Rd Empty Eo.X R.X) (d:σ) (d2:ρ)
  (hround:∀ x,good x->0<=(un x).1->(un x).1<(un x).2.1.length->((un x).2.1.length:Int)<=9223372036854775807->∀ e,(un x).2.1[(un x).1.toNat]? = some e->∀ Q:Rd L.X Eo.X R.X->Prop,
   (step e (un x).2.2).satP (λ
    |.inl s'=>∀ x',un x'=((un x).1+1,(un x).2.1,s')->good x'->Q (.next x')
    |.inr y=>Q (Rd.up (outR y)))->(fr x).satP Q)
  (hend:∀ x,good x->¬ (un x).1<(un x).2.1.length->∀ Q:Rd L.X Eo.X R.X->Prop,Q (.out (bO (un x).2.2))->(fr x).satP Q) :
  ah P (.loop c) L ⟨n,id,L,Eo,R⟩ (FL step un good bO outR d d2):=by
 refine ah.loop (n:=n) (id:=id) h (inv:=λx=>InL (good x) (un x)) (μ:=λx=>(((un x).2.1.length:Int)-(un x).1).toNat) ?_ (λx Q hq=>hq.1);intro x hx Q hq;obtain⟨_,hok,hq1,hq2⟩:=hq;by_cases hi:(un x).1<(un x).2.1.length
 ·have hlo:=hx.lo;have hbig:=hx.big;have hl:(un x).1.toNat<(un x).2.1.length:=by omega
  have e1:(un x).2.1.drop (un x).1.toNat=(un x).2.1[(un x).1.toNat]::(un x).2.1.drop ((un x).1.toNat+1):=ual hl;have hn:((un x).1+1).toNat=(un x).1.toNat+1:=by omega
  rw[e1] at hok hq1 hq2;generalize he:(un x).2.1[(un x).1.toNat]=e at hok hq1 hq2;have he':(un x).2.1[(un x).1.toNat]? = some e:=by rw[uap hl,he]
  refine hround x hx.good hlo hi hbig e he' _ (mH hok.1 ?_);have hok2:=hok.2;simp only[bc] at hq1 hq2;cases hg:(step e (un x).2.2).get with
  |inl s'=>
   simp only[hg] at hok2 hq1 hq2;intro x' hun hgd;have e2:(un x').1=(un x).1+1:=by rw[hun]
   have e3:(un x').2.1=(un x).2.1:=by rw[hun]
   have e4:(un x').2.2=s':=by rw[hun]
   have hin:InL (good x') (un x'):=⟨hgd,by rw[e2]; omega,by rw[e2,e3]; omega,by rw[e3]; exact hbig⟩;refine⟨hin,by rw[e2,e3]; omega,hin,?_,?_,?_⟩
   ·rw[e2,e3,e4,hn]; exact hok2
   ·rw[e2,e3,e4,hn]; exact hq1
   ·rw[e2,e3,e4,hn]; exact hq2
  |inr y=>
   simp only[hg] at hq1 hq2;have:=hq2 rfl;simp only[ba] at this;cases ho:outR y with
   |next x=>exact nomatch x
   |out y2=>rw[ho] at this; simp only[ho,Rd.up]; exact this
   |back z=>rw[ho] at this; simp only[ho,Rd.up]; exact this
   |pan p=>rw[ho] at this; simp only[ho,Rd.up]; exact this
 ·have hl:(un x).2.1.drop (un x).1.toNat=[]:=ua0 (by have:=hx.lo; omega);rw[hl] at hq1;exact hend x hx.good hi _ (hq1 rfl)
def FF (step:T->σ->Fr σ) (un:L.X->Int×List T×σ) (good:L.X->Prop) (bO:σ->Eo.X) (x:L.X):Fr (Rd L.X Eo.X R.X):=
 Fr.need (InL (good x) (un x)) (Fr.need (kX step ((un x).2.1.drop (un x).1.toNat) (un x).2.2)
  (Fr.val (Rd.out (bO (fg step ((un x).2.1.drop (un x).1.toNat) (un x).2.2)))))
def zfr {fr:L.X->Fr (Rd L.X Eo.X R.X)} (h:ah P c L ⟨n,id,L,Eo,R⟩ fr) (step:T->σ->Fr σ) (un:L.X->Int×List T×σ) (good:L.X->Prop) (bO:σ->Eo.X)
  (hround:∀ x,good x->0<=(un x).1->(un x).1<(un x).2.1.length->((un x).2.1.length:Int)<=9223372036854775807->∀ e,(un x).2.1[(un x).1.toNat]? = some e->∀ Q:Rd L.X Eo.X R.X->Prop,
   (step e (un x).2.2).satP (λs'=>∀ x',un x'=((un x).1+1,(un x).2.1,s')->good x'->Q (.next x'))->(fr x).satP Q)
  (hend:∀ x,good x->¬ (un x).1<(un x).2.1.length->∀ Q:Rd L.X Eo.X R.X->Prop,Q (.out (bO (un x).2.2))->(fr x).satP Q) :
  ah P (.loop c) L ⟨n,id,L,Eo,R⟩ (FF step un good bO):=by
 refine ah.loop (n:=n) (id:=id) h (inv:=λx=>InL (good x) (un x)) (μ:=λx=>(((un x).2.1.length:Int)-(un x).1).toNat) ?_ (λx Q hq=>hq.1);intro x hx Q hq;obtain⟨_,hok,hq1⟩:=hq;by_cases hi:(un x).1<(un x).2.1.length
 ·have hlo:=hx.lo;have hbig:=hx.big;have hl:(un x).1.toNat<(un x).2.1.length:=by omega
  have e1:(un x).2.1.drop (un x).1.toNat=(un x).2.1[(un x).1.toNat]::(un x).2.1.drop ((un x).1.toNat+1):=ual hl;have hn:((un x).1+1).toNat=(un x).1.toNat+1:=by omega
  rw[e1] at hok hq1;generalize he:(un x).2.1[(un x).1.toNat]=e at hok hq1;have he':(un x).2.1[(un x).1.toNat]? = some e:=by rw[uap hl,he]
  refine hround x hx.good hlo hi hbig e he' _ (mH hok.1 ?_);intro x' hun hgd;have e2:(un x').1=(un x).1+1:=by rw[hun]
  have e3:(un x').2.1=(un x).2.1:=by rw[hun]
  have e4:(un x').2.2=(step e (un x).2.2).get:=by rw[hun]
  have hin:InL (good x') (un x'):=⟨hgd,by rw[e2]; omega,by rw[e2,e3]; omega,by rw[e3]; exact hbig⟩;refine⟨hin,by rw[e2,e3]; omega,hin,?_,?_⟩
  ·rw[e2,e3,e4,hn]; exact hok.2
  ·rw[e2,e3,e4,hn]; exact hq1
 ·have hl:(un x).2.1.drop (un x).1.toNat=[]:=ua0 (by have:=hx.lo; omega);rw[hl] at hq1;exact hend x hx.good hi _ hq1
def Fr.mapR {α β:Type} (f:α->β):Fr α->Fr β
 |.val x=>.val (f x)
 |.br b x y=>.br b (x.mapR f) (y.mapR f)
 |.need p x=>.need p (x.mapR f)
def rK {α β:Type} {f:α->β} {Q:β->Prop}:{t:Fr α}->t.satP (λx=>Q (f x))->(t.mapR f).satP Q
 |.val _,h=>h
 |.br _ _ _,h=>⟨λhb=>rK (h.1 hb),λhb=>rK (h.2 hb)⟩
 |.need _ _,h=>⟨h.1,rK h.2⟩
inductive Nd|o|n (m:Nd)|z (m:Nd)|g (c v:Bool) (m:Nd)|h (c v:Bool) (m:Nd)|r (m:Nd)|d (m m2:Nd)
def Nd.ins {α:Type} (b z:Prop):Nd->Fr α->Fr α
 |.n m,t=>.need b (m.ins b z t)
 |.z m,t=>.need z (m.ins b z t)
 |.g c v m,t=>.need (c=v->b) (m.ins b z t)
 |.h c v m,t=>.need (c=v->z) (m.ins b z t)
 |.r m,.need p t=>.need p (m.ins b z t)
 |.d m m2,.br c x y=>.br c (m.ins b z x) (m2.ins b z y)
 |_,t=>t
def Nd.ins_sat {α:Type} {b z:Prop} {Q:α->Prop} (hb:b) (hz:z):(m:Nd)->(t:Fr α)->t.satP Q->(m.ins b z t).satP Q
 |.n m,_,q=>⟨hb,m.ins_sat hb hz _ q⟩
 |.z m,_,q=>⟨hz,m.ins_sat hb hz _ q⟩
 |.g _ _ m,_,q=>⟨λ_=>hb,m.ins_sat hb hz _ q⟩
 |.h _ _ m,_,q=>⟨λ_=>hz,m.ins_sat hb hz _ q⟩
 |.r m,.need _ _,q=>⟨q.1,m.ins_sat hb hz _ q.2⟩
 |.r _,.br _ _ _,q=>q
 |.r _,.val _,q=>q
 |.d m m2,.br _ _ _,q=>⟨λe=>m.ins_sat hb hz _ (q.1 e),λe=>m2.ins_sat hb hz _ (q.2 e)⟩
 |.d _ _,.need _ _,q=>q
 |.d _ _,.val _,q=>q
 |.o,_,q=>q
inductive AllQ {α:Type} (K:α->Prop):Fr α->Prop
 |val (x:α):K x->AllQ K (.val x)
 |br (c:Bool) (x y:Fr α):AllQ K x->AllQ K y->AllQ K (.br c x y)
 |need (p:Prop) (x:Fr α):AllQ K x->AllQ K (.need p x)
def AllQ.sat {α:Type} {K Q:α->Prop}:{t:Fr α}->AllQ K t->t.satP Q->t.satP (λr=>K r/\Q r)
 |.val _,.val _ h,q=>⟨h,q⟩
 |.br _ _ _,.br _ _ _ h1 h2,q=>⟨λe=>h1.sat (q.1 e),λe=>h2.sat (q.2 e)⟩
 |.need _ _,.need _ _ h,q=>⟨q.1,h.sat q.2⟩
def VT (un:L.X->Int×List T×σ) (good:L.X->Prop) (up:L.X->σ->L.X) (x:L.X) (s:σ):Prop:=un (up x s)=(I6.wrap ((un x).1+1),(un x).2.1,s)/\good (up x s)
def LZ (un:L.X->Int×List T×σ) (good:L.X->Prop) (up:L.X->σ->L.X) (x:L.X):σ ⊕ ρ->Prop
 |.inl s=>VT un good up x s
 |.inr _=>True
def Kv (up:σ->L.X) (outR:ρ->Rd Empty Eo.X R.X):σ ⊕ ρ->Rd L.X Eo.X R.X
 |.inl s=>.next (up s)
 |.inr y=>Rd.up (outR y)
def Wy {C:Cx} (hC:CxOK P C) {Λ:Nat->St->Option Tr} (hΛ:∀ E,cH P E Λ c 0) (step:T->σ->Fr (σ ⊕ ρ)) (un:L.X->Int×List T×σ) (good:L.X->Prop) (bO:σ->Eo.X) (outR:ρ->Rd Empty Eo.X R.X) (d:σ) (d2:ρ) (nd:T->σ->Nd) (nn:L.X->Int) (el:L.X->T) (b z:L.X->Prop) (up:L.X->σ->L.X)
  (hel:∀ x,good x->0<=(un x).1->(un x).1<(un x).2.1.length->nn x=((un x).2.1.length:Int)/\(un x).2.1[(un x).1.toNat]? = some (el x)/\b x/\z x)
  (hnn:∀ x,good x->¬ (un x).1<(un x).2.1.length->¬ (un x).1<nn x)
  (hr:∀ x,nZ P C 0 Λ c L ⟨n,id,L,Eo,R⟩ x=some (Fr.br (decide ((un x).1<nn x)) (((nd (el x) (un x).2.2).ins (b x) (z x) (step (el x) (un x).2.2)).mapR (Kv (up x) outR)) (Fr.val (Rd.out (bO (un x).2.2)))))
  (hup:∀ x,good x->AllQ (LZ (ρ:=ρ) un good up x) (step (el x) (un x).2.2):=by intro _ h; repeat' first|exact And.intro rfl h|exact trivial|constructor)
  (hM:L.low=true:=by rfl) (hE:Eo.low=true:=by rfl) (hR:R.low=true:=by rfl) :
  ah P (.loop c) L ⟨n,id,L,Eo,R⟩ (FL step un good bO outR d d2):=by
 refine Mf (ah.of_run hC (bs:=0) (Λ:=Λ) hM hE hR hΛ hr) step un good bO outR d d2 ?_ ?_
 ·intro x hg h0 h1 hb e he Q h;obtain⟨e1,e2,e3,e4⟩:=hel x hg h0 h1;have e5:el x=e:=ud1 (e2.symm.trans he);subst e5;refine⟨λ_=>rK (Nd.ins_sat e3 e4 _ _ (Fr.satP_mono (λr hr=>?_) ((hup x hg).sat h))),λhc=>absurd (e1 ▸ h1) (ucf hc)⟩;cases r with
  |inl s=>exact hr.2 _ (hr.1.1.trans (by rw[IntWalk.i64_in _ (by omega)])) hr.1.2
  |inr y=>exact hr.2
 ·intro x hg h1 Q h;exact⟨λhc=>absurd (ucv hc) (hnn x hg h1),λ_=>h⟩
def ln {C:Cx} (hC:CxOK P C) {Λ:Nat->St->Option Tr} {step:T->σ->Fr (σ ⊕ ρ)} {un:L.X->Int×List T×σ} {good:L.X->Prop} {bO:σ->Eo.X} {outR:ρ->Rd Empty Eo.X R.X} {d:σ} {d2:ρ} (nd:T->σ->Nd) (dT:T) (nn:L.X->Int) (up:L.X->σ->L.X) (hn:∀ x,good x->nn x=((un x).2.1.length:Int))
  (hΛ:∀ E,cH P E Λ c 0:=by exact λ_=>bL _ 0)
  (hr:∀ x,nZ P C 0 Λ c L ⟨n,id,L,Eo,R⟩ x=some (Fr.br (decide ((un x).1<nn x)) (((nd ((un x).2.1.getD (un x).1.toNat dT) (un x).2.2).ins (0<=(un x).1/\(un x).1<((un x).2.1.length:Int)) True (step ((un x).2.1.getD (un x).1.toNat dT) (un x).2.2)).mapR (Kv (up x) outR)) (Fr.val (Rd.out (bO (un x).2.2)))):=by intro x; kernel_rfl)
  (hup:∀ x,good x->AllQ (LZ (ρ:=ρ) un good up x) (step ((un x).2.1.getD (un x).1.toNat dT) (un x).2.2):=by intro _ h; repeat' first|exact And.intro rfl h|exact trivial|constructor)
  (hM:L.low=true:=by rfl) (hE:Eo.low=true:=by rfl) (hR:R.low=true:=by rfl) :
  ah P (.loop c) L ⟨n,id,L,Eo,R⟩ (FL step un good bO outR d d2):=
 Wy hC hΛ step un good bO outR d d2 nd nn _ _ _ up (λx hg h0 h1=>⟨hn x hg,by
  rw[uap (by omega),uah,uap (by omega)]; rfl,⟨h0,h1⟩,uT⟩) (λx hg h=>by rw[hn x hg]; exact h) hr hup hM hE hR
def ox {C:Cx} (hC:CxOK P C) {Λ:Nat->St->Option Tr} {T2:Type} {step:T×T2->σ->Fr (σ ⊕ ρ)} {un:L.X->Int×List (T×T2)×σ} {good:L.X->Prop} {bO:σ->Eo.X} {outR:ρ->Rd Empty Eo.X R.X} {d:σ} {d2:ρ} (nd:T×T2->σ->Nd) (dT:T) (dT2:T2) (l1:L.X->List T) (l2:L.X->List T2) (nn:L.X->Int) (up:L.X->σ->L.X) (hn:∀ x,good x->nn x=((l1 x).length:Int)/\(l1 x).length=(l2 x).length)
  (hΛ:∀ E,cH P E Λ c 0:=by exact λ_=>bL _ 0)
  (hr:∀ x,nZ P C 0 Λ c L ⟨n,id,L,Eo,R⟩ x=some (Fr.br (decide ((un x).1<nn x)) (((nd ((l1 x).getD (un x).1.toNat dT,(l2 x).getD (un x).1.toNat dT2) (un x).2.2).ins (0<=(un x).1/\(un x).1<((l1 x).length:Int)) (0<=(un x).1/\(un x).1<((l2 x).length:Int)) (step ((l1 x).getD (un x).1.toNat dT,(l2 x).getD (un x).1.toNat dT2) (un x).2.2)).mapR (Kv (up x) outR)) (Fr.val (Rd.out (bO (un x).2.2)))):=by intro x; kernel_rfl)
  (hl:∀ x,(un x).2.1=(l1 x).zip (l2 x):=by intro _; rfl)
  (hup:∀ x,good x->AllQ (LZ (ρ:=ρ) un good up x) (step ((l1 x).getD (un x).1.toNat dT,(l2 x).getD (un x).1.toNat dT2) (un x).2.2):=by intro _ h; repeat' first|exact And.intro rfl h|exact trivial|constructor)
  (hM:L.low=true:=by rfl) (hE:Eo.low=true:=by rfl) (hR:R.low=true:=by rfl) :
  ah P (.loop c) L ⟨n,id,L,Eo,R⟩ (FL step un good bO outR d d2):=
 Wy hC hΛ step un good bO outR d d2 nd nn _ _ _ up (λx hg h0 h1=>by
  obtain⟨a1,a2⟩:=hn x hg;rw[hl x,udw] at h1 |-;have hi:(un x).1.toNat<(l1 x).length:=by omega
  have hj:(un x).1.toNat<(l2 x).length:=by omega
  refine⟨by rw[a1]; omega,?_,⟨h0,by omega⟩,⟨h0,by omega⟩⟩;rw[uah,uah,uap hi,uap hj,uap (by rw[udw]; omega),List.getElem_zip];rfl) (λx hg h=>by
  obtain⟨a1,a2⟩:=hn x hg;rw[hl x,udw] at h;omega) hr hup hM hE hR
def Bt {C:Cx} (hC:CxOK P C) {Λ:Nat->St->Option Tr} {step:T->σ->Fr σ} {un:L.X->Int×List T×σ} {good:L.X->Prop} {bO:σ->Eo.X} (nd:T->σ->Nd) (dT:T) (nn:L.X->Int) (up:L.X->σ->L.X) (hn:∀ x,good x->nn x=((un x).2.1.length:Int))
  (hΛ:∀ E,cH P E Λ c 0:=by exact λ_=>bL _ 0)
  (hr:∀ x,nZ P C 0 Λ c L ⟨n,id,L,Eo,R⟩ x=some (Fr.br (decide ((un x).1<nn x)) (((nd ((un x).2.1.getD (un x).1.toNat dT) (un x).2.2).ins (0<=(un x).1/\(un x).1<((un x).2.1.length:Int)) True (step ((un x).2.1.getD (un x).1.toNat dT) (un x).2.2)).mapR (λs=>Rd.next (up x s))) (Fr.val (Rd.out (bO (un x).2.2)))):=by intro x; kernel_rfl)
  (hup:∀ x,good x->AllQ (VT un good up x) (step ((un x).2.1.getD (un x).1.toNat dT) (un x).2.2):=by intro _ h; repeat' first|exact And.intro rfl h|exact trivial|constructor)
  (hM:L.low=true:=by rfl) (hE:Eo.low=true:=by rfl) (hR:R.low=true:=by rfl) :
  ah P (.loop c) L ⟨n,id,L,Eo,R⟩ (FF step un good bO):=by
 refine zfr (ah.of_run hC (bs:=0) (Λ:=Λ) hM hE hR hΛ hr) step un good bO ?_ ?_
 ·intro x hg h0 h1 hb e he Q h;have e5:(un x).2.1.getD (un x).1.toNat dT=e:=by rw[uah,he]; rfl
  rw[e5];refine⟨λ_=>rK (Nd.ins_sat ⟨h0,h1⟩ trivial _ _ (Fr.satP_mono (λs hr=>?_) (AllQ.sat (e5 ▸ hup x hg) h))),λhc=>absurd (hn x hg ▸ h1) (ucf hc)⟩;exact hr.2 _ (hr.1.1.trans (by rw[IntWalk.i64_in _ (by omega)])) hr.1.2
 ·intro x hg h1 Q h;exact⟨λhc=>absurd (ucv hc) (by rw[hn x hg]; exact h1),λ_=>h⟩
def iv {step:T->σ->Fr (σ ⊕ ρ)} (h:∀ e s,(step e s).ok):(l:List T)->(s:σ)->d7 step l s
 |[],_=>trivial
 |e::r,s=>by
  refine⟨h e s,?_⟩;split
  ·exact iv h r _
  ·trivial
def Ro {step:T->σ->Fr (σ ⊕ ρ)} {c d:ρ} (h:∀ e s y,(step e s).get = .inr y->y=c):(l:List T)->(s:σ)->bi (bc step l s)=false->ba d (bc step l s)=c
 |[],_,hh=>by cases hh
 |e::r,s,hh=>by
  simp only[bc] at hh |-;cases hg:(step e s).get with
  |inl s'=>
   simp only[hg] at hh |-;exact Ro h r s' hh
  |inr y=>exact h e s y hg
def J3 {T:Type} {l:List T} {i:Nat} {e d:T} (h:l[i]? = some e):l.getD i d=e:=by
 rw[uah,h];rfl
def Wv {i:Int} {n:Nat} (h0:0<=i) (h1:i<n) (h2:(n:Int)<=9223372036854775807):I6.wrap (i+1)=i+1:=IntWalk.i64_in _ (by omega)
def KM {i:Int} {n:Nat} (h0:0<=i) (h1:i<n) (h2:(n:Int)<=9223372036854775807):I6.wrap (i-1)=i-1:=IntWalk.i64_in _ (by omega)
def TF {T:Type} {l:List T} {i:Int} {e d:T} (h:l.getD i.toNat d=e):l.getD (i+1-1).toNat d=e:=by
 rw[show i+1-1=i by omega];exact h
def TG {i:Int} {n:Nat} {b:Bool} (h1:i<n) (hb:b=decide (i>0)) (h:b=true):0<=i-1/\i-1<n:=by
 rw[hb] at h;have:=ucv h;omega
end
end Go.Ab

namespace Go.Ab
open Go Go.RowKit
section
variable {P:Program} {c:Code} {L Eo R:LS} {n id:Nat} {T σ ρ:Type}
structure InD (good:Prop) (u:Int×List T×σ):Prop where
 good:good
 lo : -1<=u.1
 hi:u.1<u.2.1.length
 big:(u.2.1.length:Int)<=9223372036854775807
def FD (step:T->σ->Fr (σ ⊕ ρ)) (un:L.X->Int×List T×σ) (good:L.X->Prop) (bO:σ->Eo.X) (outR:ρ->Rd Empty Eo.X R.X) (d:σ) (d2:ρ) (x:L.X):Fr (Rd L.X Eo.X R.X):=
 Fr.need (InD (good x) (un x)) (Fr.need (d7 step ((un x).2.1.take ((un x).1+1).toNat).reverse (un x).2.2)
  (Fr.br (bi (bc step ((un x).2.1.take ((un x).1+1).toNat).reverse (un x).2.2)) (Fr.val (Rd.out (bO (cZ d (bc step ((un x).2.1.take ((un x).1+1).toNat).reverse (un x).2.2)))))
   (Fr.val (Rd.up (outR (ba d2 (bc step ((un x).2.1.take ((un x).1+1).toNat).reverse (un x).2.2)))))))
def zfq {fr:L.X->Fr (Rd L.X Eo.X R.X)} (h:ah P c L ⟨n,id,L,Eo,R⟩ fr) (step:T->σ->Fr (σ ⊕ ρ)) (un:L.X->Int×List T×σ) (good:L.X->Prop) (bO:σ->Eo.X) (outR:ρ->Rd Empty Eo.X R.X) (d:σ) (d2:ρ)
  (hround:∀ x,good x->0<=(un x).1->(un x).1<(un x).2.1.length->((un x).2.1.length:Int)<=9223372036854775807->∀ e,(un x).2.1[(un x).1.toNat]? = some e->∀ Q:Rd L.X Eo.X R.X->Prop,
   (step e (un x).2.2).satP (λ
    |.inl s'=>∀ x',un x'=((un x).1-1,(un x).2.1,s')->good x'->Q (.next x')
    |.inr y=>Q (Rd.up (outR y)))->(fr x).satP Q)
  (hend:∀ x,good x->¬ (un x).1>=0->∀ Q:Rd L.X Eo.X R.X->Prop,Q (.out (bO (un x).2.2))->(fr x).satP Q) :
  ah P (.loop c) L ⟨n,id,L,Eo,R⟩ (FD step un good bO outR d d2):=by
 refine ah.loop (n:=n) (id:=id) h (inv:=λx=>InD (good x) (un x)) (μ:=λx=>((un x).1+1).toNat) ?_ (λx Q hq=>hq.1);intro x hx Q hq;obtain⟨_,hok,hq1,hq2⟩:=hq;by_cases hi:(un x).1>=0
 ·have hhi:=hx.hi;have hbig:=hx.big;have hl:(un x).1.toNat<(un x).2.1.length:=by omega
  have e1:((un x).2.1.take ((un x).1+1).toNat).reverse=(un x).2.1[(un x).1.toNat]::((un x).2.1.take (un x).1.toNat).reverse:=by
   have e0:((un x).1+1).toNat=(un x).1.toNat+1:=by omega
   rw[e0,<- uas hl,List.reverse_append];rfl
  have hn:((un x).1-1+1).toNat=(un x).1.toNat:=by omega
  rw[e1] at hok hq1 hq2;generalize he:(un x).2.1[(un x).1.toNat]=e at hok hq1 hq2;have he':(un x).2.1[(un x).1.toNat]? = some e:=by rw[uap hl,he]
  refine hround x hx.good hi hhi hbig e he' _ (mH hok.1 ?_);have hok2:=hok.2;simp only[bc] at hq1 hq2;cases hg:(step e (un x).2.2).get with
  |inl s'=>
   simp only[hg] at hok2 hq1 hq2;intro x' hun hgd;have e2:(un x').1=(un x).1-1:=by rw[hun]
   have e3:(un x').2.1=(un x).2.1:=by rw[hun]
   have e4:(un x').2.2=s':=by rw[hun]
   have hin:InD (good x') (un x'):=⟨hgd,by rw[e2]; omega,by rw[e2,e3]; omega,by rw[e3]; exact hbig⟩;refine⟨hin,by rw[e2]; omega,hin,?_,?_,?_⟩
   ·rw[e2,e3,e4,hn]; exact hok2
   ·rw[e2,e3,e4,hn]; exact hq1
   ·rw[e2,e3,e4,hn]; exact hq2
  |inr y=>
   simp only[hg] at hq1 hq2;have:=hq2 rfl;simp only[ba] at this;cases ho:outR y with
   |next x=>exact nomatch x
   |out y2=>rw[ho] at this; simp only[ho,Rd.up]; exact this
   |back z=>rw[ho] at this; simp only[ho,Rd.up]; exact this
   |pan p=>rw[ho] at this; simp only[ho,Rd.up]; exact this
 ·have hl:((un x).2.1.take ((un x).1+1).toNat).reverse=[]:=by
   rw[show((un x).1+1).toNat=0 by omega];rfl
  rw[hl] at hq1;exact hend x hx.good hi _ (hq1 rfl)
end
end Go.Ab
namespace Go.Ab
variable {α:Type} {key:α->Int}
def bS (key:α->Int) (l:List α):Prop:=l.Pairwise λx y=>key x<=key y
def aX (key:α->Int) (l s:List α):Prop:=∀ k,s.filter (λx=>key x==k)=l.filter (λx=>key x==k)
def aX.refl (l:List α):aX key l l:=λ_=>rfl
def aX.trans {a b c:List α} (h:aX key a b) (k:aX key b c):aX key a c:=λn=>(k n).trans (h n)
def aX.symm {a b:List α} (h:aX key a b):aX key b a:=λn=>(h n).symm
def aX.app {a b c d:List α} (h:aX key a b) (k:aX key c d):aX key (a++c) (b++d):=λn=>by simp[h n,k n]
def aX.mem {l s:List α} (h:aX key l s) {x:α}:x∈s↔x∈l:=by
 have:=ufv (x ∈ ·) (h (key x));simpa using this
def aX.swap {a b:List α} (h:∀ x∈a,∀ y∈b,key x≠key y):aX key (a++b) (b++a):=λn=>by
 simp only[uch];by_cases ha:∃ x∈a,key x=n
 ·obtain⟨x,hx,hk⟩:=ha;have hb:b.filter (λx=>key x==n)=[]:=by
   rw[List.filter_eq_nil_iff];intro y hy;have:=h x hx y hy;simp;omega
  rw[hb];simp
 ·have ha':a.filter (λx=>key x==n)=[]:=by
   rw[List.filter_eq_nil_iff];intro y hy hk;exact ha ⟨y,hy,by simpa using hk⟩
  rw[ha'];simp
def aX.eq:{s t:List α}->bS key s->bS key t->aX key s t->s=t
 |[],t,_,_,h=>by
  cases t with
  |nil=>rfl
  |cons y t=>have:=(h.mem (x:=y)).1 (by simp); simp at this
 |x::s,[],_,_,h=>by have:=(h.mem (x:=x)).2 (by simp); simp at this
 |x::s,y::t,hs,ht,h=>by
  have hs':=ub8.1 hs;have ht':=ub8.1 ht;have hxy:key x<=key y:=by
   rcases ueg.1 ((h.mem (x:=y)).1 (by simp)) with e|e
   ·exact ue4 (by rw[e])
   ·exact hs'.1 y e
  have hyx:key y<=key x:=by
   rcases ueg.1 ((h.mem (x:=x)).2 (by simp)) with e|e
   ·exact ue4 (by rw[e])
   ·exact ht'.1 x e
  have hk:key x=key y:=by omega
  have h0:=h (key x);simp only[List.filter_cons,hk,beq_self_eq_true,if_true,udo] at h0;obtain⟨rfl,h0⟩:=h0;have:s=t:=aX.eq hs'.2 ht'.2 λn=>by
   have:=h n;simp only[List.filter_cons] at this;split at this
   ·simpa using this
   ·exact this
  rw[this]
def qA (lt:α->α->Bool) (x:α):List α->List α
 |[]=>[x]
 |y::r=>if lt y x then y::qA lt x r else x::y::r
def bA (lt:α->α->Bool):List α->List α
 |[]=>[]
 |x::r=>qA lt x (bA lt r)
def RX {lt:α->α->Bool} {x:α}:(l:List α)->(qA lt x l).Perm (x::l)
 |[]=>List.Perm.refl _
 |y::r=>by
  simp only[qA];split
  ·exact(List.Perm.cons y (RX r)).trans (List.Perm.swap x y r)
  ·exact List.Perm.refl _
def L9 {lt:α->α->Bool}:(l:List α)->(bA lt l).Perm l
 |[]=>List.Perm.refl _
 |x::r=>(RX _).trans (List.Perm.cons x (L9 r))
def mA {lt:α->α->Bool} (l:List α):(bA lt l).length=l.length:=(L9 l).length_eq
def oa {lt:α->α->Bool} {l:List α} {x:α}:x∈bA lt l↔x∈l:=(L9 l).mem_iff
def cy (lt:α->α->Bool) (key:α->Int) (l:List α):Prop:=∀ x∈l,∀ y∈l,lt x y=decide (key x<key y)
def cy.sub {lt:α->α->Bool} {l s:List α} (h:cy lt key l) (hs:∀ x∈s,x∈l):cy lt key s:=λx hx y hy=>h x (hs x hx) y (hs y hy)
def RY {lt:α->α->Bool} {x:α}:{l:List α}->cy lt key (x::l)->bS key l->bS key (qA lt x l)/\aX key (x::l) (qA lt x l)
 |[],_,_=>⟨uax _ _,aX.refl _⟩
 |y::r,h,hs=>by
  have hs':=ub8.1 hs;have hl:=h y (by simp) x (by simp);simp only[qA];split
  ·rename_i hyx;rw[hyx] at hl;have hlt:key y<key x:=by simpa using hl.symm
   obtain⟨h1,h2⟩:=RY (x:=x) (h.sub (by intro z hz; simp at hz |-; rcases hz with rfl|hz<;>simp[*])) hs'.2;refine⟨ub8.2 ⟨λz hz=>?_,h1⟩,?_⟩
   ·rcases ueg.1 ((h2.mem).1 hz) with rfl|hz
    ·omega
    ·exact hs'.1 z hz
   ·have h3:aX key ([x]++[y]) ([y]++[x]):=aX.swap λa ha b hb=>by simp at ha hb; subst ha; subst hb; omega
    have h4:=h3.app (aX.refl r);have h5:=(aX.refl [y]).app h2;exact h4.trans h5
  ·rename_i hyx;have hf:lt y x=false:=by simpa using hyx
   rw[hf] at hl;have hle:key x<=key y:=by simpa using hl.symm
   exact⟨ub8.2 ⟨λz hz=>by
    rcases ueg.1 hz with rfl|hz
    ·exact hle
    ·exact ue3 hle (hs'.1 z hz),hs⟩,aX.refl _⟩
def gX {lt:α->α->Bool}:{l:List α}->cy lt key l->bS key (bA lt l)/\aX key l (bA lt l)
 |[],_=>⟨List.Pairwise.nil,aX.refl _⟩
 |x::r,h=>by
  obtain⟨h1,h2⟩:=gX (l:=r) (h.sub (by intro z hz; simp[hz]));obtain⟨h3,h4⟩:=RY (x:=x) (h.sub (by
   intro z hz;rcases ueg.1 hz with rfl|hz
   ·simp
   ·simp[oa.1 hz])) h1
  exact⟨h3,aX.trans (aX.app (aX.refl [x]) h2) h4⟩
def kM {lt:α->α->Bool} {l s:List α} (h:cy lt key l) (hs:bS key s) (hk:aX key l s):s=bA lt l:=by
 obtain⟨h1,h2⟩:=gX h;exact aX.eq hs h1 (hk.symm.trans h2)
def bF (lt:α->α->Bool) (a b:Nat) (l:List α):List α:=l.take a++(bA lt ((l.take b).drop a)++l.drop b)
def tg {lt:α->α->Bool} {a b:Nat} {p s q:List α} (ha:p.length=a) (hb:(p++s).length=b):bF lt a b (p++(s++q))=p++(bA lt s++q):=by
 subst ha hb;have h1:(p++(s++q)).take (p++s).length=p++s:=by rw[<- ucp]; exact udx rfl
 have h2:(p++(s++q)).drop (p++s).length=q:=by rw[<- ucp]; exact udy rfl
 unfold bF;rw[h1,h2,udx rfl,udy rfl]
def LB {l:List α} {a b:Nat} (hab:a<=b) (hb:b<=l.length):∃ p s q,l=p++(s++q)/\p.length=a/\s.length=b-a/\q.length=l.length-b:=
 ⟨l.take a,(l.take b).drop a,l.drop b,by
  have h1:(l.take b).take a=l.take a:=by rw[ud6,udn hab]
  rw[<- ucp,<- h1,ua8,ua8],by simp; omega,by simp; omega,by simp⟩
def fX (l:List α) (d:α) (i j:Nat):List α:=(l.set i (l.getD j d)).set j (l.getD i d)
end Go.Ab

namespace Go.Ab
section
variable {α:Type} {key:α->Int} {d:α}
def D0 {p s q:List α} {i:Nat} (h:i<s.length):(p++(s++q)).getD (p.length+i) d=s.getD i d:=by
 simp[uae,uaj h]
def V1 {p r q:List α} {x y:α} {i j:Nat} (hi:i=p.length) (hj:j=p.length+1+r.length):fX (p++(x::(r++(y::q)))) d i j=p++(y::(r++(x::q))):=by
 subst hi hj;unfold fX;have h1:(p++(x::(r++(y::q)))).getD (p.length+1+r.length) d=y:=by
  rw[show p++(x::(r++(y::q)))=(p++[x]++r)++(y::q) by simp];simp only[uah];rw[uae (by simp; omega)];simp[show p.length+1+r.length-(p.length+(r.length+1))=0 by omega]
 have h2:(p++(x::(r++(y::q)))).getD p.length d=x:=by simp
 rw[h1,h2];have h3:(p++(x::(r++(y::q)))).set p.length y=p++(y::(r++(y::q))):=by simp
 rw[h3];rw[show p++(y::(r++(y::q)))=(p++[y]++r)++(y::q) by simp,List.set_append_right _ _ (by simp; omega)];simp[show p.length+1+r.length-(p.length+(r.length+1))=0 by omega]
def V2 {p q:List α} {x y:α} {i:Nat} (hi:i=p.length):fX (p++(x::(y::q))) d i (i+1)=p++(y::(x::q)):=
 V1 (r:=[]) hi (by simp[hi])
def zc8 {l:List α} {i j:Nat} (h:i≠j):fX l d j i=fX l d i j:=by
 unfold fX;rw[List.set_comm _ _ (by omega)]
def V3 {p q:List α} {x y:α} {i:Nat} (hi:i=p.length):fX (p++(x::(y::q))) d (i+1) i=p++(y::(x::q)):=by
 rw[zc8 (by omega),V2 hi]
def fT (lt:α->α->Bool) (d:α) (a:Nat):Nat->List α->List α
 |0,l=>l
 |j+1,l=>if a<j+1 then bif lt (l.getD (j+1) d) (l.getD j d) then fT lt d a j (fX l d (j+1) j) else l else l
def lO (lt:α->α->Bool) (d:α) (a:Nat):Nat->Nat->List α->List α
 |0,_,l=>l
 |n+1,i,l=>lO lt d a n (i+1) (fT lt d a i l)
def UW (s:List α):s=[] \/ ∃ t y,s=t++[y]:=by
 cases h:s.reverse with
 |nil=>exact .inl (by simpa using h)
 |cons y t=>exact .inr ⟨t.reverse,y,by have:=ufv List.reverse h; simpa using this⟩
def RZ {lt:α->α->Bool} {p:List α} {x:α}:(n:Nat)->(s q:List α)->s.length=n->cy lt key (s++[x])->bS key s ->
  ∃ t,fT lt d p.length (p.length+n) (p++(s++(x::q)))=p++(t++q)/\bS key t/\aX key (s++[x]) t
 |0,s,q,hn,_,_=>by
  obtain rfl:=uay.1 hn;refine⟨[x],?_,uax _ _,aX.refl _⟩;cases hp:p.length with
  |zero=>simp[fT]
  |succ j=>simp[fT]
 |n+1,s,q,hn,hl,hs=>by
  rcases UW s with rfl|⟨s',y,rfl⟩
  ·simp at hn
  ·have hn':s'.length=n:=by simpa using hn
   have hs':=ubn.1 hs;have e1:p++((s'++[y])++(x::q))=(p++s')++(y::(x::q)):=by simp
   have hk:=hl x (by simp) y (by simp);have g1:(p++((s'++[y])++(x::q))).getD (p.length+n+1) d=x:=by
    rw[e1];simp only[uah];rw[uae (by simp; omega)];simp[hn']
   have g2:(p++((s'++[y])++(x::q))).getD (p.length+n) d=y:=by
    rw[e1];simp only[uah];simp[hn']
   rw[show p.length+(n+1)=(p.length+n)+1 by omega];simp only[fT,g1,g2];rw[if_pos (by omega),hk];by_cases hlt:key x<key y
   ·simp only[hlt,ufr];rw[e1,V3 (by simp[hn'])];obtain⟨t,h1,h2,h3⟩:=RZ (x:=x) n s' (y::q) hn' (hl.sub (by intro z hz; simp at hz |-; rcases hz with h|h<;>simp[h])) hs'.1;have e2:(p++s')++(x::(y::q))=p++(s'++(x::(y::q))):=by simp
    rw[e2,h1];refine⟨t++[y],by simp,?_,?_⟩
    ·refine ubn.2 ⟨h2,uax _ _,λa ha b hb=>?_⟩;simp at hb;subst hb;rcases udq.1 (h3.mem.1 ha) with h|h
     ·exact hs'.2.2 a h _ (by simp)
     ·simp at h;subst h;omega
    ·have h4:aX key ((s'++[y])++[x]) (s'++[x]++[y]):=by
      rw[ucp,ucp];exact(aX.refl s').app (aX.swap λa ha b hb=>by simp at ha hb; subst ha hb; omega)
     exact h4.trans (h3.app (aX.refl [y]))
   ·simp only[hlt,ufj];refine⟨s'++[y]++[x],by simp,?_,aX.refl _⟩;refine ubn.2 ⟨hs,uax _ _,λa ha b hb=>?_⟩;simp at hb;subst hb;rcases udq.1 ha with h|h
    ·have:=hs'.2.2 a h y (by simp);omega
    ·simp at h;subst h;omega
def Sb {lt:α->α->Bool} {p q:List α}:(u s:List α)->cy lt key (s++u)->bS key s->∃ t,lO lt d p.length u.length (p.length+s.length) (p++(s++(u++q)))=p++(t++q)/\bS key t/\aX key (s++u) t
 |[],s,_,hs=>⟨s,by simp[lO],hs,by simpa using aX.refl s⟩
 |x::u,s,hl,hs=>by
  obtain⟨t,h1,h2,h3⟩:=RZ (x:=x) s.length s (u++q) rfl (hl.sub (by intro z hz; simp at hz |-; rcases hz with h|h<;>simp[h])) hs;have hlen:t.length=s.length+1:=by
   have:=ufv List.length h1;have hd:∀ (n:Nat) (l:List α),(fT lt d p.length n l).length=l.length:=by
    intro n
    induction n with
    |zero=>intro l; rfl
    |succ n ih=>
     intro l;simp only[fT];split
     ·cases lt (l.getD (n+1) d) (l.getD n d)
      ·rfl
      ·simp[ih,fX]
     ·rfl
   rw[hd] at this;simp at this;omega
  obtain⟨t',k1,k2,k3⟩:=Sb u t (hl.sub (by
   intro z hz;rcases udq.1 hz with h|h
   ·have:=h3.mem.1 h;simp at this |-;rcases this with h|h<;>simp[h]
   ·simp[h])) h2
  refine⟨t',?_,k2,?_⟩
  ·simp only[uc7,lO,uc2];rw[h1,show p.length+s.length+1=p.length+t.length by omega];exact k1
  ·have:s++x::u=(s++[x])++u:=by simp
   rw[this];exact(h3.app (aX.refl u)).trans k3
def qot {lt:α->α->Bool} {a b:Nat} {l:List α} (hab:a<=b) (hb:b<=l.length) (hl:cy lt key l):lO lt d a (b-(a+1)) (a+1) l=bF lt a b l:=by
 obtain⟨p,s,q,rfl,hp,hs,_⟩:=LB hab hb;subst hp;cases s with
 |nil=>
  have:b=p.length:=by simp at hs; omega
  subst this;rw[tg rfl (by simp)];simp[lO,bA]
 |cons x u=>
  simp at hs;have hb':b=p.length+(1+u.length):=by omega
  subst hb';rw[tg rfl (by simp; omega)];have hl':=hl.sub λz hz=>ua4 _ (ubh _ hz);obtain⟨t,h1,h2,h3⟩:=Sb (d:=d) u [x] (by simpa using hl') (uax _ _);have e:=kM hl' h2 (by simpa using h3);subst e;rw[<- h1];simp[show p.length+(1+u.length)-(p.length+1)=u.length by omega]
def ow (d:α):Nat->Nat->List α->List α
 |0,_,l=>l
 |n+1,k,l=>ow d n (k+1) (fX l d k (k+1))
def mT (d:α):Nat->Nat->List α->List α
 |0,_,l=>l
 |n+1,k,l=>mT d n (k-1) (fX l d k (k-1))
def VU {x:α}:(s p q:List α)->ow d s.length p.length (p++(x::(s++q)))=p++(s++(x::q))
 |[],p,q=>by simp[ow]
 |y::s,p,q=>by
  simp only[uc7,ow,uc2];rw[V2 rfl];have:=VU (x:=x) s (p++[y]) q;simpa using this
def PE {x:α}:(n:Nat)->(s p q:List α)->s.length=n->mT d n (p.length+n) (p++(s++(x::q)))=p++(x::(s++q))
 |0,s,p,q,h=>by
  obtain rfl:=uay.1 h;simp[mT]
 |n+1,s,p,q,h=>by
  rcases UW s with rfl|⟨s',y,rfl⟩
  ·simp at h
  ·have hn:s'.length=n:=by simpa using h
   rw[show p.length+(n+1)=(p.length+n)+1 by omega];simp only[mT,uby];have e1:p++((s'++[y])++(x::q))=(p++s')++(y::(x::q)):=by simp
   rw[e1,V3 (by simp[hn])];have:=PE (x:=x) n s' p (y::q) hn;simpa using this
def eZ (d:α):Nat->Nat->Nat->List α->List α
 |0,_,_,l=>l
 |n+1,a,b,l=>eZ d n (a+1) (b+1) (fX l d a b)
def Fg:(x z y p q:List α)->x.length=z.length->∀ {b:Nat},b=p.length+x.length+y.length->eZ d x.length p.length b (p++(x++(y++(z++q))))=p++(z++(y++(x++q)))
 |[],z,y,p,q,h,b,hb=>by
  obtain rfl:=uay.1 h.symm;simp[eZ]
 |u::x,[],y,p,q,h,b,hb=>by simp at h
 |u::x,v::z,y,p,q,h,b,hb=>by
  simp only[uc7,eZ,uc2];have e1:p++(u::(x++(y++(v::(z++q)))))=p++(u::((x++y)++(v::(z++q)))):=by simp
  rw[e1,V1 rfl (by simp at hb |-; omega)];have:=Fg x z (y++[u]) (p++[v]) q (by simpa using h) (b:=b+1) (by simp at hb |-; omega);simpa using this
def eC (d:α) (m:Nat):Nat->Nat->Nat->List α->Nat×List α
 |0,i,_,l=>(i,l)
 |f+1,i,j,l=>if i=j then (i,l) else if i>j then eC d m f (i-j) j (eZ d j (m-i) m l) else eC d m f i (j-i) (eZ d i (m-i) (m+j-i) l)
def qP (d:α) (a m b:Nat) (l:List α):List α:=let r:=eC d m (b-a) (m-a) (b-m) l; eZ d r.1 (m-r.1) m r.2
def Lm {m:Nat}:(f:Nat)->(x y p q:List α)->x.length+y.length<=f->0<x.length->0<y.length->m=p.length+x.length ->
  eZ d (eC d m f x.length y.length (p++(x++(y++q)))).1 (m-(eC d m f x.length y.length (p++(x++(y++q)))).1) m (eC d m f x.length y.length (p++(x++(y++q)))).2=p++(y++(x++q))
 |0,x,y,p,q,h,h1,_,_=>by omega
 |f+1,x,y,p,q,h,h1,h2,hm=>by
  simp only[eC];split
  ·rename_i he;subst hm;have:=Fg (d:=d) x y [] p q he (b:=p.length+x.length) (by simp);simpa using this
  ·split
   ·rename_i hne hgt;obtain⟨x1,x2,rfl,hx1⟩:∃ x1 x2,x=x1++x2/\x1.length=y.length:=⟨x.take y.length,x.drop y.length,by simp,by simp; omega⟩;simp only[ub4] at hm h hgt h1 |-;have e:=Fg (d:=d) x1 y x2 p q hx1 (b:=m) (by omega);have e0:m-(x1.length+x2.length)=p.length:=by omega
    rw[e0,<- hx1];rw[show p++(x1++x2++(y++q))=p++(x1++(x2++(y++q))) by simp,e];have:=Lm (m:=m) f x2 x1 (p++y) q (by omega) (by omega) (by omega) (by simp; omega);rw[show x1.length+x2.length-x1.length=x2.length by omega];simpa using this
   ·rename_i hne hgt;obtain⟨y1,y2,rfl,hy2⟩:∃ y1 y2,y=y1++y2/\y2.length=x.length:=⟨y.take (y.length-x.length),y.drop (y.length-x.length),by simp,by simp; omega⟩;simp only[ub4] at hm h hgt h2 hne |-;have e:=Fg (d:=d) x y2 y1 p q hy2.symm (b:=m+(y1.length+y2.length)-x.length) (by omega);have e0:m-x.length=p.length:=by omega
    rw[e0];rw[show p++(x++(y1++y2++q))=p++(x++(y1++(y2++q))) by simp,e];have:=Lm (m:=m) f y2 y1 p (x++q) (by omega) (by omega) (by omega) (by omega);rw[show y1.length+y2.length-x.length=y1.length by omega,<- hy2];simpa using this
def Uw {a m b:Nat} {x y p q:List α} (h1:0<x.length) (h2:0<y.length) (ha:a=p.length) (hm:m=a+x.length) (hb:b=m+y.length):qP d a m b (p++(x++(y++q)))=p++(y++(x++q)):=by
 have:=Lm (d:=d) (m:=m) (b-a) x y p q (by omega) h1 h2 (by omega);unfold qP;rw[show m-a=x.length by omega,show b-m=y.length by omega];exact this
def cK (Q:Nat->Bool):Nat->Nat->Nat->Nat
 |0,i,_=>i
 |f+1,i,j=>if i<j then bif Q ((i+j)/2) then cK Q f ((i+j)/2+1) j else cK Q f i ((i+j)/2) else i
def ym {Q:Nat->Bool}:(f i j:Nat)->j-i<=f->i<=j->(∀ u v,i<=u->u<=v->v<j->Q v=true->Q u=true) ->
  i<=cK Q f i j/\cK Q f i j<=j/\(∀ k,i<=k->k<cK Q f i j->Q k=true)/\(∀ k,cK Q f i j<=k->k<j->Q k=false)
 |0,i,j,h,hij,_=>by
  simp only[cK];exact⟨ufa _,hij,λk h1 h2=>by omega,λk h1 h2=>by omega⟩
 |f+1,i,j,h,hij,hmono=>by
  simp only[cK];by_cases hlt:i<j
  ·rw[if_pos hlt];cases hq:Q ((i+j)/2) with
   |true=>
    simp only[ufr];obtain⟨a1,a2,a3,a4⟩:=ym (Q:=Q) f ((i+j)/2+1) j (by omega) (by omega) (λu v hu huv hv=>hmono u v (by omega) huv hv);refine⟨by omega,a2,λk h1 h2=>?_,a4⟩;by_cases hk:k<=(i+j)/2
    ·exact hmono k _ h1 hk (by omega) hq
    ·exact a3 k (by omega) h2
   |false=>
    simp only[ufj];obtain⟨a1,a2,a3,a4⟩:=ym (Q:=Q) f i ((i+j)/2) (by omega) (by omega) (λu v hu huv hv=>hmono u v hu huv (by omega));refine⟨a1,by omega,a3,λk h1 h2=>?_⟩;by_cases hk:k<(i+j)/2
    ·exact a4 k h1 hk
    ·cases hqk:Q k with
     |false=>rfl
     |true=>rw[hmono _ k (by omega) (by omega) h2 hqk] at hq; cases hq
  ·rw[if_neg hlt];exact⟨ufa _,hij,λk h1 h2=>by omega,λk h1 h2=>by omega⟩
end
end Go.Ab

namespace Go.Ab
section
variable {α:Type} {key:α->Int} {d:α}
def bf (a b:Nat) (l:List α):List α:=(l.take b).drop a
def tK {p s q:List α} {a b:Nat} (ha:p.length=a) (hb:a+s.length=b):bf a b (p++(s++q))=s:=by
 subst ha hb;unfold bf;have h1:(p++(s++q)).take (p.length+s.length)=p++s:=by rw[<- ucp]; exact udx (by simp)
 rw[h1,udy rfl]
def UP {l:List α} {a m b:Nat} (h1:a<=m) (h2:m<=b) (h3:b<=l.length):∃ p q,l=p++(bf a m l++(bf m b l++q))/\p.length=a/\(bf a m l).length=m-a/\(bf m b l).length=b-m/\q.length=l.length-b:=by
 obtain⟨p,s,q,rfl,hp,hs,hq⟩:=LB (uen h1 h2) h3;obtain⟨x,y,rfl,hx⟩:∃ x y,s=x++y/\x.length=m-a:=⟨s.take (m-a),s.drop (m-a),by simp,by simp; omega⟩;have hy:y.length=b-m:=by simp at hs; omega
 have e1:bf a m (p++(x++y++q))=x:=by
  rw[ucp];exact tK hp (by omega)
 have e2:bf m b (p++(x++y++q))=y:=by
  rw[show p++(x++y++q)=(p++x)++(y++q) by simp];exact tK (by simp; omega) (by omega)
 rw[e1,e2];exact⟨p,q,by simp,hp,hx,hy,by omega⟩
def th {lt:α->α->Bool} {a b:Nat} {l:List α} (h1:a<=b) (h2:b<=l.length):(bF lt a b l).length=l.length:=by
 unfold bF;simp[mA];omega
def UX {lt:α->α->Bool} {l:List α} (h:cy lt key l) (hs:bS key l):bA lt l=l:=(kM h hs (aX.refl l)).symm
def KE {lt:α->α->Bool} {a b:Nat} {l:List α} (hab:a<=b) (hb:b<=l.length) (hl:cy lt key l):aX key l (bF lt a b l):=by
 obtain⟨p,s,q,rfl,hp,hs,_⟩:=LB hab hb;rw[tg hp (by simp; omega)];have h:=(gX (l:=s) (hl.sub λz hz=>ua4 _ (ubh _ hz))).2;exact(aX.refl p).app (h.app (aX.refl q))
def ep (lt:α->α->Bool) (d:α) (a m b:Nat) (l:List α):Nat:=
 cK (λc=>!lt (l.getD ((a+b)/2+m-1-c) d) (l.getD c d)) ((if (a+b)/2<m then (a+b)/2 else m)-(if (a+b)/2<m then (a+b)/2+m-b else a)) (if (a+b)/2<m then (a+b)/2+m-b else a) (if (a+b)/2<m then (a+b)/2 else m)
def du (d:α) (m st en:Nat) (l:List α):List α:=if st<m/\m<en then qP d st m en l else l
def ri (lt:α->α->Bool) (d:α) (a m b:Nat) (l:List α):List α:=
 if m-a=1 then ow d (cK (λh=>lt (l.getD h d) (l.getD a d)) (b-m) m b-1-a) a l
 else if b-m=1 then mT d (m-cK (λh=>!lt (l.getD m d) (l.getD h d)) (m-a) a m) m l
 else
  let st:=ep lt d a m b l
  let aV:=(a+b)/2
  let en:=aV+m-st
  let l1:=du d m st en l
  let l2:=if a<st/\st<aV then bF lt a aV l1 else l1
  if aV<en/\en<b then bF lt aV b l2 else l2
def qD {l:List α} {i j:Nat} (hs:bS key l) (hij:i<=j) (hj:j<l.length):key (l.getD i d)<=key (l.getD j d):=by
 rcases ueo i j with h|h
 ·have:=List.pairwise_iff_getElem.1 hs i j (by omega) hj h;simpa[uah,uap hj,uap (show i<l.length by omega)] using this
 ·have:i=j:=by omega
  subst this;exact ufb _
def eh {l:List α} {i:Nat} (h:i<l.length):l.getD i d∈l:=by
 simp[uah,uap h]
def qo {l:List α} {x:α} (h:x∈l):∃ i,i<l.length/\l.getD i d=x:=by
 obtain⟨i,hi,rfl⟩:=List.getElem_of_mem h;exact⟨i,hi,by simp[uah,uap hi]⟩
def V7 {lt:α->α->Bool} {a m b:Nat} {p A B q:List α} (hp:p.length=a) (hA:A.length=m-a) (hB:B.length=b-m) (h1:a<m) (h2:m<b)
  (hl:cy lt key (A++B)) (sA:bS key A) (sB:bS key B) :
  ∃ A1 A2 B1 B2,A=A1++A2/\B=B1++B2/\a+A1.length=ep lt d a m b (p++(A++(B++q)))/\m+B1.length+ep lt d a m b (p++(A++(B++q)))=(a+b)/2+m /\
   (∀ x∈A1,∀ y∈B2,key x<=key y)/\(∀ y∈B1,∀ x∈A2,key y<key x):=by
 have gA:∀ i,i<A.length->(p++(A++(B++q))).getD (a+i) d=A.getD i d:=λi hi=>by rw[<- hp]; exact D0 hi
 have gB:∀ i,i<B.length->(p++(A++(B++q))).getD (m+i) d=B.getD i d:=λi hi=>by
  rw[show p++(A++(B++q))=(p++A)++(B++q) by simp,show m=(p++A).length by simp; omega];exact D0 hi
 generalize hL:p++(A++(B++q))=L at gA gB |-;have hQ:∀ c,a<=c->c<m->m<=(a+b)/2+m-1-c->(a+b)/2+m-1-c<b ->
   (!lt (L.getD ((a+b)/2+m-1-c) d) (L.getD c d))=decide (key (A.getD (c-a) d)<=key (B.getD ((a+b)/2+m-1-c-m) d)):=λc c1 c2 c3 c4=>by
  have e1:=gA (c-a) (by omega);have e2:=gB ((a+b)/2+m-1-c-m) (by omega);rw[show a+(c-a)=c by omega] at e1;rw[show m+((a+b)/2+m-1-c-m)=(a+b)/2+m-1-c by omega] at e2;rw[e1,e2,hl _ (ua4 _ (eh (by omega))) _ (ubh _ (eh (by omega)))];rw[udv];simp
 generalize hs0:(if (a+b)/2<m then (a+b)/2+m-b else a)=s0;generalize hr0:(if (a+b)/2<m then (a+b)/2 else m)=r0;have b1:a<=s0/\s0<=r0/\r0<=m/\r0<=(a+b)/2/\(a+b)/2+m<=b+s0/\(s0=a\/s0+b=(a+b)/2+m)/\(r0=m\/r0=(a+b)/2):=by
  subst hs0 hr0;split<;>omega
 obtain⟨c1,c2,c3,c4,c5,c6,c7⟩:=b1;obtain⟨r1,r2,r3,r4⟩:=ym (Q:=λc=>!lt (L.getD ((a+b)/2+m-1-c) d) (L.getD c d)) (r0-s0) s0 r0 (ufa _) c2 (λu v hu huv hv h=>by
  rw[hQ v (by omega) (by omega) (by omega) (by omega)] at h;rw[hQ u (by omega) (by omega) (by omega) (by omega)];simp only[ucs] at h |-;have k1:=qD (d:=d) sA (i:=u-a) (j:=v-a) (by omega) (by omega);have k2:=qD (d:=d) sB (i:=(a+b)/2+m-1-v-m) (j:=(a+b)/2+m-1-u-m) (by omega) (by omega);omega)
 have hS:ep lt d a m b L=cK (λc=>!lt (L.getD ((a+b)/2+m-1-c) d) (L.getD c d)) (r0-s0) s0 r0:=by
  unfold ep;rw[hs0,hr0]
 rw[hS];generalize cK (λc=>!lt (L.getD ((a+b)/2+m-1-c) d) (L.getD c d)) (r0-s0) s0 r0=st at r1 r2 r3 r4 |-;refine⟨A.take (st-a),A.drop (st-a),B.take ((a+b)/2-st),B.drop ((a+b)/2-st),by simp,by simp,?_,?_,?_,?_⟩
 ·simp; omega
 ·simp; omega
 ·intro x hx y hy;obtain⟨i,hi,rfl⟩:=qo (d:=d) hx;obtain⟨j,hj,rfl⟩:=qo (d:=d) hy;simp at hi hj;have e1:(A.take (st-a)).getD i d=A.getD i d:=by simp[uah,show i<st-a by omega]
  have e2:(B.drop ((a+b)/2-st)).getD j d=B.getD ((a+b)/2-st+j) d:=by simp[uah]
  rw[e1,e2];have hq:=r3 (st-1) (by omega) (by omega);rw[hQ (st-1) (by omega) (by omega) (by omega) (by omega)] at hq;simp only[ucs] at hq;have k1:=qD (d:=d) sA (i:=i) (j:=st-1-a) (by omega) (by omega);have k2:=qD (d:=d) sB (i:=(a+b)/2+m-1-(st-1)-m) (j:=(a+b)/2-st+j) (by omega) (by omega);omega
 ·intro y hy x hx;obtain⟨i,hi,rfl⟩:=qo (d:=d) hx;obtain⟨j,hj,rfl⟩:=qo (d:=d) hy;simp at hi hj;have e1:(A.drop (st-a)).getD i d=A.getD (st-a+i) d:=by simp[uah]
  have e2:(B.take ((a+b)/2-st)).getD j d=B.getD j d:=by simp[uah,show j<(a+b)/2-st by omega]
  rw[e1,e2];have hq:=r4 st (ufa _) (by omega);rw[hQ st (by omega) (by omega) (by omega) (by omega)] at hq;simp only[uau] at hq;have k1:=qD (d:=d) sA (i:=st-a) (j:=st-a+i) (by omega) (by omega);have k2:=qD (d:=d) sB (i:=j) (j:=(a+b)/2+m-1-st-m) (by omega) (by omega);omega
def zcc {lt:α->α->Bool} {A1 A2 B1 B2:List α} (hl:cy lt key ((A1++A2)++(B1++B2))) (sA:bS key (A1++A2)) (sB:bS key (B1++B2)) (h1:∀ x∈A1,∀ y∈B2,key x<=key y) (h2:∀ y∈B1,∀ x∈A2,key y<key x) :
  bA lt (A1++B1)++bA lt (A2++B2)=bA lt ((A1++A2)++(B1++B2)):=by
 have l1:cy lt key (A1++B1):=hl.sub λz hz=>by simp at hz |-; rcases hz with h|h<;>simp[h]
 have l2:cy lt key (A2++B2):=hl.sub λz hz=>by simp at hz |-; rcases hz with h|h<;>simp[h]
 obtain⟨s1,k1⟩:=gX l1;obtain⟨s2,k2⟩:=gX l2;have pA:=ubn.1 sA;have pB:=ubn.1 sB;refine kM hl (ubn.2 ⟨s1,s2,λx hx y hy=>?_⟩) ?_
 ·rw[oa] at hx hy;rcases udq.1 hx with hx|hx<;>rcases udq.1 hy with hy|hy
  ·exact pA.2.2 x hx y hy
  ·exact h1 x hx y hy
  ·exact ues (h2 x hx y hy)
  ·exact pB.2.2 x hx y hy
 ·have e1:aX key (A1++(A2++B1)++B2) (A1++(B1++A2)++B2):=((aX.refl A1).app (aX.swap λx hx y hy=>by have:=h2 y hy x hx; omega)).app (aX.refl B2);have e2:=k1.app k2;have e1':aX key ((A1++A2)++(B1++B2)) ((A1++B1)++(A2++B2)):=by simpa using e1
  exact e1'.trans e2
def zdc {lt:α->α->Bool} {a m b:Nat} {p A B q:List α} (hp:p.length=a) (hA:A.length=m-a) (hB:B.length=b-m) (h1:a<m) (h2:m<b)
  (hl:cy lt key (A++B)) (sA:bS key A) (sB:bS key B):ri lt d a m b (p++(A++(B++q)))=p++(bA lt (A++B)++q):=by
 unfold ri;split
 ·
  rename_i hm;cases A with
  |nil=>simp at hA; omega
  |cons x A=>
   obtain rfl:A=[]:=by simp at hA; exact uay.1 (by omega)
   have gx:(p++([x]++(B++q))).getD a d=x:=by subst hp; simp[uah]
   have gB:∀ i,i<B.length->(p++([x]++(B++q))).getD (m+i) d=B.getD i d:=λi hi=>by
    rw[show p++([x]++(B++q))=(p++[x])++(B++q) by simp,show m=(p++[x]).length by simp; omega];exact D0 hi
   have hQ:∀ k,m<=k->k<b->lt ((p++([x]++(B++q))).getD k d) ((p++([x]++(B++q))).getD a d)=decide (key (B.getD (k-m) d)<key x):=λk k1 k2=>by
    have:=gB (k-m) (by omega);rw[show m+(k-m)=k by omega] at this;rw[this,gx];exact hl _ (ua4 _ (eh (by omega))) _ (by simp)
   obtain⟨r1,r2,r3,r4⟩:=ym (Q:=λh=>lt ((p++([x]++(B++q))).getD h d) ((p++([x]++(B++q))).getD a d)) (b-m) m b (ufa _) (by omega) (λu v hu huv hv h=>by
    rw[hQ v (by omega) hv] at h;rw[hQ u hu (by omega)];simp only[ucs] at h |-;have:=qD (d:=d) sB (i:=u-m) (j:=v-m) (by omega) (by omega);omega)
   generalize cK (λh=>lt ((p++([x]++(B++q))).getD h d) ((p++([x]++(B++q))).getD a d)) (b-m) m b=r at r1 r2 r3 r4 |-;obtain⟨B1,B2,rfl,hB1⟩:∃ B1 B2,B=B1++B2/\B1.length=r-m:=⟨B.take (r-m),B.drop (r-m),by simp,by simp; omega⟩;have hB':B1.length+B2.length=b-m:=by simpa using hB
   have f1:∀ y∈B1,key y<key x:=λy hy=>by
    obtain⟨j,hj,rfl⟩:=qo (d:=d) hy;have:=r3 (m+j) (by omega) (by omega);rw[hQ (m+j) (by omega) (by omega)] at this;simp only[ucs,uaw] at this
    rwa [show(B1++B2).getD j d=B1.getD j d by simp[uah,uaj hj]] at this
   have f2:∀ y∈B2,key x<=key y:=λy hy=>by
    obtain⟨j,hj,rfl⟩:=qo (d:=d) hy;have:=r4 (r+j) (by omega) (by omega);rw[hQ (r+j) (by omega) (by omega)] at this;simp only[uau] at this;rw[show(B1++B2).getD (r+j-m) d=B2.getD j d by
     simp only[uah];rw[uae (by omega),show r+j-m-B1.length=j by omega]] at this
    omega
   rw[show r-1-a=B1.length by omega];have hup:=VU (d:=d) (x:=x) B1 p (B2++q);rw[hp] at hup;have e0:p++([x]++(B1++B2++q))=p++(x::(B1++(B2++q))):=by simp
   rw[e0,hup];have pB:=ubn.1 sB;have hS:B1++(x::B2)=bA lt ([x]++(B1++B2)):=by
    refine kM hl (ubn.2 ⟨pB.1,ub8.2 ⟨λy hy=>f2 y hy,pB.2.1⟩,λy hy z hz=>?_⟩) ?_
    ·rcases ueg.1 hz with rfl|hz
     ·exact ues (f1 y hy)
     ·exact pB.2.2 y hy z hz
    ·have e1:aX key (([x]++B1)++B2) ((B1++[x])++B2):=(aX.swap λu hu y hy=>by simp at hu; subst hu; have:=f1 y hy; omega).app (aX.refl B2);simpa using e1
   rw[<- hS];simp
 ·split
  ·
   rename_i _ hm;cases B with
   |nil=>simp at hB; omega
   |cons x B=>
    obtain rfl:B=[]:=by simp at hB; exact uay.1 (by omega)
    have gx:(p++(A++([x]++q))).getD m d=x:=by
     rw[show p++(A++([x]++q))=(p++A)++(x::q) by simp,show m=(p++A).length by simp; omega];simp only[uah];rw[uae (ufa _)];simp
    have gA:∀ i,i<A.length->(p++(A++([x]++q))).getD (a+i) d=A.getD i d:=λi hi=>by rw[<- hp]; exact D0 hi
    have hQ:∀ k,a<=k->k<m->(!lt ((p++(A++([x]++q))).getD m d) ((p++(A++([x]++q))).getD k d))=decide (key (A.getD (k-a) d)<=key x):=λk k1 k2=>by
     have:=gA (k-a) (by omega);rw[show a+(k-a)=k by omega] at this;rw[this,gx,hl _ (ua4 _ (by simp)) _ (ubh _ (eh (by omega))),udv];simp
    obtain⟨r1,r2,r3,r4⟩:=ym (Q:=λh=>!lt ((p++(A++([x]++q))).getD m d) ((p++(A++([x]++q))).getD h d)) (m-a) a m (ufa _) (by omega) (λu v hu huv hv h=>by
     rw[hQ v (by omega) hv] at h;rw[hQ u hu (by omega)];simp only[ucs] at h |-;have:=qD (d:=d) sA (i:=u-a) (j:=v-a) (by omega) (by omega);omega)
    generalize cK (λh=>!lt ((p++(A++([x]++q))).getD m d) ((p++(A++([x]++q))).getD h d)) (m-a) a m=r at r1 r2 r3 r4 |-;obtain⟨A1,A2,rfl,hA1⟩:∃ A1 A2,A=A1++A2/\A1.length=r-a:=⟨A.take (r-a),A.drop (r-a),by simp,by simp; omega⟩;have hA':A1.length+A2.length=m-a:=by simpa using hA
    have f1:∀ y∈A1,key y<=key x:=λy hy=>by
     obtain⟨j,hj,rfl⟩:=qo (d:=d) hy;have:=r3 (a+j) (by omega) (by omega);rw[hQ (a+j) (by omega) (by omega)] at this;simp only[ucs,uaw] at this
     rwa [show(A1++A2).getD j d=A1.getD j d by simp[uah,uaj hj]] at this
    have f2:∀ y∈A2,key x<key y:=λy hy=>by
     obtain⟨j,hj,rfl⟩:=qo (d:=d) hy;have:=r4 (r+j) (by omega) (by omega);rw[hQ (r+j) (by omega) (by omega)] at this;simp only[uau] at this;rw[show(A1++A2).getD (r+j-a) d=A2.getD j d by
      simp only[uah];rw[uae (by omega),show r+j-a-A1.length=j by omega]] at this
     omega
    have hdn:=PE (d:=d) (x:=x) A2.length A2 (p++A1) q rfl;have e0:p++(A1++A2++([x]++q))=(p++A1)++(A2++(x::q)):=by simp
    have e1:m=(p++A1).length+A2.length:=by simp; omega
    rw[e0,show m-r=A2.length by omega];rw[<- e1] at hdn;rw[hdn];have pA:=ubn.1 sA;have hS:A1++(x::A2)=bA lt ((A1++A2)++[x]):=by
     refine kM hl (ubn.2 ⟨pA.1,ub8.2 ⟨λy hy=>ues (f2 y hy),pA.2.1⟩,λy hy z hz=>?_⟩) ?_
     ·rcases ueg.1 hz with rfl|hz
      ·exact f1 y hy
      ·exact pA.2.2 y hy z hz
     ·have e1:aX key (A1++(A2++[x])) (A1++([x]++A2)):=(aX.refl A1).app (aX.swap λu hu y hy=>by simp at hy; subst hy; have:=f2 u hu; omega);simpa using e1
    rw[<- hS];simp
  ·
   obtain⟨A1,A2,B1,B2,rfl,rfl,e1,e2,f1,f2⟩:=V7 (d:=d) (q:=q) hp hA hB h1 h2 hl sA sB;simp only;generalize ep lt d a m b (p++(A1++A2++(B1++B2++q)))=st at e1 e2 |-;simp only[ub4] at hA hB;have hen:(a+b)/2+m-st=m+B1.length:=by omega
   rw[hen];have hR:du d m st (m+B1.length) (p++(A1++A2++(B1++B2++q)))=p++(A1++B1++(A2++B2++q)):=by
    unfold du;split
    ·rename_i hc;have:=Uw (d:=d) (a:=st) (m:=m) (b:=m+B1.length) (x:=A2) (y:=B1) (p:=p++A1) (q:=B2++q) (by omega) (by omega) (by simp; omega) (by omega) rfl;simpa using this
    ·rename_i hc;by_cases hb1:B1=[]
     ·subst hb1; simp
     ·have:=ubx.2 hb1;have:A2=[]:=uay.1 (by omega);subst this; simp
   rw[hR];have l1:cy lt key (A1++B1):=hl.sub λz hz=>by simp at hz |-; rcases hz with h|h<;>simp[h]
   have l2:cy lt key (A2++B2):=hl.sub λz hz=>by simp at hz |-; rcases hz with h|h<;>simp[h]
   have pA:=ubn.1 sA;have pB:=ubn.1 sB;have hmid:(a+b)/2=a+(A1.length+B1.length):=by omega
   have hL:(if a<st/\st<(a+b)/2 then bF lt a ((a+b)/2) (p++(A1++B1++(A2++B2++q))) else p++(A1++B1++(A2++B2++q)))=p++(bA lt (A1++B1)++(A2++B2++q)):=by
    split
    ·exact tg hp (by simp; omega)
    ·rename_i hc;have:bA lt (A1++B1)=A1++B1:=by
      refine UX l1 ?_;by_cases ha1:A1=[]
      ·subst ha1; simpa[bS] using pB.1
      ·have:=ubx.2 ha1;have:B1=[]:=uay.1 (by omega);subst this;simpa[bS] using pA.1
     rw[this]
   rw[hL];have hRt:(if (a+b)/2<m+B1.length/\m+B1.length<b then bF lt ((a+b)/2) b (p++(bA lt (A1++B1)++(A2++B2++q))) else p++(bA lt (A1++B1)++(A2++B2++q)))=p++(bA lt (A1++B1)++(bA lt (A2++B2)++q)):=by
    split
    ·have:=tg (lt:=lt) (a:=(a+b)/2) (b:=b) (p:=p++bA lt (A1++B1)) (s:=A2++B2) (q:=q) (by simp[mA]; omega) (by simp[mA]; omega);simpa using this
    ·rename_i hc;have:bA lt (A2++B2)=A2++B2:=by
      refine UX l2 ?_;by_cases ha1:A2=[]
      ·subst ha1; simpa[bS] using pB.2.1
      ·have:=ubx.2 ha1;have:B2=[]:=uay.1 (by omega);subst this;simpa[bS] using pA.2.1
     rw[this]
   rw[hRt,<- zcc hl sA sB f1 f2];simp
end
end Go.Ab

namespace Go.Ab
section
variable {α:Type} {key:α->Int}
def UM {lt:α->α->Bool} {a b a' b':Nat} {l:List α} (h1:b'<=a) (h2:a<=l.length):bf a' b' (bF lt a b l)=bf a' b' l:=by
 unfold bf bF;rw[List.take_append_of_le_length (by simp; omega),ud6,udn h1]
def UN {a b:Nat} {l:List α}:(bf a b l).length=min b l.length-a:=by simp[bf]
def UO {lt:α->α->Bool} {a b:Nat} {l:List α} (h1:a<=b) (h2:b<=l.length):bf a b (bF lt a b l)=bA lt (bf a b l):=by
 unfold bF;exact tK (by simp; omega) (by rw[mA]; simp; omega)
def PH {lt:α->α->Bool} {a b c:Nat} {l:List α} (h1:a<=b) (h2:b<=l.length) (h3:b<=c):(bF lt a b l).drop c=l.drop c:=by
 unfold bF;rw[<- ucp,List.drop_append,ua0 (by simp[mA]; omega)];simp[mA];congr 1;omega
def EL {a b c:Nat} {l s:List α} (h:l.drop c=s.drop c) (hc:c<=a):bf a b l=bf a b s:=by
 unfold bf;rw[List.drop_take,List.drop_take];have:∀ t:List α,t.drop a=(t.drop c).drop (a-c):=λt=>by rw[List.drop_drop]; congr 1; omega
 rw[this l,this s,h]
def xW (key:α->Int) (w:Nat) (l:List α):Prop:=∀ k,bS key (bf (k*w) (k*w+w) l)
def eV (lt:α->α->Bool) (w n:Nat):Nat->Nat->List α->Nat×List α
 |0,a,l=>(a,l)
 |f+1,a,l=>if a+w<=n then eV lt w n f (a+w) (bF lt a (a+w) l) else (a,l)
structure BlkW (key:α->Int) (w n:Nat) (l:List α) (r:Nat×List α):Prop where
 mul:∃ c,r.1=c*w
 le:r.1<=n
 lt:n<r.1+w
 len:r.2.length=n
 same:aX key l r.2
 drop:r.2.drop r.1=l.drop r.1
 done:∀ k,k*w+w<=r.1->bS key (bf (k*w) (k*w+w) r.2)
def yl {lt:α->α->Bool} {w n:Nat} (hw:0<w):(f a:Nat)->(l:List α)->n<f+a->a<=n->l.length=n->(∃ c,a=c*w)->cy lt key l->(∀ k,k*w+w<=a->bS key (bf (k*w) (k*w+w) l)) ->
  BlkW key w n l (eV lt w n f a l)
 |0,a,l,h,ha,_,_,_,_=>by omega
 |f+1,a,l,h,ha,hn,⟨c,hc⟩,hl,hd=>by
  simp only[eV];split
  ·rename_i hle;have hsame:=KE (key:=key) (lt:=lt) (a:=a) (b:=a+w) (by omega) (by omega) hl;have hseg:bS key (bf a (a+w) (bF lt a (a+w) l)):=by
    rw[UO (by omega) (by omega)];refine(gX (hl.sub λz hz=>?_)).1;exact ubo (ubp hz)
   have r:=yl hw f (a+w) (bF lt a (a+w) l) (by omega) hle (by rw[th (by omega) (by omega)]; exact hn) ⟨c+1,by rw[hc,uev]⟩ (hl.sub λz hz=>hsame.mem.1 hz) (λk hk=>by
    rcases ucr k c with h|h|h
    ·have h1:(k+1)*w<=c*w:=ubc _ h;rw[uev] at h1;rw[UM (by omega) (by omega)];exact hd k (by omega)
    ·subst h;rw[<- hc];exact hseg
    ·have h1:(c+1)*w<=k*w:=ubc _ h;rw[uev] at h1;omega)
   refine⟨r.mul,r.le,r.lt,r.len,hsame.trans r.same,?_,r.done⟩;rw[r.drop];obtain⟨c',hc'⟩:=r.mul;have:a+w<=(eV lt w n f (a+w) (bF lt a (a+w) l)).1:=by
    have:∀ (f a:Nat) (l:List α),a<=(eV lt w n f a l).1:=by
     intro f
     induction f with
     |zero=>intro a l; exact ufa _
     |succ f ih=>
      intro a l;simp only[eV];split
      ·exact uen (by omega) (ih _ _)
      ·exact ufa _
    exact this _ _ _
   exact PH (by omega) (by omega) this
  ·exact⟨⟨c,hc⟩,ha,by omega,hn,aX.refl _,rfl,λk hk=>hd k hk⟩
def BlkW.last {lt:α->α->Bool} {w n:Nat} {l:List α} {r:Nat×List α} (h:BlkW key w n l r) (hl:cy lt key l):xW key w (bF lt r.1 n r.2)/\aX key l (bF lt r.1 n r.2)/\(bF lt r.1 n r.2).length=n:=by
 have hlen:=h.len;have hl2:=hl.sub λz hz=>h.same.mem.1 hz;refine⟨λk=>?_,h.same.trans (KE h.le (by omega) hl2),by rw[th h.le (by omega)]; exact hlen⟩;obtain⟨c,hc⟩:=h.mul;have hle:=h.le;have hlt:=h.lt;rcases ucr k c with hk|hk|hk
 ·have h1:(k+1)*w<=c*w:=ubc _ hk;rw[uev] at h1;rw[UM (by omega) (by omega)];exact h.done k (by omega)
 ·subst hk;rw[<- hc];have:bf r.1 (r.1+w) (bF lt r.1 n r.2)=bf r.1 n (bF lt r.1 n r.2):=by
   have e:=th (lt:=lt) h.le (Nat.le_of_eq hlen.symm);unfold bf;rw[ua1 (by omega),ua1 (by omega)]
  rw[this,UO h.le (by omega)];exact(gX (hl2.sub λz hz=>ubo (ubp hz))).1
 ·have h1:(c+1)*w<=k*w:=ubc _ hk;rw[uev] at h1;have:bf (k*w) (k*w+w) (bF lt r.1 n r.2)=[]:=by
   have e:=th (lt:=lt) h.le (Nat.le_of_eq hlen.symm);apply uab;rw[UN];omega
  rw[this];exact List.Pairwise.nil
def kZ (lt:α->α->Bool) (w n:Nat) (l:List α):List α:=
 let r:=eV lt (2*w) n (n+1) 0 l
 if r.1+w<n then bF lt r.1 n r.2 else r.2
def T5 {lt:α->α->Bool} {w n:Nat} {l:List α} (hw:0<w) (hn:l.length=n) (hl:cy lt key l) (hb:xW key w l) :
  xW key (2*w) (kZ lt w n l)/\aX key l (kZ lt w n l)/\(kZ lt w n l).length=n:=by
 have r:=yl (w:=2*w) (by omega) (n+1) 0 l (by omega) (by omega) hn ⟨0,by simp⟩ hl (λk hk=>by omega);unfold kZ;generalize eV lt (2*w) n (n+1) 0 l=r0 at r |-;simp only;split
 ·exact r.last hl
 ·rename_i hc;refine⟨λk=>?_,r.same,r.len⟩;obtain⟨c,hcc⟩:=r.mul;have hlen:=r.len;rcases ucr k c with hk|hk|hk
  ·have h1:(k+1)*(2*w)<=c*(2*w):=ubc _ hk;rw[uev] at h1;exact r.done k (by omega)
  ·subst hk;have h1:k*(2*w)=(2*k)*w:=by rw[ueu 2 k,uel]
   have h2:bf (k*(2*w)) (k*(2*w)+2*w) r0.2=bf ((2*k)*w) ((2*k)*w+w) r0.2:=by
    rw[<- h1];unfold bf;rw[ua1 (by omega),ua1 (by omega)]
   rw[h2,EL r.drop (by omega)];exact hb (2*k)
  ·have h1:(c+1)*(2*w)<=k*(2*w):=ubc _ hk;rw[uev] at h1;have:bf (k*(2*w)) (k*(2*w)+2*w) r0.2=[]:=by
    apply uab;rw[UN];omega
   rw[this];exact List.Pairwise.nil
def fH (lt:α->α->Bool) (n:Nat):Nat->Nat->List α->List α
 |0,_,l=>l
 |f+1,w,l=>if w<n then fH lt n f (2*w) (kZ lt w n l) else l
def T6 {lt:α->α->Bool} {n:Nat}:(f w:Nat)->(l:List α)->0<w->n<=f+w->l.length=n->cy lt key l->xW key w l->fH lt n f w l=bA lt l
 |0,w,l,hw,hf,hn,hl,hb=>by
  simp only[fH];refine kM hl ?_ (aX.refl l);have:=hb 0;unfold bf at this;simpa[ua1 (show l.length<=w by omega)] using this
 |f+1,w,l,hw,hf,hn,hl,hb=>by
  simp only[fH];split
  ·obtain⟨h1,h2,h3⟩:=T5 hw hn hl hb;rw[T6 f (2*w) _ (by omega) (by omega) h3 (hl.sub λz hz=>h2.mem.1 hz) h1];obtain⟨k1,k2⟩:=gX (hl.sub λz hz=>h2.mem.1 hz);exact kM hl k1 (h2.trans k2)
  ·refine kM hl ?_ (aX.refl l);have:=hb 0;unfold bf at this;simpa[ua1 (show l.length<=w by omega)] using this
def LD (lt:α->α->Bool) (l:List α):List α:=
 let r:=eV lt 20 l.length (l.length+1) 0 l
 fH lt l.length l.length 20 (bF lt r.1 l.length r.2)
def zcj {lt:α->α->Bool} {l:List α} (hl:cy lt key l):LD lt l=bA lt l:=by
 have r:=yl (w:=20) (by omega) (l.length+1) 0 l (by omega) (by omega) rfl ⟨0,by simp⟩ hl (λk hk=>by omega);unfold LD;obtain⟨h1,h2,h3⟩:=r.last hl;rw[T6 _ 20 _ (by omega) (by omega) h3 (hl.sub λz hz=>h2.mem.1 hz) h1];obtain⟨k1,k2⟩:=gX (hl.sub λz hz=>h2.mem.1 hz);exact kM hl k1 (h2.trans k2)
end
end Go.Ab

namespace Go.Ab
open Go Go.RowKit
def Tr.jn (l:Nat):Tr->Tr
 |.leaf (.jump i) s=>if i=l then .leaf .normal s else .need False (.leaf .ret s)
 |.leaf .normal s=>.need False (.leaf .ret s)
 |.leaf e s=>.leaf e s
 |.br b x y=>.br b (x.jn l) (y.jn l)
 |.need p x=>.need p (x.jn l)
 |.two p x y=>.two p (x.jn l) (y.jn l)
def xS {l:Nat} {Q:XE->St->Prop}:{t:Tr}->(t.jn l).sat Q->t.sat λe s=>match e with
  |.jump i=>i=l/\Q .normal s
  |.normal=>False
  |e=>Q e s
 |.leaf e s,hq=>by
  cases e with
  |normal=>exact hq.1
  |exit i=>exact hq
  |ret=>exact hq
  |panic p=>exact hq
  |val v=>exact hq
  |jump i=>
   simp only[Tr.jn] at hq;split at hq
   ·rename_i h;exact⟨h,hq⟩
   ·exact hq.1.elim
 |.br b x y,hq=>⟨λhb=>xS (hq.1 hb),λhb=>xS (hq.2 hb)⟩
 |.need p x,hq=>⟨hq.1,xS hq.2⟩
 |.two p x y,hq=>⟨λhb=>xS (hq.1 hb),xS hq.2⟩
def WF (P:Program) (E:Env) (l:Nat) (p:Pt) (Q:p.Out->Prop) (e:Exit) (a:Act) (w:World):Prop:=
 ∃ r,Q r/\match r with
  |.next m=>e = .goto l/\I P E (p.M.tpl p.n m) a w
  |.out y=>e = .exit p.id/\I P E (p.E.tpl p.n y) a w
  |.back z=>e = .ret/\I P E (p.R.tpl p.n z) a w
  |.pan v=>e = .panic [{ v:=v.val,recovered:=false }]/\∃ s,s.n=p.n/\I P E s a w
def g7 (P:Program) (l:Nat) (c:Code) (L:LS) (p:Pt) (f:L.X->Fr p.Out):Prop:=
 ∀ (E:Env) (a:Act) (w:World) (x:L.X) (Q:p.Out->Prop),I P E (L.tpl p.n x) a w->(f x).satP Q->c.wp P (WF P E l p Q) a w
def U8 (P:Program) (C:Cx) (bs:Nat) (Λ:Nat->St->Option Tr) (l:Nat) (c:Code) (L:LS) (p:Pt) (x:L.X):Option (Fr p.Out):=
 match cU P C bs Λ c 0 (L.tpl p.n x) with
 |some t=>p.lp.rdOf C.Γ (t.jn l)
 |none=>none
def mK (P:Program) (E:Env) (c:Code) (run:St->Option Tr):Prop:=
 ∀ s t,run s=some t->∀ Q:XE->St->Prop,t.sat Q->∀ (a:Act) (w:World),I P E s a w->c.wp P (fb P E Q) a w
def ug (r1 r2:St->Option Tr) (s:St):Option Tr:=
 match r1 s with
 |some t=>t.bind r2
 |none=>none
def Lv (P:Program) (run:St->Option Tr) (fn:Func) (ps:List PT) (rs:List Ty) (xs:aq ps):Option (Fr (ae rs)):=
 if (fn.name == "runtime.NumGoroutine")=false/\ps.length<=fn.ntmps then match run (tV fn.ntmps (jU ps xs)) with
  |some t=>iN P fn.results.toList rs t
  |none=>none
 else none
section
variable {P:Program} {E:Env}
def g7.of_run {C:Cx} (hC:CxOK P C) {bs l:Nat} {Λ:Nat->St->Option Tr} {c:Code} {L:LS} {p:Pt} (hM:p.M.low=true) (hE:p.E.low=true) (hR:p.R.low=true) (hΛ:∀ E,cH P E Λ c 0) {f:L.X->Fr p.Out}
  (hr:∀ x,U8 P C bs Λ l c L p x=some (f x)):g7 P l c L p f:=by
 intro E a w x Q hi hq;have hrx:=hr x;unfold U8 at hrx;split at hrx<;>try trivial
 rename_i t ht;have hsat:=xS (p.lp.rd_sat hrx hq);refine wp_mono (gF hC c 0 (hΛ E) ht hsat hi) ?_;rintro e a' w' ⟨xe,s',rfl,his,hqs⟩;cases xe with
 |normal=>exact hqs.elim
 |exit i=>
  obtain⟨rfl,hn',y,n',hy,hn,hqy⟩:=hqs;have:=kO hC.ct hE his hy hn;rw[hn'] at this;exact⟨.out y,hqy,rfl,this⟩
 |ret=>
  obtain⟨hn',y,n',hy,hn,hqy⟩:=hqs;have:=kO hC.ct hR his hy hn;rw[hn'] at this;exact⟨.back y,hqy,rfl,this⟩
 |panic v=>exact⟨.pan v,hqs.2,rfl,s',hqs.1,his⟩
 |val _=>exact hqs.elim
 |jump _=>
  obtain⟨rfl,hn',y,n',hy,hn,hqy⟩:=hqs;have:=kO hC.ct hM his hy hn;rw[hn'] at this;exact⟨.next y,hqy,rfl,this⟩
def g7.scope {c rest:Code} {L N Eo R:LS} {n id l:Nat} {f:L.X->Fr (Rd L.X Eo.X R.X)} (hf:findLabel c l=some rest) (h1:g7 P l c L ⟨n,id,L,Eo,R⟩ f) (h2:g7 P l rest L ⟨n,id,L,Eo,R⟩ f)
  {F:L.X->Fr (Rd N.X Eo.X R.X)} {inv:L.X->Prop} {μ:L.X->Nat}
  (hlaw:∀ x,inv x->∀ Q:Rd N.X Eo.X R.X->Prop,(F x).satP Q->(f x).satP λ
   |.next x'=>inv x'/\μ x'<μ x/\(F x').satP Q
   |.out y=>Q (.out y)
   |.back z=>Q (.back z)
   |.pan p=>Q (.pan p)) (hinv:∀ x Q,(F x).satP Q->inv x):ah P (.scope c) L ⟨n,id,N,Eo,R⟩ F:=by
 intro E a w x Q hi hq;have key:∀ x a w (c':Code) (J:Nat->Act->World->Prop),(∀ a w (x':L.X),inv x'->μ x'<μ x->I P E (L.tpl n x') a w->(F x').satP Q->∃ m,m<μ x/\J m a w)->g7 P l c' L ⟨n,id,L,Eo,R⟩ f->inv x->I P E (L.tpl n x) a w->(F x).satP Q ->
   c'.wp P (Exit.jump l (λa w=>∃ m,m<μ x/\J m a w) (uw P E ⟨n,id,N,Eo,R⟩ Q)) a w:=by
  intro x a w c' J hJ h hx hix hFx;refine wp_mono (h E a w x _ hix (hlaw x hx Q hFx)) ?_;rintro e a' w' ⟨r,hr,hm⟩;cases r with
  |next x'=>
   obtain⟨rfl,hi'⟩:=hm;exact⟨rfl,hJ a' w' x' hr.1 hr.2.1 hi' hr.2.2⟩
  |out y=>
   obtain⟨rfl,hi'⟩:=hm;exact⟨.out y,hr,rfl,hi'⟩
  |back z=>
   obtain⟨rfl,hi'⟩:=hm;exact⟨.back z,hr,rfl,hi'⟩
  |pan v=>
   obtain⟨rfl,hi'⟩:=hm;exact⟨.pan v,hr,rfl,hi'⟩
 have hmono:∀ {J J':Act->World->Prop} {c':Code} {a:Act} {w:World},(∀ a w,J a w->J' a w)->c'.wp P (Exit.jump l J (uw P E ⟨n,id,N,Eo,R⟩ Q)) a w->c'.wp P (Exit.jump l J' (uw P E ⟨n,id,N,Eo,R⟩ Q)) a w:=by
  intro J J' c' a w hJ h;refine wp_mono h λe a' w' he=>?_;cases e with
  |goto l'=>exact⟨he.1,hJ _ _ he.2⟩
  |_=>exact he
 refine wp_scope_jumps l (λa w=>∃ m,∃ x,inv x/\μ x=m/\I P E (L.tpl n x) a w/\(F x).satP Q) (λa w=>wu λm=>∃ x,inv x/\μ x=m/\I P E (L.tpl n x) a w/\(F x).satP Q) hf ?_ ?_
 ·exact hmono (λa w ⟨m,_,h⟩=>⟨m,h⟩) (key x a w c (λm a w=>∃ x,inv x/\μ x=m/\I P E (L.tpl n x) a w/\(F x).satP Q) (λa w x' q1 q2 q3 q4=>⟨μ x',q2,x',q1,rfl,q3,q4⟩) h1 (hinv x Q hq) hi hq)
 ·rintro a w ⟨m,hm⟩;obtain⟨⟨x',q1,q2,q3,q4⟩,_⟩:=wv (p:=λm=>∃ x,inv x/\μ x=m/\I P E (L.tpl n x) a w/\(F x).satP Q) ⟨m,hm⟩;refine hmono (λa1 w1 ⟨m1,r1,r2⟩=>⟨⟨m1,r2⟩,?_⟩) (key x' a w rest (λm a w=>∃ x,inv x/\μ x=m/\I P E (L.tpl n x) a w/\(F x).satP Q) (λa w x' q1 q2 q3 q4=>⟨μ x',q2,x',q1,rfl,q3,q4⟩) h2 q1 q3 q4);rw[<- q2];exact ucb ((wv ⟨m1,r2⟩).2 m1 r2) r1
def ah.run {C:Cx} (hC:CxOK P C) {c:Code} {L:LS} {p:Pt} {F:L.X->Fr p.Out} (hL:L.low=true) (h:ah P c L p F):mK P E c (p.han C.Γ L F):=by
 intro s t hs Q hq a w hi;unfold Pt.han at hs;split at hs<;>try trivial
 rename_i hsn;split at hs<;>try trivial
 rename_i x n hx;cases hs;obtain⟨hq1,hq2⟩:=kW _ hq;have hi':=kO hC.ct hL hi hx hq1;rw[hsn] at hi';refine wp_mono (h E a w x _ hi' (p.toTr_sat hq2)) ?_;rintro e a' w' ⟨r,hr,hm⟩;cases r with
 |next m=>
  obtain⟨rfl,hi'⟩:=hm;exact⟨.normal,_,rfl,hi',hr⟩
 |out y=>
  obtain⟨rfl,hi'⟩:=hm;exact⟨.exit p.id,_,rfl,hi',hr⟩
 |back z=>
  obtain⟨rfl,hi'⟩:=hm;exact⟨.ret,_,rfl,hi',hr⟩
 |pan v=>
  obtain⟨rfl,s',hn',hi'⟩:=hm;have hdead:I P E ⟨p.n,λ_=>.dead,λ_=>none,λ_=>.dead⟩ a' w':=by
   have:=kO hC.ct (L:=⟨[],[]⟩) rfl hi' rfl trivial;rw[hn'] at this;obtain⟨F',γ',h⟩:=this;exact⟨F',γ',h.n,h.df,h.step,h.mem,λt=>uT,λt g want v ht=>(nomatch ht),λt=>uT⟩
  exact⟨.panic v,_,rfl,hdead,hr⟩
def vD {C:Cx} (hC:CxOK P C) {bs:Nat} {Λ:Nat->St->Option Tr} {c:Code} (hΛ:cH P E Λ c 0):mK P E c (cU P C bs Λ c 0):=
 λ_ _ h _ hq _ _ hi=>gF hC c 0 hΛ h hq hi
def Bk {x y:Code} {r1 r2:St->Option Tr} (h1:mK P E x r1) (h2:mK P E y r2):mK P E (.seq x y) (ug r1 r2):=by
 intro s t h Q hq a w hi;unfold ug at h;split at h<;>try trivial
 rename_i t1 ht1;refine wp_seq (wp_mono (h1 s t1 ht1 _ (uu h hq) a w hi) ?_);rintro e a' w' ⟨xe,s',rfl,hi',hq'⟩;cases xe with
 |normal=>
  obtain⟨u,hu,hqu⟩:=hq';exact h2 _ u hu Q hqu a' w' hi'
 |exit i=>exact⟨.exit i,s',rfl,hi',hq'⟩
 |ret=>exact⟨.ret,s',rfl,hi',hq'⟩
 |panic p=>exact⟨.panic p,s',rfl,hi',hq'⟩
 |val v=>exact⟨.val v,s',rfl,hi',hq'⟩
 |jump l=>exact⟨.jump l,s',rfl,hi',hq'⟩
def Rl {f:FuncId} {fn:Func} {c:Code} {run:St->Option Tr} {ps:List PT} {rs:List Ty} {fr:aq ps->Fr (ae rs)} (x0:aq ps)
  (hf:P.funcs[f]? = some fn) (hb:fn.body=some c) (hrn:∀ E,mK P E c run) (hrun:∀ xs,Lv P run fn ps rs xs=some (fr xs)):aa P f ⟨ps,rs,λxs=>(fr xs).get,λxs=>[(fr xs).ok]⟩:=by
 have h0:=hrun x0;unfold Lv at h0;split at h0<;>try trivial
 rename_i hc;obtain⟨hname,hn⟩:=hc;refine⟨enters hf hb hname,λw F xs vs hbd hr hok=>ufe hf hb ?_⟩;have hr':=hrun xs;unfold Lv at hr';rw[if_pos ⟨hname,hn⟩] at hr';split at hr'<;>try trivial
 rename_i t ht;have hlen:vs.length=ps.length:=by
  have:∀ {ps:List PT} {xs:aq ps} {vs:List Value},dX P w F ps xs vs->vs.length=ps.length:=by
   intro ps
   induction ps with
   |nil=>intro xs vs h; cases h; rfl
   |cons p r ih=>
    intro xs vs h;obtain⟨v,vs',rfl,_,h3⟩:=h;simp[ih h3]
  exact this hr
 have hstart:=xu (D:=[]) (n:=fn.ntmps) hbd (λR=>qm hr) (by omega);have hwp:=hrn _ _ t ht _ (sF hr' hok) _ _ hstart;have hsz:(vs.toArray).size=vs.length:=by simp
 refine wp_mono hwp ?_;rintro e a' w' ⟨xe,s,rfl,⟨F',γ',hi⟩,hxe,n,hend,hnn⟩;have hfin:a'.defers=[]/\∃ v,(results fn a'.tmps).run P w' = .ok v w'/\fy w F rs (fr xs).get (.returned v) w':=by
  unfold dS at hend;split at hend<;>try trivial
  rename_i avs n' hres;split at hend<;>try trivial
  rename_i axs u hrs;split at hend<;>try trivial
  rename_i y hdec;injection hend with hend
  obtain⟨hn',hy⟩:=Ae hend hnn;subst hy;obtain⟨us,hran,hreps⟩:=qO hi hres hn';obtain⟨F'',hs,hm',_,hxs⟩:=ko hi.mem (eo hi) (g6 λ_ _ h=>h) hrs hreps;obtain⟨γ0,h0⟩:=hi.step;have hst:=h0.trans hs;refine⟨hi.df,_,tG hran,_,F'',rfl,⟨hst.os,hst.tape,hst.output,hst.size,hst.old⟩,hst.hF,λb hb=>⟨hst.new b hb,hst.bd b hb⟩,A7 (oO hdec hxs)⟩
 rcases hxe with rfl|rfl
 ·exact hfin
 ·exact hfin
end
end Go.Ab
