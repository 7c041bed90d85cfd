/-
  Parts of the proof, one behind the other.
-/
import Derived.Test.YtdokapnnagbehaaGreatMc
import Derived.Laws.Sem
import Derived.KernelRfl
import Derived.Recover
import Derived.Carry
import Derived.ChangeSame
import Derived.ProofKit
import Derived.OpenShut
import Derived.ChangeCalls
import Derived.IntWalk
set_option linter.all false
set_option maxRecDepth 100000
set_option maxHeartbeats 4000000
open Option renaming some->U,none->V
open Bool renaming true->Z,false->Y
open Decidable renaming decide->J
open Go Go.RowKit
variable {T α σ ρ β:Type} {P:Program} {ad:Addr} {arr cs cur:Array Value} {f:FuncId} {x a y day:Int} {k:IntKind} {l:List Int} {xs vs news:List Value} {off i n b c d j B m len:Nat} {F F' K:Nat->Prop} {R g R':Nat->Value->Prop} {o:Oper} {p:Prop} {e ety t ty el:TypeId} {v u vx:Value} {w w' W' W:World}
namespace Go.Ab
open Go Go.RowKit
inductive Fr (α:Type) where
 |val (x:α)
 |br (b:Bool) (x y:Fr α)
 |need (p:Prop) (x:Fr α)
def Fr.needL(i:List Prop)(x:Fr α):Fr α:=i.foldr (λp t=>.need p t) x
def Fr.get:Fr α->α
 |.val x=>x
 |.br b x y=>if b=Z then x.get else y.get
 |.need _ x=>x.get
def Fr.ok:Fr α->Prop
 |.val _=>True
 |.br b x y=>(b=Z->x.ok)/\(b=Y->y.ok)
 |.need p x=>p/\x.ok
def dh(P:Program)(i:List ResultVar)(rs:List Ty)(s:St):Option (Fr (aa rs)):=
 match gv P s i with
 |some (vs,n)=>match dK s.mem vs with
  |some (xs,_)=>match g9 rs xs with
   |some y=>U (Fr.needL n (.val y))
   |none=>V
  |none=>V
 |none=>V
def gm(P:Program)(i:List ResultVar)(rs:List Ty)(s:St):Option (Fr (aa rs)):=match dh P i rs s with
 |some t=>U t
 |none=>dh P i rs (xW s)
def ib(P:Program)(i:List ResultVar)(rs:List Ty):Tr->Option (Fr (aa rs))
 |.leaf .ret s=>gm P i rs s
 |.leaf .normal s=>gm P i rs s
 |.leaf _ _=>V
 |.br b x y=>match ib P i rs x,ib P i rs y with
  |some j,U m=>U (.br b j m)
  |_,_=>V
 |.need p x=>match ib P i rs x with
  |some j=>U (.need p j)
  |none=>V
 |.two p x y=>match ib P i rs x,ib P i rs y with
  |some j,U m=>U (.need (p->j.ok/\j.get=m.get) m)
  |_,_=>V
def eI:(ps:List PT)->ag ps->List AV
 |[],_=>[]
 |p::r,x=>H4 p x.1::eI r x.2
def KA(P:Program)(C:Cx)(Λ:Nat->St->Option Tr)(c:Code)(n:Nat)(i:List ResultVar)(ps:List PT)(rs:List Ty)(xs:ag ps):Option (Fr (aa rs)):=
 match cr P C 0 Λ c 0 (sj n (eI ps xs))with
 |some t=>ib P i rs t
 |none=>V
section
variable {P:Program} {B:Nat} {w w':World} {E:Env} {F F':Nat->Prop} {bs:Nat} {γ γ' γ0:Nat->Value} {Γ:Gm} {M m:aT} {R:Nat->Value->Prop}
def D0(tmps:Array Value):ResultVar->Sem Value
 |.tmp t=>pure (tmps.getD t undef)
 |.cell a t=>do loadVar t (<- asAddr (tmps.getD a undef))
def Dw(P:Program)(tmps:Array Value)(w:World):List ResultVar->List Value->Prop
 |[],[]=>True
 |r::rs,v::vs=>(D0 tmps r).run P w=.ok v w/\Dw P tmps w rs vs
 |_,_=>False
def SL{tmps:Array Value}:(l:List ResultVar)->(us:List Value)->Dw P tmps w l us->(l.mapM (m:=Sem) (D0 tmps)).run P w=.ok us w
 |[],[],_=>by simp
 |r::rs,v::vs,h=>by
  rw[List.mapM_cons];simp only[uep,h.1,Result.andThen,SL rs vs h.2,uer]
def vI:List Value->Value
 |[v]=>v
 |vs=>.tuple vs.toArray
def pz{fn:Func}{tmps:Array Value}(h:Dw P tmps w fn.results.toList vs):(results fn tmps).run P w=.ok (vI vs) w:=by
 have i:results fn tmps=(do
   let vs <- fn.results.mapM (D0 tmps)
   pure (if h:vs.size=1 then vs[0]else .tuple vs)):=by
  congr 1
 rw[i,Array.mapM_eq_mapM_toList];simp only[uep,map_eq_pure_bind,uer,SL _ _ h];cases vs with
 |nil=>simp[vI]
 |cons v vs=>
  cases vs with
  |nil=>simp[vI]
  |cons j vs=>simp[vI]
def vH:{ts:List Ty} -> {x:aa ts} -> {vs:List Value}->dM w F ts x vs->gT w F ts x (vI vs)
 |[],_,_,h=>by
  cases h;exact⟨#[],rfl,rfl⟩
 |[t],x,vs,h=>by
  obtain⟨v,j,rfl,m,i⟩:=h;cases i;exact m
 |t::u::r,x,vs,h=>by
  obtain⟨v,j,rfl,m,i⟩:=id h;obtain⟨C,q,rfl,_,_⟩:=id i;exact⟨_,rfl,by simpa using h⟩
def mO:{ps:List PT} -> {xs:ag ps} -> {vs:List Value}->cJ P w F ps xs vs->bj P w F R (eI ps xs) vs
 |[],_,_,h=>by cases h;trivial
 |_::_,_,_,⟨v,q,i,j,m⟩=>by subst i;exact⟨P4 j,mO m⟩
def ny:{xs:List AV} -> {vs:List Value}->bj P w F R xs vs->∀ i:Nat,aE P w F R (xs.getD i .dead) (vs.getD i undef)
 |[],[],_,i=>trivial
 |x::xs,v::vs,h,0=>h.1
 |x::xs,v::vs,h,i+1=>by
  have:=ny h.2 i;simpa using this
def vV{D:List Deferred}{xs:List AV}(hb:∀ b,F b->b<w.heap.size)(h:∀ R,bj P w F R xs vs)(O:vs.length<=n):I P ⟨w,F,λ_=>undef,D,w.heap.size,ue6 _⟩ (sj n xs) { tmps:=vs.toArray++Array.replicate (n-vs.length) undef,defers:=D } w:=by
 refine⟨F,λ_=>undef,?_,rfl,⟨λ_=>undef,Step.refl hb⟩,⟨λid o C=>(nomatch C),λi j Q S b _ C=>(nomatch C)⟩,λt=>?_,λt g q v N=>?_,λ_=>uT⟩;show _=n;simp;omega;have hg:(vs.toArray++Array.replicate (n-vs.length) undef).getD t undef=vs.getD t undef:=by
  simp;rcases uem t vs.length with u|m
  rw[uai (by simpa using u)];simp;rw[uad (by simpa using m),ua4 m];simp only[uas];split<;>rfl
 rw[hg];exact vG (ny (h _) t);exfalso;have:=ny (h λ_ _=>True) t;have H:xs.getD t .dead=.maybe g q v:=N;rw[H]at this;exact this
def uM{x:Fr α}:(i:List Prop)->(Fr.needL i x).ok->av i/\x.ok
 |[],h=>⟨uT,h⟩
 |p::i,h=>by
  have j:=h;obtain⟨m,q⟩:=uM i j.2;exact⟨je.2 ⟨j.1,m⟩,q⟩
def uK{x:Fr α}:(i:List Prop)->(Fr.needL i x).get=x.get
 |[]=>rfl
 |_::i=>uK i
def qX{u:List ResultVar}{rs:List Ty}:{t:Tr} -> {f:Fr (aa rs)}->ib P u rs t=U f->f.ok->t.sat λe s=>(e=.ret\/e=.normal)/\∃ q,(q=s\/q=xW s)/\∃ n,dh P u rs q=U (Fr.needL n (.val f.get))/\av n
 |.leaf e s,f,h,j=>by
  have m:∀ s,dh P u rs s=U f->∃ n,dh P u rs s=U (Fr.needL n (.val f.get))/\av n:=λs h=>by
   have h0:=h;unfold dh at h;split at h<;>try trivial
   split at h<;>try trivial
   split at h<;>try trivial
   cases h;refine⟨_,?_,(uM _ j).1⟩;rw[uK];exact h0
  have key:gm P u rs s=U f->∃ q,(q=s\/q=xW s)/\∃ n,dh P u rs q=U (Fr.needL n (.val f.get))/\av n:=λh=>by
   unfold gm at h;split at h;rename_i t O;cases h;exact⟨s,.inl rfl,m s O⟩;exact⟨xW s,.inr rfl,m _ h⟩
  cases e with
  |exit i=>simp[ib]at h
  |panic i=>simp[ib]at h
  |val i=>simp[ib]at h
  |jump i=>simp[ib]at h
  |normal=>exact⟨.inr rfl,key h⟩
  |ret=>exact⟨.inl rfl,key h⟩
 |.br b x y,f,h,j=>by
  simp only[ib]at h;split at h<;>try trivial
  rename_i H Q w C;cases h;refine⟨λhb=>?_,λhb=>?_⟩;have:=qX w (j.1 hb);simpa only[Fr.get,hb,if_true]using this;have:=qX C (j.2 hb);simpa only[Fr.get,hb,ub2,ufn]using this
 |.need p x,f,h,j=>by
  simp only[ib]at h;split at h<;>try trivial
  rename_i H w;cases h;have:=qX w j.2;exact⟨j.1,this⟩
 |.two p x y,f,h,j=>by
  simp only[ib]at h;split at h<;>try trivial
  rename_i H Q w C;cases h;have N:=qX C j.2;refine⟨λF=>?_,N⟩;have:=qX w (j.1 F).1
  rwa [(j.1 F).2]at this
def nz{s:St}{a:Act}(hi:InvG P E s a w [] F γ):{N:List ResultVar} -> {vs:List AV} -> {n:List Prop}->gv P s N=U (vs,n)->av n->∃ us,Dw P a.tmps w N us/\bj P w F (ap s.mem γ) vs us
 |[],vs,n,h,m=>by
  obtain⟨rfl,rfl⟩:=h;exact⟨[],uT,uT⟩
 |r::N,vs,n,h,m=>by
  simp only[gv]at h;split at h<;>try trivial
  rename_i v n1 vs' n2 i W;cases h;obtain⟨us,O,Q⟩:=nz hi W (jd.1 m).2;have q:=(jd.1 m).1;cases r with
  |tmp t=>
   obtain⟨rfl,_⟩:=i;exact⟨a.tmps.getD t undef::us,⟨by simp[D0],O⟩,rm hi t,Q⟩
  |cell ad t=>
   simp only[U1]at i;split at i<;>try trivial
   rename_i id off hs;split at i<;>try trivial
   rename_i e he;cases i;have C:=rm hi ad;rw[hs]at C;obtain⟨_,u,S,H⟩:=S2 hi.mem (λ_ _ h=>h) he q C;obtain⟨_,b,_,hv⟩:=C;refine⟨u::us,⟨?_,O⟩,H,Q⟩;have j:=hv;rw[j]at S;show(do loadVar t (<- asAddr (a.tmps.getD ad undef)):Sem Value).run P w=_;rw[j];exact S
def uL{x y:α}:{j ms:List Prop}->Fr.needL j (.val x)=Fr.needL ms (.val y)->av ms->av j/\x=y
 |[],[],h,_=>by
  have i:=h;injection i with i
  exact⟨uT,i⟩
 |[],_::_,h,_=>nomatch (show Fr.val x=Fr.need _ _ from h)
 |_::_,[],h,_=>nomatch (show Fr.need _ _=Fr.val y from h)
 |p::j,q::ms,h,u=>by
  have i:=h;injection i with m t
  subst m;obtain⟨a,b⟩:=je.1 u;obtain⟨c,d⟩:=uL t b;exact⟨je.2 ⟨a,c⟩,d⟩
def ql9{C:Cx}(hC:CxOK P C){Λ:Nat->St->Option Tr}{fn:Func}{c:Code}{ps:List PT}{rs:List Ty}{fr:ag ps->Fr (aa rs)}(hf:P.funcs[f]?= U fn)(hb:fn.body=U c)(hc:∀ args w,(callFunc f args).run P w=.ok (.enter f args) w)(hn:ps.length<=fn.ntmps)(hΛ:∀ E,bP P E Λ c 0)(hrun:∀ xs,KA P C Λ c fn.ntmps fn.results.toList ps rs xs=U (fr xs)):af P f ⟨ps,rs,λxs=>(fr xs).get,λxs=>[(fr xs).ok]⟩:=by
 refine⟨hc,λw F xs vs hbd hr hok=>ufa hf hb ?_⟩;have H:=hrun xs;unfold KA at H;split at H<;>try trivial
 rename_i t ht;have hlen:vs.length=ps.length:=by
  have:∀ {ps:List PT} {xs:ag ps} {vs:List Value},cJ P w F ps xs vs->vs.length=ps.length:=by
   intro ps
   induction ps with
   |nil=>intro xs vs h;cases h;rfl
   |cons p r ih=>
    intro xs vs h;obtain⟨v,vs',rfl,_,h3⟩:=h;simp[ih h3]
  exact this hr
 have m:=vV (D:=[]) (n:=fn.ntmps) hbd (λR=>mO hr) (by omega);have hwp:=fR hC c 0 (hΛ _) ht (qX H hok) m;have hsz:(vs.toArray).size=vs.length:=by simp
 refine wp_mono hwp ?_;rintro e a' w' ⟨xe,s0,rfl,⟨F0,γ',Q⟩,hxe,s,hs0,n,i,hnn⟩;obtain⟨F',hi⟩:∃ F',InvG P _ s a' w' [] F' γ':=by
  rcases hs0 with rfl|rfl
  exact⟨F0,Q⟩;exact Cd _ Q
 have q:a'.defers=[]/\∃ v,(results fn a'.tmps).run P w'=.ok v w'/\fJ w F rs (fr xs).get (.returned v) w':=by
  unfold dh at i;split at i<;>try trivial
  rename_i avs n' W;split at i<;>try trivial
  rename_i axs u hrs;split at i<;>try trivial
  rename_i y O;injection i with i
  obtain⟨hn',hy⟩:=uL i hnn;subst hy;obtain⟨us,S,N⟩:=nz hi W hn';obtain⟨F'',hs,hm',_,hxs⟩:=iy hi.mem (dv hi) (cX.of λ_ _ h=>h) hrs N;obtain⟨γ0,h0⟩:=hi.step;have j:=h0.trans hs;refine⟨hi.df,_,pz S,_,F'',rfl,⟨j.os,j.tape,j.output,j.size,j.old⟩,j.hF,λb hb=>⟨j.new b hb,j.bd b hb⟩,vH (lC O hxs)⟩
 rcases hxe with rfl|rfl
 exact q;exact q
def conv{ct:Ct}(h:af P f ct)(g:ag ct.ps->aa ct.rs)(ok:ag ct.ps->List Prop)(hg:∀ w F xs vs,cJ P w F ct.ps xs vs->av (ok xs)->av (ct.ok xs)/\ct.f xs=g xs):af P f ⟨ct.ps,ct.rs,g,ok⟩:=by
 refine⟨h.1,λw F xs vs hb j i=>?_⟩;obtain⟨m,q⟩:=hg w F xs vs j i;have:=h.2 w F xs vs hb j m;rw[q]at this;exact this
def enters{fn:Func}{c:Code}(j:P.funcs[f]?= U fn)(hb:fn.body=U c)(m:(fn.name == "runtime.NumGoroutine")=Y)(args:Array Value)(w:World):(callFunc f args).run P w=.ok (.enter f args) w:=by
 have i:¬ fn.name = "runtime.NumGoroutine" := by simpa using m
 simp[callFunc,j,hb,i]
def mf(P:Program)(C:Cx)(Λ:Nat->St->Option Tr)(fn:Func)(ps:List PT)(rs:List Ty)(xs:ag ps):Option (Fr (aa rs)):=
 match fn.body with
 |some c=>if (fn.name == "runtime.NumGoroutine")=Y/\ps.length<=fn.ntmps then KA P C Λ c fn.ntmps fn.results.toList ps rs xs else V
 |none=>V
def cf{C:Cx}(m:CxOK P C){Λ:Nat->St->Option Tr}{fn:Func}{ps:List PT}{rs:List Ty}{fr:ag ps->Fr (aa rs)}(x0:ag ps)(j:P.funcs[f]?= U fn)(hΛ:∀ c E,fn.body=U c->bP P E Λ c 0)(i:∀ xs,mf P C Λ fn ps rs xs=U (fr xs)):af P f ⟨ps,rs,λxs=>(fr xs).get,λxs=>[(fr xs).ok]⟩:=by
 have h0:=i x0;unfold mf at h0;split at h0<;>try trivial
 rename_i c hb;split at h0<;>try trivial
 rename_i hc;refine ql9 m j hb (enters j hb hc.1) hc.2 (λE=>hΛ c E hb) λxs=>?_;have:=i xs;unfold mf at this;simp only[hb,hc,if_true]at this;exact this
def Vy{s:St}{a:Act}{xs:List AV}(hi:InvG P E s a w [] F γ)(h:bj P w F (ap s.mem γ) xs vs)(H:vs.length<=n):
  I P ⟨E.w0,E.F0,eZ a E,[],E.B,E.hB⟩ ⟨n,λi=>xs.getD i .dead,s.mem,s.at⟩ { tmps:=vs.toArray++Array.replicate (n-vs.length) undef,defers:=[] } w:=by
 refine⟨F,γ,?_,rfl,hi.step,hi.mem,λt=>?_,λt g m v C=>?_,λt=>RP hi t⟩;show _=n;simp;omega;have hg:(vs.toArray++Array.replicate (n-vs.length) undef).getD t undef=vs.getD t undef:=by
  simp;rcases uem t vs.length with q|j
  rw[uai (by simpa using q)];simp;rw[uad (by simpa using j),ua4 j];simp only[uas];split<;>rfl
 rw[hg];exact vG (ny h t);exfalso;have:=ny h t;have u:xs.getD t .dead=.maybe g m v:=C;rw[u]at this;exact this
def Cv{s i:St}{a N:Act}(hi:InvG P E s a w [] F γ)(h:InvG P ⟨E.w0,E.F0,eZ a E,[],E.B,E.hB⟩ i N w' [] F' γ'):InvG P E (i.back s.n) a w' [] F' γ':=by
 refine⟨hi.n,hi.df,h.step,h.mem,λt=>?_,λt g u v H=>?_,λt=>?_⟩;show dP P w' F' _ _ (if t<10000 then i.gs t else .dead) _;split;rename_i H;have:=h.gh t;have C:eZ a E t=a.tmps.getD t undef:=by unfold eZ;rw[if_pos H]
 have j:aE P w' F' (ap i.mem γ') (i.gs t) (eZ a E t):=this;rw[C]at j;exact vG j;trivial;exfalso;have m:(if t<10000 then i.gs t else .dead)=.maybe g u v:=H;split at m;have:=h.gh t;rw[m]at this;exact this;cases m;have O:∀ k,aE P w' F' (ap i.mem γ') (i.gs k) (eZ a E k):=λk=>h.gh k;have q:∀ k,k=t+10000->aE P w' F' (ap i.mem γ') (i.gs k) (E.G t):=λk Q=>by
  have j:=O k;unfold eZ at j;rw[if_neg (by omega)]at j;have C:k-10000=t:=by omega
  rw[C]at j;exact j
 exact q _ rfl
def U2:{xs:List AV} -> {vs:List Value}->bj P w F R xs vs->aE P w F R (rX xs) (vI vs)
 |[],[],_=>⟨#[],rfl,rfl,uT⟩
 |[_],[_],h=>h.1
 |x::y::r,v::u::s,h=>by
  refine⟨_,rfl,?_,?_⟩;have:∀ {xs:List AV} {vs:List Value},bj P w F R xs vs->vs.length=xs.length:=λh=>h.length;simpa using this h;have:∀ (xs:List AV) (vs:List Value),bj P w F R xs vs->ln P w F R xs (λj u=>vs[j]?= U u):=by
   intro xs
   induction xs with
   |nil=>intros;trivial
   |cons x xs i=>
    intro vs h;cases vs with
    |nil=>exact h.elim
    |cons v vs=>exact⟨⟨v,rfl,h.1⟩,by simpa using i vs h.2⟩
  simpa using this _ _ h
 |[],_::_,h=>h.elim
 |_::_,[],h=>h.elim
 |[_],_::_::_,h=>h.2.elim
 |_::_::_,[_],h=>h.2.elim
def qR{F:List ResultVar}{Q:XE->St->Prop}:{t j:Tr}->gn P F n t=U j->j.sat Q->t.sat λe s=>match e with
  |.panic p=>Q (.panic p) (s.back n)
  |.ret=>∃ vs i,gv P s F=U (vs,i)/\av i/\Q (.val (rX vs)) (s.back n)
  |.normal=>∃ vs i,gv P s F=U (vs,i)/\av i/\Q (.val (rX vs)) (s.back n)
  |_=>False
 |.leaf e s,j,h,hq=>by
  cases e with
  |panic p=>
   simp only[gn,uck]at h;subst h;exact hq
  |ret=>
   simp only[gn]at h;split at h<;>try trivial
   rename_i vs i w;cases h;obtain⟨q,u⟩:=jm _ hq;exact⟨vs,i,w,q,u⟩
  |normal=>
   simp only[gn]at h;split at h<;>try trivial
   rename_i vs i w;cases h;obtain⟨q,u⟩:=jm _ hq;exact⟨vs,i,w,q,u⟩
  |exit _=>simp[gn]at h
  |val _=>simp[gn]at h
  |jump _=>simp[gn]at h
 |.br b x y,j,h,hq=>by
  simp only[gn]at h;split at h<;>try trivial
  rename_i H N m C;cases h;exact⟨λhb=>qR m (hq.1 hb),λhb=>qR C (hq.2 hb)⟩
 |.need p x,j,h,hq=>by
  simp only[gn]at h;split at h<;>try trivial
  rename_i H m;cases h;exact⟨hq.1,qR m hq.2⟩
 |.two p x y,j,h,hq=>by
  simp only[gn]at h;split at h<;>try trivial
  rename_i H N m C;cases h;exact⟨λhb=>qR m (hq.1 hb),qR C hq.2⟩
def gG{C:Cx}(hC:CxOK P C){Xi:FuncId->Option (Func×(Nat->St->Option Tr))}(hX:∀ f fn Λ,Xi f=U (fn,Λ)->P.funcs[f]?= U fn/\∀ c E,fn.body=U c->bP P E Λ c 0):gQ P (fU P C Xi):=by
 intro d f args s t h;unfold fU at h;split at h<;>try trivial
 rename_i fn Λ hxi;split at h<;>try trivial
 rename_i c i;split at h<;>try trivial
 rename_i hc;split at h<;>try trivial
 rename_i t1 ht1;obtain⟨hf,hΛ⟩:=hX f fn Λ hxi;refine⟨enters hf i hc.2,λE a w F γ vs Q hi hr hq=>ufa hf i ?_⟩;have hlen:=hr.length;have m:=Vy (n:=fn.ntmps) hi hr (by omega);have S:=qR h hq;have hwp:=fR hC c 0 (hΛ c _ i) ht1 S m;have hsz:(vs.toArray).size=vs.length:=by simp
 refine wp_mono hwp ?_;rintro e a' w' ⟨xe,s',rfl,⟨F',γ',j⟩,H⟩;have q:(∃ vs ns,gv P s' fn.results.toList=U (vs,ns)/\av ns/\Q (.val (rX vs)) (s'.back s.n))->a'.defers=[]/\∃ v,(results fn a'.tmps).run P w'=.ok v w'/\Fb P E a Q (.returned v) w':=by
  rintro⟨vs,ns,O,W,hqv⟩;obtain⟨us,N,u⟩:=nz j O W;exact⟨j.df,_,pz N,_,_,F',γ',hqv,Cv hi j,_,rfl,U2 u⟩
 cases xe with
 |panic p=>exact⟨j.df,.panic p,_,F',γ',H,Cv hi j,rfl⟩
 |ret=>exact q H
 |normal=>exact q H
 |exit _=>exact H.elim
 |val _=>exact H.elim
 |jump _=>exact H.elim
end
def Ss{p:Nat->Prop}(h:∃ n,p n):∃ n,p n/\∀ m,p m->n<=m:=by
 obtain⟨n,u⟩:=h
 induction n using Nat.strongRecOn with
 |_ n w=>
  by_cases j:∃ m,m<n/\p m;obtain⟨m,q,t⟩:=j;exact w m q t;refine⟨n,u,λm i=>?_⟩;rcases uem m n with h|h
  exact absurd ⟨m,h,i⟩ j;exact h
noncomputable def u9(p:Nat->Prop):Nat:=open Classical in if h:∃ n,p n then (Ss h).choose else 0
def uA{p:Nat->Prop}(h:∃ n,p n):p (u9 p)/\∀ m,p m->u9 p<=m:=by
 unfold u9;rw[dif_pos h];exact(Ss h).choose_spec
def zdd{c:Code}{Q:Exit->Act->World->Prop}{a:Act}(F:Nat->Act->World->Prop)(h0:∃ m,F m a w)(round:∀ m a w,F m a w->c.wp P (Exit.then (λj w'=>∃ m',m'<m/\F m' j w') Q) a w):(Code.loop c).wp P Q a w:=by
 refine wp_loop (λa w=>∃ m,F m a w) (λa w=>u9 λm=>F m a w) h0 λa w h=>?_;obtain⟨t,C⟩:=uA h;refine wp_mono (round _ a w t) λe j w' q=>?_;cases e with
 |normal=>
  obtain⟨m',u,i⟩:=q;exact⟨⟨m',i⟩,ucc ((uA ⟨m',i⟩).2 m' i) u⟩
 |_=>exact q
def Fr.satP(Q:α->Prop):Fr α->Prop
 |.val x=>Q x
 |.br b x y=>(b=Z->x.satP Q)/\(b=Y->y.satP Q)
 |.need p x=>p/\x.satP Q
def nL{Q:α->Prop}:{f:Fr α}->f.ok->Q f.get->f.satP Q
 |.val _,_,h=>h
 |.br b x y,h,hq=>by
  refine⟨λhb=>nL (h.1 hb) ?_,λhb=>nL (h.2 hb) ?_⟩;simpa only[Fr.get,hb,if_true]using hq;simpa only[Fr.get,hb,ub2,ufn]using hq
 |.need p x,h,hq=>⟨h.1,nL h.2 hq⟩
def cO{Q:α->Prop}:{f:Fr α}->f.satP Q->f.ok/\Q f.get
 |.val _,h=>⟨uT,h⟩
 |.br b x y,h=>by
  cases b with
  |true=>
   have:=cO (h.1 rfl);exact⟨⟨λ_=>this.1,λhb=>by cases hb⟩,this.2⟩
  |false=>
   have:=cO (h.2 rfl);exact⟨⟨λhb=>(by cases hb),λ_=>this.1⟩,this.2⟩
 |.need p x,h=>⟨⟨h.1,(cO h.2).1⟩,(cO h.2).2⟩
def E4{Q:α->Prop}{x:Fr α}:{i:List Prop}->(Fr.needL i x).satP Q->av i/\x.satP Q
 |[],h=>⟨uT,h⟩
 |p::i,h=>by
  have j:=h;obtain⟨m,q⟩:=E4 j.2;exact⟨je.2 ⟨j.1,m⟩,q⟩
inductive Rd (X Y Z:Type) where
 |next (x:X)
 |out (y:Y)
 |back (z:Z)
 |pan (p:PV)
structure Lp where
 n:Nat
 id:Nat
 L:LS
 E:LS
 R:LS
abbrev Lp.In(l:Lp):Type:=l.L.X
abbrev Lp.Out(l:Lp):Type:=Rd Unit l.E.X l.R.X
abbrev Lp.Round(l:Lp):Type:=Rd l.L.X l.E.X l.R.X
def Lp.rdOf(Γ:Gm)(l:Lp):Tr->Option (Fr l.Round)
 |.leaf .normal s=>if s.n=l.n then match l.L.ext Γ s with
   |some (x,n)=>U (Fr.needL n (.val (.next x)))
   |none=>V
  else V
 |.leaf (.exit i) s=>if i=l.id/\s.n=l.n then match l.E.ext Γ s with
   |some (x,n)=>U (Fr.needL n (.val (.out x)))
   |none=>V
  else V
 |.leaf .ret s=>if s.n=l.n then match l.R.ext Γ s with
   |some (x,n)=>U (Fr.needL n (.val (.back x)))
   |none=>V
  else V
 |.leaf (.panic p) s=>if s.n=l.n then U (.val (.pan p))else V
 |.leaf (.val _) _=>V
 |.leaf (.jump _) _=>V
 |.br b x y=>match l.rdOf Γ x,l.rdOf Γ y with
  |some j,U m=>U (.br b j m)
  |_,_=>V
 |.need p x=>match l.rdOf Γ x with
  |some j=>U (.need p j)
  |none=>V
 |.two p x y=>match l.rdOf Γ x,l.rdOf Γ y with
  |some j,U m=>U (.need (p->j.ok/\j.get=m.get) m)
  |_,_=>V
def Lp.round(P:Program)(C:Cx)(bs:Nat)(Λ:Nat->St->Option Tr)(c:Code)(l:Lp)(x:l.In):Option (Fr l.Round):=
 match cr P C bs Λ c 0 (l.L.tpl l.n x)with
 |some t=>l.rdOf C.Γ t
 |none=>V
def Lp.toTr(l:Lp):Fr l.Out->Tr
 |.val (.next _)=>.need False (.leaf .ret ⟨0,λ_=>.dead,λ_=>V,λ_=>.dead⟩)
 |.val (.out y)=>.leaf (.exit l.id) (l.E.tpl l.n y)
 |.val (.back z)=>.leaf .ret (l.R.tpl l.n z)
 |.val (.pan p)=>.leaf (.panic p) ⟨l.n,λ_=>.dead,λ_=>V,λ_=>.dead⟩
 |.br b x y=>.br b (l.toTr x) (l.toTr y)
 |.need p x=>.need p (l.toTr x)
def Lp.han(Γ:Gm)(l:Lp)(F:l.In->Fr l.Out)(s:St):Option Tr:=
 if s.n=l.n then match l.L.ext Γ s with
  |some (x,n)=>U (needL n (l.toTr (F x)))
  |none=>V
 else V
section
variable {P:Program} {B:Nat} {w w':World} {E:Env} {bs:Nat} {Γ:Gm}
def Lp.toTr_sat(l:Lp){Q:XE->St->Prop}:{f:Fr l.Out}->(l.toTr f).sat Q->f.satP λ
  |.next _=>False
  |.out y=>Q (.exit l.id) (l.E.tpl l.n y)
  |.back z=>Q .ret (l.R.tpl l.n z)
  |.pan p=>Q (.panic p) ⟨l.n,λ_=>.dead,λ_=>V,λ_=>.dead⟩
 |.val (.next _),h=>h.1
 |.val (.out _y),h=>h
 |.val (.back _z),h=>h
 |.val (.pan _),h=>h
 |.br _b _x _y,h=>⟨λhb=>l.toTr_sat (h.1 hb),λhb=>l.toTr_sat (h.2 hb)⟩
 |.need _p _x,h=>⟨h.1,l.toTr_sat h.2⟩
def Lp.rd_sat(l:Lp){Q:l.Round->Prop}:{t:Tr} -> {f:Fr l.Round}->l.rdOf Γ t=U f->f.satP Q->t.sat λe s=>match e with
  |.normal=>s.n=l.n/\∃ x n,l.L.ext Γ s=U (x,n)/\av n/\Q (.next x)
  |.exit i=>i=l.id/\s.n=l.n/\∃ x n,l.E.ext Γ s=U (x,n)/\av n/\Q (.out x)
  |.ret=>s.n=l.n/\∃ x n,l.R.ext Γ s=U (x,n)/\av n/\Q (.back x)
  |.panic p=>s.n=l.n/\Q (.pan p)
  |.val _=>False
  |.jump _=>False
 |.leaf .normal s,f,h,hq=>by
  simp only[Lp.rdOf]at h;split at h<;>try trivial
  rename_i m;split at h<;>try trivial
  rename_i x n j;cases h;obtain⟨q,u⟩:=E4 hq;exact⟨m,x,n,j,q,u⟩
 |.leaf (.exit i) s,f,h,hq=>by
  simp only[Lp.rdOf]at h;split at h<;>try trivial
  rename_i m;split at h<;>try trivial
  rename_i x n j;cases h;obtain⟨q,u⟩:=E4 hq;exact⟨m.1,m.2,x,n,j,q,u⟩
 |.leaf .ret s,f,h,hq=>by
  simp only[Lp.rdOf]at h;split at h<;>try trivial
  rename_i m;split at h<;>try trivial
  rename_i x n j;cases h;obtain⟨q,u⟩:=E4 hq;exact⟨m,x,n,j,q,u⟩
 |.leaf (.panic p) s,f,h,hq=>by
  simp only[Lp.rdOf]at h;split at h<;>try trivial
  rename_i m;cases h;exact⟨m,hq⟩
 |.leaf (.val _) s,f,h,hq=>by simp[Lp.rdOf]at h
 |.leaf (.jump _) s,f,h,hq=>by simp[Lp.rdOf]at h
 |.br b x y,f,h,hq=>by
  simp only[Lp.rdOf]at h;split at h<;>try trivial
  rename_i F H j w;cases h;exact⟨λhb=>l.rd_sat j (hq.1 hb),λhb=>l.rd_sat w (hq.2 hb)⟩
 |.need p x,f,h,hq=>by
  simp only[Lp.rdOf]at h;split at h<;>try trivial
  rename_i F j;cases h;have:=l.rd_sat j hq.2;exact⟨hq.1,this⟩
 |.two p x y,f,h,hq=>by
  simp only[Lp.rdOf]at h;split at h<;>try trivial
  rename_i F H j w;cases h;refine⟨λC=>l.rd_sat j (nL (hq.1 C).1 ?_),l.rd_sat w hq.2⟩;rw[(hq.1 C).2];exact(cO hq.2).2
end
inductive Oc (α:Type) where
 |ok (x:α)
 |pan (p:PV)
def Pp:(ts:List Ty)->aa ts
 |[]=>()
 |t::r=>(t.dflt,Pp r)
def Oc.bad:Oc α->Bool
 |.ok _=>Y
 |.pan _=>Z
def Oc.pv:Oc α->PV
 |.ok _=>⟨0,.i64,0⟩
 |.pan p=>p
def Oc.val{ts:List Ty}:Oc (aa ts)->aa ts
 |.ok x=>x
 |.pan _=>Pp ts
def Bp(P:Program)(i:List ResultVar)(rs:List Ty)(s:St):Option (Fr (Oc (aa rs))):=
 match gv P s i with
 |some (vs,n)=>match dK s.mem vs with
  |some (xs,_)=>match g9 rs xs with
   |some y=>U (Fr.needL n (.val (.ok y)))
   |none=>V
  |none=>V
 |none=>V
def iL(P:Program)(i:List ResultVar)(rs:List Ty):Tr->Option (Fr (Oc (aa rs)))
 |.leaf .ret s=>Bp P i rs s
 |.leaf .normal s=>Bp P i rs s
 |.leaf (.panic p) _=>U (.val (.pan p))
 |.leaf _ _=>V
 |.br b x y=>match iL P i rs x,iL P i rs y with
  |some j,U m=>U (.br b j m)
  |_,_=>V
 |.need p x=>match iL P i rs x with
  |some j=>U (.need p j)
  |none=>V
 |.two p x y=>match iL P i rs x,iL P i rs y with
  |some j,U m=>U (.need (p->j.ok/\j.get=m.get) m)
  |_,_=>V
def KB(P:Program)(C:Cx)(Λ:Nat->St->Option Tr)(fn:Func)(ps:List PT)(rs:List Ty)(xs:ag ps):Option (Fr (Oc (aa rs))):=
 match fn.body with
 |some c=>if (fn.name == "runtime.NumGoroutine")=Y/\ps.length<=fn.ntmps then match cr P C 0 Λ c 0 (sj fn.ntmps (eI ps xs))with
   |some t=>iL P fn.results.toList rs t
   |none=>V
  else V
 |none=>V
section
variable {P:Program} {w w':World} {E:Env} {F F':Nat->Prop} {γ γ':Nat->Value}
def ua{w:List ResultVar}{rs:List Ty}:{t:Tr} -> {f:Fr (Oc (aa rs))}->iL P w rs t=U f->f.ok->t.sat λe s=>match e with
  |.panic p=>f.get=.pan p
  |.ret=>∃ vs n xs u y,gv P s w=U (vs,n)/\av n/\dK s.mem vs=U (xs,u)/\g9 rs xs=U y/\f.get=.ok y
  |.normal=>∃ vs n xs u y,gv P s w=U (vs,n)/\av n/\dK s.mem vs=U (xs,u)/\g9 rs xs=U y/\f.get=.ok y
  |_=>False
 |.leaf e s,f,h,j=>by
  have key:Bp P w rs s=U f->∃ vs n xs u y,gv P s w=U (vs,n)/\av n/\dK s.mem vs=U (xs,u)/\g9 rs xs=U y/\f.get=.ok y:=λh=>by
   unfold Bp at h;split at h<;>try trivial
   rename_i vs n N;split at h<;>try trivial
   rename_i xs u m;split at h<;>try trivial
   rename_i y q;cases h;exact⟨vs,n,xs,u,y,N,(uM _ j).1,m,q,uK _⟩
  cases e with
  |exit i=>simp[iL]at h
  |panic p=>
   simp only[iL,uck]at h;subst h;rfl
  |val v=>simp[iL]at h
  |jump v=>simp[iL]at h
  |normal=>exact key h
  |ret=>exact key h
 |.br b x y,f,h,j=>by
  simp only[iL]at h;split at h<;>try trivial
  rename_i F O m q;cases h;refine⟨λhb=>?_,λhb=>?_⟩;have:=ua m (j.1 hb);simpa only[Fr.get,hb,if_true]using this;have:=ua q (j.2 hb);simpa only[Fr.get,hb,ub2,ufn]using this
 |.need p x,f,h,j=>by
  simp only[iL]at h;split at h<;>try trivial
  rename_i F m;cases h;have:=ua m j.2;exact⟨j.1,this⟩
 |.two p x y,f,h,j=>by
  simp only[iL]at h;split at h<;>try trivial
  rename_i F O m q;cases h;have H:=ua q j.2;refine⟨λC=>?_,H⟩;have:=ua m (j.1 C).1
  rwa [(j.1 C).2]at this
def rV:{ps:List PT} -> {xs:ag ps} -> {vs:List Value}->cJ P w F ps xs vs->vs.length=ps.length
 |[],_,_,h=>by cases h;rfl
 |_::_,_,_,⟨_,_,i,_,j⟩=>by subst i;simp[rV j]
def Q0{C:Cx}(hC:CxOK P C){Λ:Nat->St->Option Tr}{fn:Func}{ps:List PT}{rs:List Ty}{fr:ag ps->Fr (Oc (aa rs))}(x0:ag ps)(hf:P.funcs[f]?= U fn)(hΛ:∀ c E,fn.body=U c->bP P E Λ c 0)(N:∀ xs,KB P C Λ fn ps rs xs=U (fr xs)):
  jz P f ⟨ps,rs,λxs=>(fr xs).get.val,λxs=>(fr xs).get.bad,λxs=>(fr xs).get.pv,λxs=>[(fr xs).ok]⟩:=by
 have h0:=N x0;unfold KB at h0;split at h0<;>try trivial
 rename_i c hb;split at h0<;>try trivial
 rename_i hc;refine⟨enters hf hb hc.1,λw F xs vs hbd hr hok=>ufa hf hb ?_⟩;have j:=N xs;unfold KB at j;simp only[hb,hc,ufm,if_true]at j;split at j<;>try trivial
 rename_i t ht;have hlen:vs.length=ps.length:=rV hr;have m:=vV (D:=[]) (n:=fn.ntmps) hbd (λR=>mO hr) (by omega);have hwp:=fR hC c 0 (hΛ c _ hb) ht (ua j hok) m;have hsz:(vs.toArray).size=vs.length:=by simp
 refine wp_mono hwp ?_;rintro e a' w' ⟨xe,s,rfl,⟨F',γ',hi⟩,S⟩;obtain⟨γ0,h0⟩:=hi.step;have q:(∃ vs n Q u y,gv P s fn.results.toList=U (vs,n)/\av n/\dK s.mem vs=U (Q,u)/\g9 rs Q=U y/\(fr xs).get=.ok y) ->
   a'.defers=[]/\∃ v,(results fn a'.tmps).run P w'=.ok v w'/\(((fr xs).get.bad=Y/\fJ w F rs (fr xs).get.val (.returned v) w')\/((fr xs).get.bad=Z/\Ending.returned v=.panicked [{ v:=(fr xs).get.pv.val,recovered:=Y }]/\Below w.heap.size w w')):=by
  rintro⟨vs,n,Q,u,y,hres,hn,hrs,W,H⟩;obtain⟨us,hran,O⟩:=nz hi hres hn;obtain⟨F'',hs,hm',_,hxs⟩:=iy hi.mem (dv hi) (cX.of λ_ _ h=>h) hrs O;have i:=h0.trans hs;refine⟨hi.df,_,pz hran,.inl ⟨by rw[H];rfl,_,F'',rfl,⟨i.os,i.tape,i.output,i.size,i.old⟩,i.hF,λb hb=>⟨i.new b hb,i.bd b hb⟩,?_⟩⟩;rw[H];exact vH (lC W hxs)
 cases xe with
 |normal=>exact q S
 |ret=>exact q S
 |panic p=>
  have hx':=S;refine⟨hi.df,.inr ⟨?_,?_,⟨h0.os,h0.tape,h0.output,h0.size,h0.old⟩⟩⟩;show(fr xs).get.bad=Z;rw[hx'];rfl;show Ending.panicked _=Ending.panicked [{ v:=(fr xs).get.pv.val,recovered:=Y }];rw[hx'];rfl
 |exit _=>exact S.elim
 |val _=>exact S.elim
 |jump _=>exact S.elim
def OP{ct:Pc}(h:jz P f ct)(g:ag ct.ps->aa ct.rs)(bad:ag ct.ps->Bool)(pv:ag ct.ps->PV)(ok:ag ct.ps->List Prop)(hg:∀ w F xs vs,cJ P w F ct.ps xs vs->av (ok xs)->av (ct.ok xs)/\ct.bad xs=bad xs/\(bad xs=Y->ct.f xs=g xs)/\(bad xs=Z->ct.pv xs=pv xs)):jz P f ⟨ct.ps,ct.rs,g,bad,pv,ok⟩:=by
 refine⟨h.1,λw F xs vs hb t m=>?_⟩;obtain⟨u,q,C,H⟩:=hg w F xs vs t m;refine(h.2 w F xs vs hb t u).mono λe w' N=>?_;rcases N with ⟨b,O⟩|⟨b,rfl,j⟩
 have i:=q ▸ b;refine .inl ⟨i,?_⟩;show fJ w F ct.rs (g xs) e w';rw[<- C i];exact O;have i:=q ▸ b;refine .inr ⟨i,?_,j⟩;rw[H i]
end
structure Pt where
 n:Nat
 id:Nat
 M:LS
 E:LS
 R:LS
def Pt.lp(p:Pt):Lp:=⟨p.n,p.id,p.M,p.E,p.R⟩
abbrev Pt.Out(p:Pt):Type:=Rd p.M.X p.E.X p.R.X
def zI(P:Program)(E:Env)(p:Pt)(Q:p.Out->Prop)(e:Exit)(a:Act)(w:World):Prop:=
 ∃ r,Q r/\match r with
  |.next m=>e=.normal/\I P E (p.M.tpl p.n m) a w
  |.out y=>e=.exit p.id/\I P E (p.E.tpl p.n y) a w
  |.back z=>e=.ret/\I P E (p.R.tpl p.n z) a w
  |.pan v=>e=.panic [{ v:=v.val,recovered:=Y }]/\∃ s,s.n=p.n/\I P E s a w
def ae(P:Program)(c:Code)(L:LS)(p:Pt)(f:L.X->Fr p.Out):Prop:=
 ∀ (E:Env) (a:Act) (w:World) (x:L.X) (Q:p.Out->Prop),I P E (L.tpl p.n x) a w->(f x).satP Q->c.wp P (zI P E p Q) a w
def nB(P:Program)(C:Cx)(bs:Nat)(Λ:Nat->St->Option Tr)(c:Code)(L:LS)(p:Pt)(x:L.X):Option (Fr p.Out):=
 match cr P C bs Λ c 0 (L.tpl p.n x)with
 |some t=>p.lp.rdOf C.Γ t
 |none=>V
def Fr.bindR{X i j W:Type}(k:X->Fr (Rd W i j)):Fr (Rd X i j)->Fr (Rd W i j)
 |.val (.next m)=>k m
 |.val (.out y)=>.val (.out y)
 |.val (.back z)=>.val (.back z)
 |.val (.pan p)=>.val (.pan p)
 |.br b x y=>.br b (x.bindR k) (y.bindR k)
 |.need p x=>.need p (x.bindR k)
def Fr.outR{i j W:Type}:Fr (Rd i i j)->Fr (Rd i W j)
 |.val (.next m)=>.val (.next m)
 |.val (.out y)=>.val (.next y)
 |.val (.back z)=>.val (.back z)
 |.val (.pan p)=>.val (.pan p)
 |.br b x y=>.br b x.outR y.outR
 |.need p x=>.need p x.outR
section
variable {P:Program} {E:Env}
def Fr.bindR_sat{X i j W:Type}{k:X->Fr (Rd W i j)}{Q:Rd W i j->Prop}:{f:Fr (Rd X i j)}->(f.bindR k).satP Q->f.satP λ
  |.next m=>(k m).satP Q
  |.out y=>Q (.out y)
  |.back z=>Q (.back z)
  |.pan p=>Q (.pan p)
 |.val (.next _),h=>h
 |.val (.out _),h=>h
 |.val (.back _),h=>h
 |.val (.pan _),h=>h
 |.br _b _x _y,h=>⟨λhb=>bindR_sat (h.1 hb),λhb=>bindR_sat (h.2 hb)⟩
 |.need _p _x,h=>⟨h.1,bindR_sat h.2⟩
def Fr.outR_sat{i j W:Type}{Q:Rd i W j->Prop}:{f:Fr (Rd i i j)}->f.outR.satP Q->f.satP λ
  |.next m=>Q (.next m)
  |.out y=>Q (.next y)
  |.back z=>Q (.back z)
  |.pan p=>Q (.pan p)
 |.val (.next _),h=>h
 |.val (.out _),h=>h
 |.val (.back _),h=>h
 |.val (.pan _),h=>h
 |.br _b _x _y,h=>⟨λhb=>outR_sat (h.1 hb),λhb=>outR_sat (h.2 hb)⟩
 |.need _p _x,h=>⟨h.1,outR_sat h.2⟩
def Fr.satP_mono{Q i:α->Prop}(h:∀ x,Q x->i x):{f:Fr α}->f.satP Q->f.satP i
 |.val _,hq=>h _ hq
 |.br _ _ _,hq=>⟨λhb=>satP_mono h (hq.1 hb),λhb=>satP_mono h (hq.2 hb)⟩
 |.need _ _,hq=>⟨hq.1,satP_mono h hq.2⟩
def ae.of_run{C:Cx}(S:CxOK P C){bs:Nat}{Λ:Nat->St->Option Tr}{c:Code}{L:LS}{p:Pt}(hM:p.M.low=Z)(hE:p.E.low=Z)(hR:p.R.low=Z)(hΛ:∀ E,bP P E Λ c 0){f:L.X->Fr p.Out}(hr:∀ x,nB P C bs Λ c L p x=U (f x)):ae P c L p f:=by
 intro E a w x Q hi hq;have F:=hr x;unfold nB at F;split at F<;>try trivial
 rename_i t ht;have N:=p.lp.rd_sat F hq;refine wp_mono (fR S c 0 (hΛ E) ht N hi) ?_;rintro e a' w' ⟨xe,s',rfl,u,j⟩;cases xe with
 |normal=>
  obtain⟨m,y,W,O,H,q⟩:=j;have:=jG S.ct hM u O H;rw[m]at this;exact⟨.next y,q,rfl,this⟩
 |exit i=>
  obtain⟨rfl,m,y,W,O,H,q⟩:=j;have:=jG S.ct hE u O H;rw[m]at this;exact⟨.out y,q,rfl,this⟩
 |ret=>
  obtain⟨m,y,W,O,H,q⟩:=j;have:=jG S.ct hR u O H;rw[m]at this;exact⟨.back y,q,rfl,this⟩
 |panic v=>exact⟨.pan v,j.2,rfl,s',j.1,u⟩
 |val _=>exact j.elim
 |jump _=>exact j.elim
def ae.conv{c:Code}{L:LS}{p:Pt}{f g:L.X->Fr p.Out}(h:ae P c L p f)(hg:∀ x Q,(g x).satP Q->(f x).satP Q):ae P c L p g:=
 λE a w x Q hi hq=>h E a w x Q hi (hg x Q hq)
def ae.seq{a b:Code}{L M N Eo R:LS}{id:Nat}{f:L.X->Fr (Rd M.X Eo.X R.X)}{g:M.X->Fr (Rd N.X Eo.X R.X)}(C:ae P a L ⟨n,id,M,Eo,R⟩ f)(hg:ae P b M ⟨n,id,N,Eo,R⟩ g):
  ae P (.seq a b) L ⟨n,id,N,Eo,R⟩ λx=>(f x).bindR g:=by
 intro E u w x Q hi hq;refine wp_seq (wp_mono (C E u w x _ hi (Fr.bindR_sat hq)) ?_);rintro e t w' ⟨r,q,j⟩;cases r with
 |next m=>
  obtain⟨rfl,i⟩:=j;exact hg E t w' m Q i q
 |out y=>
  obtain⟨rfl,i⟩:=j;exact⟨.out y,q,rfl,i⟩
 |back z=>
  obtain⟨rfl,i⟩:=j;exact⟨.back z,q,rfl,i⟩
 |pan v=>
  obtain⟨rfl,i⟩:=j;exact⟨.pan v,q,rfl,i⟩
def ae.block{c:Code}{L M Eo R:LS}{id t:Nat}{f:L.X->Fr (Rd M.X M.X R.X)}(h:ae P c L ⟨n,id,M,M,R⟩ f):ae P (.block id c) L ⟨n,t,M,Eo,R⟩ λx=>(f x).outR:=by
 intro E u w x Q hi hq;refine wp_block (wp_mono (h E u w x _ hi (Fr.outR_sat hq)) ?_);rintro e C w' ⟨r,q,j⟩;cases r with
 |next m=>
  obtain⟨rfl,i⟩:=j;exact⟨.next m,q,rfl,i⟩
 |out y=>
  obtain⟨rfl,i⟩:=j;unfold Exit.inBlock;simp;exact⟨.next y,q,rfl,i⟩
 |back z=>
  obtain⟨rfl,i⟩:=j;exact⟨.back z,q,rfl,i⟩
 |pan v=>
  obtain⟨rfl,i⟩:=j;exact⟨.pan v,q,rfl,i⟩
def ae.loop {c:Code} {L N Eo R:LS} {id:Nat} {f:L.X->Fr (Rd L.X Eo.X R.X)} (h:ae P c L ⟨n,id,L,Eo,R⟩ f) {F:L.X->Fr (Rd N.X Eo.X R.X)} {inv:L.X->Prop} {μ:L.X->Nat}
  (u:∀ x,inv x->∀ Q:Rd N.X Eo.X R.X->Prop,(F x).satP Q->(f x).satP λ
   |.next q=>inv q/\μ q<μ x/\(F q).satP Q
   |.out y=>Q (.out y)
   |.back z=>Q (.back z)
   |.pan p=>Q (.pan p)) (t:∀ x Q,(F x).satP Q->inv x):ae P (.loop c) L ⟨n,id,N,Eo,R⟩ F:=by
 intro E a w x Q hi hq;refine zdd (λm a w=>∃ x,inv x/\μ x=m/\I P E (L.tpl n x) a w/\(F x).satP Q) ⟨μ x,x,t x Q hq,rfl,hi,hq⟩ ?_;rintro m a w ⟨x,S,rfl,O,H⟩;refine wp_mono (h E a w x _ O (u x S Q H)) ?_;rintro e W w' ⟨r,j,C⟩;cases r with
 |next q=>
  obtain⟨rfl,i⟩:=C;exact⟨μ q,j.2.1,q,j.1,rfl,i,j.2.2⟩
 |out y=>
  obtain⟨rfl,i⟩:=C;exact⟨.out y,j,rfl,i⟩
 |back z=>
  obtain⟨rfl,i⟩:=C;exact⟨.back z,j,rfl,i⟩
 |pan v=>
  obtain⟨rfl,i⟩:=C;exact⟨.pan v,j,rfl,i⟩
def Pt.toTr(p:Pt):Fr p.Out->Tr
 |.val (.next m)=>.leaf .normal (p.M.tpl p.n m)
 |.val (.out y)=>.leaf (.exit p.id) (p.E.tpl p.n y)
 |.val (.back z)=>.leaf .ret (p.R.tpl p.n z)
 |.val (.pan v)=>.leaf (.panic v) ⟨p.n,λ_=>.dead,λ_=>V,λ_=>.dead⟩
 |.br b x y=>.br b (p.toTr x) (p.toTr y)
 |.need q x=>.need q (p.toTr x)
def Pt.han(Γ:Gm)(L:LS)(p:Pt)(F:L.X->Fr p.Out)(s:St):Option Tr:=
 if s.n=p.n then match L.ext Γ s with
  |some (x,n)=>U (needL n (p.toTr (F x)))
  |none=>V
 else V
def Pt.toTr_sat(p:Pt){Q:XE->St->Prop}:{f:Fr p.Out}->(p.toTr f).sat Q->f.satP λ
  |.next m=>Q .normal (p.M.tpl p.n m)
  |.out y=>Q (.exit p.id) (p.E.tpl p.n y)
  |.back z=>Q .ret (p.R.tpl p.n z)
  |.pan v=>Q (.panic v) ⟨p.n,λ_=>.dead,λ_=>V,λ_=>.dead⟩
 |.val (.next _),h=>h
 |.val (.out _),h=>h
 |.val (.back _),h=>h
 |.val (.pan _),h=>h
 |.br _b _x _y,h=>⟨λhb=>p.toTr_sat (h.1 hb),λhb=>p.toTr_sat (h.2 hb)⟩
 |.need _q _x,h=>⟨h.1,p.toTr_sat h.2⟩
def ae.han{C:Cx}(hC:CxOK P C){c:Code}{L:LS}{p:Pt}{F:L.X->Fr p.Out}(hL:L.low=Z)(h:ae P (.loop c) L p F):i5 P E c (p.han C.Γ L F):=by
 intro s t H Q hq a w hi;unfold Pt.han at H;split at H<;>try trivial
 rename_i W;split at H<;>try trivial
 rename_i x n hx;cases H;obtain⟨O,S⟩:=jm _ hq;have i:=jG hC.ct hL hi hx O;rw[W]at i;refine wp_mono (h E a w x _ i (p.toTr_sat S)) ?_;rintro e a' w' ⟨r,u,q⟩;cases r with
 |next m=>
  obtain⟨rfl,i⟩:=q;exact⟨.normal,_,rfl,i,u⟩
 |out y=>
  obtain⟨rfl,i⟩:=q;exact⟨.exit p.id,_,rfl,i,u⟩
 |back z=>
  obtain⟨rfl,i⟩:=q;exact⟨.ret,_,rfl,i,u⟩
 |pan v=>
  obtain⟨rfl,s',N,i⟩:=q;have j:I P E ⟨p.n,λ_=>.dead,λ_=>V,λ_=>.dead⟩ a' w':=by
   have:=jG hC.ct (L:=⟨[],[]⟩) rfl i rfl trivial;rw[N]at this;obtain⟨F',γ',h⟩:=this;exact⟨F',γ',h.n,h.df,h.step,h.mem,λt=>uT,λt g want v ht=>(nomatch ht),λt=>uT⟩
  exact⟨.panic v,_,rfl,j,u⟩
end
def Bk:(ts:List Ty)->aa ts
 |[]=>()
 |t::r=>(t.dflt,Bk r)
def aW:(ps:List PT)->ag ps
 |[]=>()
 |.d t::r=>(t.dflt,aW r)
 |.ptr t::r=>(t.dflt,aW r)
 |.fn _ rs::r=>(λ_=>Bk rs,aW r)
 |.pf _ rs::r=>((λ_=>Bk rs,λ_=>False),aW r)
 |.pfn _ rs::r=>(λ_=>Bk rs,aW r)
 |.pk _::r=>((),aW r)
def H0:(fs:List YF)->jD fs
 |[]=>()
 |(U _,_)::r=>([],H0 r)
 |(V,t)::r=>(t.dflt,H0 r)
def bN:(ms:List MI)->cR ms
 |[]=>()
 |.o _ _ _::r=>([],bN r)
 |.x _ _ ty::r=>(ty.dflt,bN r)
 |.r _ _ _::r=>bN (r)
 |.y _ _ fs::r=>(H0 fs,bN r)
 |.g _ _ _::r=>bN (r)
 |.al _ _::r=>bN (r)
def cu:List (FuncId×α)->FuncId->Option α
 |[],_=>V
 |(g,c)::r,f=>if f=g then U c else cu r f
def iz(P:Program):List (FuncId×Ct)->Prop
 |[]=>True
 |(f,c)::r=>af P f c/\iz P r
def qi(P:Program):List (FuncId×Pc)->Prop
 |[]=>True
 |(f,c)::r=>jz P f c/\qi P r
def iz.get:{l:List (FuncId×Ct)}->iz P l->∀ f c,cu l f=U c->af P f c
 |[],_,f,c,h=>by simp[cu]at h
 |(g,c0)::r,j,f,c,h=>by
  unfold cu at h;split at h;rename_i i;injection h with h
  subst h i;exact j.1;exact iz.get j.2 f c h
def qi.get:{l:List (FuncId×Pc)}->qi P l->∀ f c,cu l f=U c->jz P f c
 |[],_,f,c,h=>by simp[cu]at h
 |(g,c0)::r,j,f,c,h=>by
  unfold cu at h;split at h;rename_i i;injection h with h
  subst h i;exact j.1;exact qi.get j.2 f c h
def cx(cs:List (FuncId×Ct))(ps:List (FuncId×Pc)):Cx:=⟨cu cs,cu ps,λ_ _ _ _=>V⟩
def cW(cs:List (FuncId×Ct))(ps:List (FuncId×Pc))(K:Nat->FuncId->List AV->St->Option Tr):Cx:=⟨cu cs,cu ps,K⟩
def aP(i:P.follows .mixedOrders=Z){cs:List (FuncId×Ct)}{ps:List (FuncId×Pc)}(h:iz P cs)(k:qi P ps):CxOK P (cx cs ps):=
 ⟨i,⟨h.get,λ_ _ h=>(nomatch h)⟩,k.get,λ_ _ _ _ _ h=>(nomatch h)⟩
def cZ(j:P.follows .mixedOrders=Z){cs:List (FuncId×Ct)}{ps:List (FuncId×Pc)}{K:Nat->FuncId->List AV->St->Option Tr}(h:iz P cs)(k:qi P ps)(i:gQ P K):CxOK P (cW cs ps K):=
 ⟨j,⟨h.get,λ_ _ h=>(nomatch h)⟩,k.get,i⟩
def ws(P:Program):List (FuncId×Row)->Prop
 |[]=>True
 |(f,r)::l=>zZ P f r/\ws P l
def ws.get:{l:List (FuncId×Row)}->ws P l->∀ f c,cu l f=U c->zZ P f c
 |[],_,f,c,h=>by simp[cu]at h
 |(g,c0)::r,i,f,c,h=>by
  simp only[cu]at h;split at h;rename_i j;subst j;cases h;exact i.1;exact ws.get i.2 f c h
def l8(cs:List (FuncId×Ct))(ps:List (FuncId×Pc))(rs:List (FuncId×Row))(K:Nat->FuncId->List AV->St->Option Tr):Cx:=⟨⟨cu cs,cu rs⟩,cu ps,K⟩
def mI(j:P.follows .mixedOrders=Z){cs:List (FuncId×Ct)}{ps:List (FuncId×Pc)}{rs:List (FuncId×Row)}{K:Nat->FuncId->List AV->St->Option Tr}(h:iz P cs)(k:qi P ps)(l:ws P rs)(i:gQ P K):CxOK P (l8 cs ps rs K):=
 ⟨j,⟨h.get,l.get⟩,k.get,i⟩
def bw:Nat->St->Option Tr:=λ_ _=>V
def aY{E:Env}:(c:Code)->(k:Nat)->bP P E bw c k
 |.seq a b,k=>⟨aY a k,aY b _⟩
 |.cond _ a b,k=>⟨aY a k,aY b _⟩
 |.block _ c,k=>aY c k
 |.scope c,k=>aY c k
 |.loop _,_=>λ_ _ h=>nomatch h
 |.skip,_=>trivial
 |.ret,_=>trivial
 |.exit _,_=>trivial
 |.region _ _ _,_=>trivial
 |.label _,_=>trivial
 |.goto _,_=>trivial
 |.rangeFunc _ _ _ _,_=>trivial
 |.refuse _,_=>trivial
def loopB:Code->Nat->Option Code
 |.loop c,0=>U c
 |.seq a b,k=>if k<ce a then loopB a k else loopB b (k-ce a)
 |.cond _ a b,k=>if k<ce a then loopB a k else loopB b (k-ce a)
 |.block _ c,k=>loopB c k
 |.scope c,k=>loopB c k
 |_,_=>V
def au(f:Func)(k:Nat):Code:=(f.body.bind (loopB · k)).getD .skip
def loopB_lt:{c:Code} -> {k:Nat} -> {b:Code}->loopB c k=U b->k<ce c
 |.loop _,0,_,_=>udr
 |.loop _,_+1,_,h=>by simp[loopB]at h
 |.seq x y,k,b,h=>by
  simp only[loopB]at h;simp only[ce];split at h;omega;have:=loopB_lt h;omega
 |.cond _ x y,k,b,h=>by
  simp only[loopB]at h;simp only[ce];split at h;omega;have:=loopB_lt h;omega
 |.block _ c,k,b,h=>loopB_lt (c:=c) h
 |.scope c,k,b,h=>loopB_lt (c:=c) h
 |.skip,_,_,h=>by simp[loopB]at h
 |.region _ _ _,_,_,h=>by simp[loopB]at h
 |.ret,_,_,h=>by simp[loopB]at h
 |.exit _,_,_,h=>by simp[loopB]at h
 |.label _,_,_,h=>by simp[loopB]at h
 |.goto _,_,_,h=>by simp[loopB]at h
 |.rangeFunc _ _ _ _,_,_,h=>by simp[loopB]at h
 |.refuse _,_,_,h=>by simp[loopB]at h
def jJ{E:Env}{Λ:Nat->St->Option Tr}:(c:Code)->(k:Nat)->(∀ i b,loopB c i=U b->i5 P E b (Λ (k+i)))->bP P E Λ c k
 |.loop b,k,h=>h 0 b rfl
 |.seq x y,k,h=>⟨jJ x k λi b hb=>h i b (by simp only[loopB];rw[if_pos (loopB_lt hb)];exact hb),jJ y _ λi b hb=>by
   have:=h (ce x+i) b (by simp only[loopB];rw[if_neg (by omega),uax];exact hb)
   rwa [<- uee]at this⟩
 |.cond _ x y,k,h=>⟨jJ x k λi b hb=>h i b (by simp only[loopB];rw[if_pos (loopB_lt hb)];exact hb),jJ y _ λi b hb=>by
   have:=h (ce x+i) b (by simp only[loopB];rw[if_neg (by omega),uax];exact hb)
   rwa [<- uee]at this⟩
 |.block _ c,k,h=>jJ c k h
 |.scope c,k,h=>jJ c k h
 |.skip,_,_=>trivial
 |.ret,_,_=>trivial
 |.exit _,_,_=>trivial
 |.region _ _ _,_,_=>trivial
 |.label _,_,_=>trivial
 |.goto _,_,_=>trivial
 |.rangeFunc _ _ _ _,_,_=>trivial
 |.refuse _,_,_=>trivial
def kP{E:Env}{Λ:Nat->St->Option Tr}{c b:Code}(t:ce c=1)(hb:loopB c 0=U b)(h:i5 P E b (Λ 0)):bP P E Λ c 0:=by
 refine jJ c 0 λi m j=>?_;have q:=loopB_lt j;have hi:i=0:=by omega
 subst hi;rw[hb]at j;cases j;exact h
def ea{E:Env}{Λ:Nat->St->Option Tr}{fn:Func}{c b:Code}(hc:fn.body=U c)(i:(fn.body.map ce)=U 1)(hb:fn.body.bind (loopB · 0)=U b)(h:i5 P E b (Λ 0)):bP P E Λ c 0:=by
 rw[hc]at i hb;exact kP (by simpa using i) (by simpa using hb) h
def C8{E:Env}{Λ:Nat->St->Option Tr}{fn:Func}{c b0 b1:Code}(hc:fn.body=U c)(t:(fn.body.map ce)=U 2)(m:fn.body.bind (loopB · 0)=U b0)(q:fn.body.bind (loopB · 1)=U b1)(h0:i5 P E b0 (Λ 0))(u:i5 P E b1 (Λ 1)):bP P E Λ c 0:=by
 rw[hc]at t m q;simp at t;simp at m q;refine jJ c 0 λi C j=>?_;have w:=loopB_lt j;have hi:i=0\/i=1:=by omega
 rcases hi with rfl|rfl
 rw[m]at j;cases j;exact h0;rw[q]at j;cases j;exact u
def flat{C:Cx}(j:CxOK P C){fn:Func}{ps:List PT}{rs:List Ty}{fr:ag ps->Fr (aa rs)}(x0:ag ps)(m:P.funcs[f]?= U fn)(i:∀ xs,mf P C bw fn ps rs xs=U (fr xs))(g:ag ps->aa rs)(ok:ag ps->List Prop)(hg:∀ w F xs vs,cJ P w F ps xs vs->av (ok xs)->(fr xs).ok/\(fr xs).get=g xs):af P f ⟨ps,rs,g,ok⟩:=
 conv (cf j x0 m (λc _E _=>aY c 0) i) g ok hg
def IK(P:Program)(Γ:Gm)(f:FuncId)(fn:Func)(L:LS)(p:Pt)(F:L.X->Fr p.Out)(_d:Nat)(g:FuncId)(args:List AV)(s:St):Option Tr:=
 if g=f/\args.length<=fn.ntmps/\p.n=fn.ntmps then
  match L.ext Γ ⟨fn.ntmps,λi=>args.getD i .dead,s.mem,s.at⟩with
  |some (x,n)=>match gn P fn.results.toList s.n (p.toTr (F x))with
   |some t=>U (needL n t)
   |none=>V
  |none=>V
 else V
def qnb{C:Cx}(hC:CxOK P C){fn:Func}{c:Code}(hf:P.funcs[f]?= U fn)(hb:fn.body=U c)(hn:(fn.name == "runtime.NumGoroutine")=Y){L:LS}(hL:L.low=Z){p:Pt}{F:L.X->Fr p.Out}(h:ae P c L p F):
  gQ P (IK P C.Γ f fn L p F):=by
 intro d g args s t W;unfold IK at W;split at W<;>try trivial
 rename_i N;obtain⟨rfl,hlen0,hpn⟩:=N;split at W<;>try trivial
 rename_i x n hx;split at W<;>try trivial
 rename_i t1 ht1;cases W;refine⟨enters hf hb hn,λE a w F0 γ vs Q hi hr hq=>ufa hf hb ?_⟩;have hlen:=hr.length;have u:=Vy (n:=fn.ntmps) hi hr (by omega);obtain⟨hq1,hq2⟩:=jm _ hq;have i:=jG hC.ct hL u hx hq1;have hsat:=qR ht1 hq2;have hsz:(vs.toArray).size=vs.length:=by simp
 have hi2:I P ⟨E.w0,E.F0,eZ a E,[],E.B,E.hB⟩ (L.tpl p.n x) { tmps:=vs.toArray++Array.replicate (fn.ntmps-vs.length) undef,defers:=[] } w:=by
  rw[hpn];exact i
 refine wp_mono (h _ _ w x _ hi2 (p.toTr_sat hsat)) ?_;rintro e a' w' ⟨r,q,hm⟩;have H:∀ s':St,I P ⟨E.w0,E.F0,eZ a E,[],E.B,E.hB⟩ s' a' w'->(∃ vs ns,gv P s' fn.results.toList=U (vs,ns)/\av ns/\Q (.val (rX vs)) (s'.back s.n))->a'.defers=[]/\∃ v,(results fn a'.tmps).run P w'=.ok v w'/\Fb P E a Q (.returned v) w':=by
  rintro s' ⟨F',γ',i⟩ ⟨vs,ns,hres,hns,hqv⟩;obtain⟨us,hran,S⟩:=nz i hres hns;exact⟨i.df,_,pz hran,_,_,F',γ',hqv,Cv hi i,_,rfl,U2 S⟩
 cases r with
 |next m=>
  obtain⟨rfl,j⟩:=hm;exact H _ j q
 |out y=>exact q.elim
 |back z=>
  obtain⟨rfl,j⟩:=hm;exact H _ j q
 |pan v=>
  obtain⟨rfl,s',hn',j⟩:=hm;have O:I P ⟨E.w0,E.F0,eZ a E,[],E.B,E.hB⟩ ⟨p.n,λ_=>.dead,λ_=>V,λ_=>.dead⟩ a' w':=by
   have:=jG hC.ct (L:=⟨[],[]⟩) rfl j rfl trivial;rw[hn']at this;obtain⟨F',γ',h⟩:=this;exact⟨F',γ',h.n,h.df,h.step,h.mem,λt=>uT,λt g want v W=>(nomatch W),λt=>uT⟩
  obtain⟨F',γ',h4⟩:=O;exact⟨h4.df,.panic v,_,F',γ',q,Cv hi h4,rfl⟩
def iS(K i:Nat->FuncId->List AV->St->Option Tr)(d:Nat)(f:FuncId)(args:List AV)(s:St):Option Tr:=
 match K d f args s with
 |some t=>U t
 |none=>i d f args s
def jN{K j:Nat->FuncId->List AV->St->Option Tr}(h:gQ P K)(m:gQ P j):gQ P (iS K j):=by
 intro d f args s t i;unfold iS at i;split at i;rename_i u q;cases i;exact h d f args s _ q;exact m d f args s t i
def qo9{E:Env}{Λ:Nat->St->Option Tr}{fn:Func}{c b0 b1 b2:Code}(hc:fn.body=U c)(u:(fn.body.map ce)=U 3)(m:fn.body.bind (loopB · 0)=U b0)(q:fn.body.bind (loopB · 1)=U b1)(t:fn.body.bind (loopB · 2)=U b2)(h0:i5 P E b0 (Λ 0))(w:i5 P E b1 (Λ 1))(C:i5 P E b2 (Λ 2)):bP P E Λ c 0:=by
 rw[hc]at u m q t;simp at u;simp at m q t;refine jJ c 0 λi H j=>?_;have F:=loopB_lt j;have hi:i=0\/i=1\/i=2:=by omega
 rcases hi with rfl|rfl|rfl
 rw[m]at j;cases j;exact h0;rw[q]at j;cases j;exact w;rw[t]at j;cases j;exact C
def dn{C:Cx}(i:CxOK P C){c:Code}{L:LS}{p:Pt}{f:L.X->Fr p.Out}(q:∀ x,nB P C 0 bw c L p x=U (f x):=by intro x;kernel_rfl)(m:p.M.low=true:=by rfl)(j:p.E.low=true:=by rfl)(hR:p.R.low=true:=by rfl):ae P c L p f:=
 ae.of_run i m j hR (λ_=>aY _ 0) q
abbrev bg(ps:List PT)(rs:List Ty)(fr:ag ps->Fr (aa rs)):Ct:=⟨ps,rs,λxs=>(fr xs).get,λxs=>[(fr xs).ok]⟩
def aS{C:Cx}(i:CxOK P C)(fn:Func){ps:List PT}{rs:List Ty}{fr:ag ps->Fr (aa rs)}(j:P.funcs[f]?= U fn:=by kernel_rfl)(h:∀ xs,mf P C bw fn ps rs xs=U (fr xs):=by intro x;kernel_rfl):af P f (bg ps rs fr):=
 cf i (aW ps) j (λc _ _=>aY c 0) h
section
variable {P:Program} {C:Cx} {fn:Func} {L1 L2 L3:LS} {p1 p2 p3:Pt} {F1:L1.X->Fr p1.Out} {F2:L2.X->Fr p2.Out} {F3:L3.X->Fr p3.Out} {f:FuncId} {ps:List PT} {rs:List Ty} {fr:ag ps->Fr (aa rs)}
def cS(i:CxOK P C)(j:ae P (.loop (au fn 0)) L1 p1 F1)(q:P.funcs[f]?= U fn:=by kernel_rfl)(t:fn.body.map ce=U 1:=by kernel_rfl)(hb:fn.body.bind (loopB · 0)=U (au fn 0):=by kernel_rfl)(m:L1.low=true:=by rfl)(h:∀ xs,mf P C (λ_=>p1.han C.Γ L1 F1) fn ps rs xs=U (fr xs):=by intro x;kernel_rfl):af P f (bg ps rs fr):=
 cf i (aW ps) q (λ_ _ hc=>ea hc t hb (ae.han i m j)) h
def oP(i:CxOK P C)(q:ae P (.loop (au fn 0)) L1 p1 F1)(t:ae P (.loop (au fn 1)) L2 p2 F2)(w:P.funcs[f]?= U fn:=by kernel_rfl)(F:fn.body.map ce=U 2:=by kernel_rfl)(hb:fn.body.bind (loopB · 0)=U (au fn 0):=by kernel_rfl)(m:fn.body.bind (loopB · 1)=U (au fn 1):=by kernel_rfl)(u:L1.low=true:=by rfl)(j:L2.low=true:=by rfl)(h:∀ xs,mf P C (λk=>if k=0 then p1.han C.Γ L1 F1 else p2.han C.Γ L2 F2) fn ps rs xs=U (fr xs):=by intro x;kernel_rfl):af P f (bg ps rs fr):=
 cf i (aW ps) w (λ_ _ hc=>C8 hc F hb m (ae.han i u q) (ae.han i j t)) h
def Qy(i:CxOK P C)(u:ae P (.loop (au fn 0)) L1 p1 F1)(w:ae P (.loop (au fn 1)) L2 p2 F2)(F:ae P (.loop (au fn 2)) L3 p3 F3)(N:P.funcs[f]?= U fn:=by kernel_rfl)(O:fn.body.map ce=U 3:=by kernel_rfl)(hb:fn.body.bind (loopB · 0)=U (au fn 0):=by kernel_rfl)(q:fn.body.bind (loopB · 1)=U (au fn 1):=by kernel_rfl)(t:fn.body.bind (loopB · 2)=U (au fn 2):=by kernel_rfl)(H:L1.low=true:=by rfl)(j:L2.low=true:=by rfl)(m:L3.low=true:=by rfl)(h:∀ xs,mf P C (λk=>if k=0 then p1.han C.Γ L1 F1 else if k=1 then p2.han C.Γ L2 F2 else p3.han C.Γ L3 F3) fn ps rs xs=U (fr xs):=by intro x;kernel_rfl):af P f (bg ps rs fr):=
 cf i (aW ps) N (λ_ _ hc=>qo9 hc O hb q t (ae.han i H u) (ae.han i j w) (ae.han i m F)) h
end
structure TolOK (P:Program) (g:FuncId) (T:TypeId) (k:IntKind):Prop where
 enter:∀ args w,(callFunc g args).run P w=.ok (.enter g args) w
 idle:∀ (p:Addr) (w:World),CallsD P g #[.pointer (some p)] .returning w λe u' w'=>(∃ v,e=.returned v)/\u'=.returning/\w'=w
 told:∀ (b:Nat) (ty:TypeId) (old:Value) (n:Int) (w:World),w.heap[b]?= some (.cells #[old] ty (0,0)) ->
  CallsD P g #[.pointer (some ⟨b,0,none⟩)] (.panicking [{ v:=.iface T (.int k n),recovered:=false }]) w λe u' w'=>
   (∃ v,e=.returned v)/\u'=.panicking [{ v:=.iface T (.int k n),recovered:=true }]/\w'=w.setRow b #[.int k n]
def Em(T:TypeId)(k:IntKind)(p:PV)(s:St):Option St:=
 match s.gs 0 with
 |.c (.ptr id 0)=>match s.mem id with
  |some (.box e [_])=>if p.ty=T/\p.k=k/\T<1000000 then U ⟨s.n,s.sl,upd s.mem id (.box e [.int k p.n]),s.gs⟩else V
  |_=>V
 |_=>V
def ia(P:Program)(T:TypeId)(k:IntKind)(i:List ResultVar)(rs:List Ty):Tr->Option (Fr (aa rs))
 |.leaf .ret s=>dh P i rs s
 |.leaf .normal s=>dh P i rs s
 |.leaf (.panic p) s=>match Em T k p s with
  |some q=>match dh P i rs q with
   |some f=>U (.need (inR k p.n) f)
   |none=>V
  |none=>V
 |.leaf _ _=>V
 |.br b x y=>match ia P T k i rs x,ia P T k i rs y with
  |some j,U m=>U (.br b j m)
  |_,_=>V
 |.need p x=>match ia P T k i rs x with
  |some j=>U (.need p j)
  |none=>V
 |.two p x y=>match ia P T k i rs x,ia P T k i rs y with
  |some j,U m=>U (.need (p->j.ok/\j.get=m.get) m)
  |_,_=>V
def K7(P:Program)(C:Cx)(Λ:Nat->St->Option Tr)(g:FuncId)(T:TypeId)(k:IntKind)(fn:Func)(ps:List PT)(rs:List Ty)(xs:ag ps):Option (Fr (aa rs)):=
 match fn.body with
 |some (.seq A (.seq (.region _ ops Y) c))=>if (fn.name == "runtime.NumGoroutine")=Y/\ps.length<=fn.ntmps then
   match ops.toList with
   |[⟨V,.defer ⟨.value (.func f),args,_⟩,_,_,_,V⟩]=>match args.toList with
    |[.tmp tp]=>if f=g then
      match cr P C 0 Λ A 0 (sj fn.ntmps (eI ps xs))with
      |some (.leaf .normal s1)=>match s1.sl tp with
       |.c (.ptr id 0)=>match cr P C 0 Λ c (ce A) ⟨s1.n,s1.sl,s1.mem,λt=>if t=0 then .c (.ptr id 0)else .dead⟩with
        |some t=>ia P T k fn.results.toList rs t
        |none=>V
       |_=>V
      |_=>V
     else V
    |_=>V
   |_=>V
  else V
 |_=>V
section
variable {P:Program} {w w':World} {E:Env} {F F':Nat->Prop} {γ γ':Nat->Value}
def tO{j:List ResultVar}{rs:List Ty}{s:St}{f:Fr (aa rs)}(h:dh P j rs s=U f)(i:f.ok):∃ n,dh P j rs s=U (Fr.needL n (.val f.get))/\av n:=by
 have h0:=h;unfold dh at h;split at h<;>try trivial
 split at h<;>try trivial
 split at h<;>try trivial
 cases h;refine⟨_,?_,(uM _ i).1⟩;rw[uK];exact h0
def qW{T:TypeId}{q:List ResultVar}{rs:List Ty}:{t:Tr} -> {f:Fr (aa rs)}->ia P T k q rs t=U f->f.ok->t.sat λe s=>match e with
  |.ret=>∃ n,dh P q rs s=U (Fr.needL n (.val f.get))/\av n
  |.normal=>∃ n,dh P q rs s=U (Fr.needL n (.val f.get))/\av n
  |.panic p=>∃ u n,Em T k p s=U u/\inR k p.n/\dh P q rs u=U (Fr.needL n (.val f.get))/\av n
  |_=>False
 |.leaf e s,f,h,j=>by
  cases e with
  |exit i=>simp[ia]at h
  |val i=>simp[ia]at h
  |jump i=>simp[ia]at h
  |normal=>exact tO h j
  |ret=>exact tO h j
  |panic p=>
   simp only[ia]at h;split at h<;>try trivial
   rename_i u F;split at h<;>try trivial
   rename_i W C;cases h;obtain⟨n,Q,w⟩:=tO C j.2;exact⟨u,n,F,j.1,Q,w⟩
 |.br b x y,f,h,j=>by
  simp only[ia]at h;split at h<;>try trivial
  rename_i O S m H;cases h;refine⟨λhb=>?_,λhb=>?_⟩;have:=qW m (j.1 hb);simpa only[Fr.get,hb,if_true]using this;have:=qW H (j.2 hb);simpa only[Fr.get,hb,ub2,ufn]using this
 |.need p x,f,h,j=>by
  simp only[ia]at h;split at h<;>try trivial
  rename_i O m;cases h;have:=qW m j.2;exact⟨j.1,this⟩
 |.two p x y,f,h,j=>by
  simp only[ia]at h;split at h<;>try trivial
  rename_i O S m H;cases h;have w:=qW H j.2;refine⟨λN=>?_,w⟩;have:=qW m (j.1 N).1
  rwa [(j.1 N).2]at this
def tP{fn:Func}{rs:List Ty}{s:St}{a:Act}{y:aa rs}{n:List Prop}(hi:InvG P E s a w [] F γ)(C:E.B=E.w0.heap.size)(h:dh P fn.results.toList rs s=U (Fr.needL n (.val y)))(hn:av n):
  ∃ v,(results fn a.tmps).run P w=.ok v w/\fJ E.w0 E.F0 rs y (.returned v) w:=by
 unfold dh at h;split at h<;>try trivial
 rename_i S n' t;split at h<;>try trivial
 rename_i W u N;split at h<;>try trivial
 rename_i y' m;injection h with h
 obtain⟨H,hy⟩:=uL h hn;subst hy;obtain⟨us,q,j⟩:=nz hi t H;obtain⟨F'',Q,hm',_,O⟩:=iy hi.mem (dv hi) (cX.of λ_ _ h=>h) N j;obtain⟨γ0,h0⟩:=hi.step;rw[C]at Q h0;have i:=h0.trans Q;exact⟨_,pz q,_,F'',rfl,⟨i.os,i.tape,i.output,i.size,i.old⟩,i.hF,λb hb=>⟨i.new b hb,i.bd b hb⟩,vH (lC m O)⟩
def JO(h:arr.size=1):∃ v,arr = #[v]:=by
 refine⟨arr[0]'(by omega),?_⟩;apply ufj;simp[h];intro i j m;have:i=0:=by omega
 subst this;rfl
def VY{T:TypeId}{p:PV}{s C:St}{a:Act}(hi:InvG P E s a w [] F γ)(h:Em T k p s=U C)(Q:inR k p.n):
  p.ty=T/\p.k=k/\T<1000000/\∃ b ty old,E.G 0=.pointer (U ⟨b,0,V⟩)/\w.heap[b]?= U (.cells #[old] ty (0,0))/\InvG P E C a (w.setRow b #[.int k p.n]) [] F γ:=by
 unfold Em at h;split at h<;>try trivial
 rename_i id i;split at h<;>try trivial
 rename_i e c0 u;split at h<;>try trivial
 rename_i m;cases h;have hg:=hi.gh 0;rw[i]at hg;obtain⟨b,arr,e1,e2,q,H,N,O,S⟩:=lw hi.mem u hg.2;obtain⟨old,rfl⟩:=JO (by simpa using O);have j:cF #[old] 0 [.int k p.n] = #[.int k p.n]:=by simp[cF]
 obtain⟨s1,s2⟩:=pJ (off:=0) (cs':=[.int k p.n]) (vs:=[.int k p.n]) hi.mem (dv hi) u e1 q H N (by simp) rfl ⟨⟨.int k p.n,by rw[j];rfl,rfl,rfl,Q⟩,uT⟩;refine⟨m.1,m.2.1,m.2.2,b,e,old,e2,q,⟨hi.n,hi.df,?_,s2,λt=>(hi.sl t).mono s1.hF s1.hw s1.hR,hi.hg,λt=>s1.repA (hi.gh t)⟩⟩;obtain⟨γ0,h0⟩:=hi.step;exact⟨γ0,h0.trans s1⟩
def qfa{C:Cx}(hC:CxOK P C){Λ:Nat->St->Option Tr}{g:FuncId}{T:TypeId}{fn:Func}{ps:List PT}{rs:List Ty}{fr:ag ps->Fr (aa rs)}(x0:ag ps)(hf:P.funcs[f]?= some fn)(hT:TolOK P g T k)(hΛ:∀ c E,fn.body=some c->bP P E Λ c 0)(hrun:∀ xs,K7 P C Λ g T k fn ps rs xs=some (fr xs)):af P f ⟨ps,rs,λxs=>(fr xs).get,λxs=>[(fr xs).ok]⟩:=by
 have h0:=hrun x0;unfold K7 at h0;split at h0<;>try trivial
 rename_i A rid ops c hb;split at h0<;>try trivial
 rename_i hc;refine⟨enters hf hb hc.1,λw F xs vs hbd hr hok=>ucd hf hb ?_⟩;have hr':=hrun xs;unfold K7 at hr';simp only[hb,hc,ufm,if_true]at hr';split at hr'<;>try trivial
 rename_i f0 args ats ty pos aft hops;split at hr'<;>try trivial
 rename_i tp hargs;split at hr'<;>try trivial
 rename_i hfg;subst hfg;split at hr'<;>try trivial
 rename_i s1 ht1;split at hr'<;>try trivial
 rename_i id hsl;split at hr'<;>try trivial
 rename_i t ht2;have hlam:=λE=>hΛ _ E hb;have hlen:vs.length=ps.length:=rV hr;have hstart:=vV (D:=[]) (n:=fn.ntmps) hbd (λR=>mO hr) (by omega);have hsz:(vs.toArray).size=vs.length:=by simp
 refine wp_seq (wp_mono (fR hC A 0 (hlam _).1 ht1 (Q:=λe s=>e=.normal/\s=s1) ⟨rfl,rfl⟩ hstart) ?_);rintro e a1 w1 ⟨xe,s,rfl,⟨F1,γ1,hi⟩,rfl,rfl⟩;obtain⟨ol⟩:=ops;subst hops;have hv0:=rm hi tp;rw[hsl]at hv0;obtain⟨_,b0,hR0,hv0⟩:=hv0;refine wp_seq (ufl ?_);have hargs':args = #[.tmp tp]:=by
  obtain⟨l⟩:=args;simp only at hargs;rw[hargs]
 subst hargs';have hev:a1.eval (.tmp tp)=.pointer (some ⟨b0,0,none⟩):=hv0;have hexec:(execOp a1.eval ⟨none,.defer ⟨.value (.func f0),#[.tmp tp],ats⟩,ty,pos,aft,none⟩).run P w1=.ok (.defer { target:=.fn (.func f0) #[],args:=#[.pointer (some ⟨b0,0,none⟩)] }) w1:=by
  have hef:a1.eval (.func f0)=.func (.func f0) #[] #[]:=rfl;simp[execOp,resolve,hev,hef,Deferred.ofValue]
 have hrange:List.range (#[(⟨none,.defer ⟨.value (.func f0),#[.tmp tp],ats⟩,ty,pos,aft,none⟩:Oper)]:Array Oper).size=[0]:=rfl;unfold wpOps;simp;have hw:Region.wanted (⟨none,.defer ⟨.value (.func f0),#[.tmp tp],ats⟩,ty,pos,aft,none⟩:Oper) (yielded #[(⟨none,.defer ⟨.value (.func f0),#[.tmp tp],ats⟩,ty,pos,aft,none⟩:Oper)] a1.tmps)=true:=rfl;refine .inl ?_;unfold Oper.wp;rw[hexec];have hi':InvG P ⟨w,F,λ_=>.pointer (some ⟨b0,0,none⟩),[{ target:=.fn (.func f0) #[],args:=#[.pointer (some ⟨b0,0,none⟩)] }],w.heap.size,ue6 _⟩ ⟨s.n,s.sl,s.mem,λt=>if t=0 then .c (.ptr id 0)else .dead⟩ { a1 with defers:={ target:=.fn (.func f0) #[],args:=#[.pointer (some ⟨b0,0,none⟩)] }::a1.defers } w1 [] F1 γ1:=by
  refine⟨hi.n,?_,hi.step,hi.mem,hi.sl,hi.hg,λt=>?_⟩
  ·show _::a1.defers=[_];rw[hi.df]
  ·show aE P w1 F1 _ (if t=0 then .c (.ptr id 0)else .dead) _;split
   ·exact⟨rfl,b0,hR0,rfl⟩
   ·trivial
 have hwp:=fR hC c (ce A) (by have:=(hlam ⟨w,F,λ_=>.pointer (some ⟨b0,0,none⟩),[{ target:=.fn (.func f0) #[],args:=#[.pointer (some ⟨b0,0,none⟩)] }],w.heap.size,ue6 _⟩).2.2;simpa[ce]using this) ht2 (qW hr' hok) ⟨F1,γ1,hi'⟩;refine wp_mono hwp ?_;rintro e a2 w2 ⟨xe,s2,rfl,⟨F2,γ2,hi2⟩,hx⟩;have hinv:∀ W,(invoke (.fn (.func f0) #[]) #[.pointer (some ⟨b0,0,none⟩)]).run P W=.ok (.enter f0 #[.pointer (some ⟨b0,0,none⟩)]) W:=λW=>by
  have:=hT.enter #[.pointer (some ⟨b0,0,none⟩)] W;simp[invoke,this]
 have hfin:(∃ n,dh P fn.results.toList rs s2=some (Fr.needL n (.val (fr xs).get))/\av n)->Leaves P fn a2.tmps (fJ w F rs (fr xs).get) a2.defers .returning w2:=by
  rintro⟨n,hend,hn⟩;rw[hi2.df];refine ufb (by simp) (hinv w2) ((hT.idle _ w2).mono ?_);rintro e u' w' ⟨⟨v,rfl⟩,rfl,rfl⟩;exact tP hi2 rfl hend hn
 cases xe with
 |normal=>exact hfin hx
 |ret=>exact hfin hx
 |exit _=>exact hx.elim
 |val _=>exact hx.elim
 |jump _=>exact hx.elim
 |panic p=>
  obtain⟨s',n,hs',hin,hend,hn⟩:=hx;obtain⟨hty,hk,hlow,b,tyb,old,hG,hheap,hi3⟩:=VY hi2 hs' hin;have hG':=hG;simp at hG';subst hG';show Leaves P fn a2.tmps _ a2.defers (.panicking [{ v:=p.val,recovered:=false }]) w2;rw[WG (by rw[hty];exact hlow),hi2.df,hty,hk];refine ufb (by simp) (hinv w2) ((hT.told b0 tyb old p.n w2 hheap).mono ?_);rintro e u' w' ⟨⟨v,rfl⟩,rfl,rfl⟩;exact tP hi3 rfl hend hn
end
section
open Go.WideShapes Go.ChangeShapes
def fw(r:TypeId->Ty->Bool):List Field->Ty->Nat->Bool
 |[],.unit,_=>Z
 |f::fs,.pair a b,off=>(f.offset==off)&&(r f.type a&&fw r fs b (off+a.size))
 |_,_,_=>Y
def fu(r:Ty->Bool):Nat->Ty->Bool
 |0,.unit=>Z
 |k+1,.pair a b=>r a&&fu r k b
 |_,_=>Y
def fZ(P:Program):Nat->TypeId->Ty->Bool
 |0,_,_=>Y
 |n+1,t,ty=>(P.cellsOf t==ty.size)&&match P.underlying t,ty with
  |some .bool,.bool=>Z
  |some (.int k),.int i=>J (k=i)
  |some .string,.str=>Z
  |some (.slice e),.sl te=>J (0<te.size)&&fZ P n e te
  |some (.struct fs),ty=>ty.wide&&fw (fZ P n) fs.toList ty 0
  |some (.array k e),ty=>ty.wide&&fu (fZ P n e) k ty
  |_,_=>Y
section
variable {H:Type} {enc:TypeId×Value->H} {P:Program} {w:World} {sp:Nat->Bool} {held:Bool}
def qaf(a:Addr)(k j:Nat):(a.add k).add j=a.add (k+j):=by
 unfold Addr.add;by_cases m:k=0;subst m;simp;by_cases i:j=0;subst i;simp;have:¬ k+j=0:=by omega
 simp[m,i,uee]
def S0{Q:Nat->α->Prop}:(n:Nat)->(∀ i,i<n->∃ y,Q i y)->∃ l:List α,l.length=n/\∀ (i:Nat) (y:α),l[i]?= U y->Q i y
 |0,_=>⟨[],rfl,λi y h=>by simp at h⟩
 |n+1,h=>by
  obtain⟨l,j,hq⟩:=S0 n (λi hi=>h i (by omega));obtain⟨y,m⟩:=h n (by omega);refine⟨l++[y],by simp[j],λi z hz=>?_⟩;rcases uem i l.length with hi|hi
  rw[uaj hi]at hz;exact hq i z hz;rw[uae hi]at hz;have:i-l.length=0:=by
   rcases ub4 (i-l.length)with h0|h0
   exact h0;rw[ua4 (by simp;omega)]at hz;cases hz
  rw[this]at hz;simp at hz;subst hz;have:i=n:=by omega
  subst this;exact m
def qc8{a:Addr}{cs:List Value}(h:w.cells? 0 a n=U cs):cs.length=n/\∀ j,j<n->w.cell? (a.add j)=cs[j]? := by
 unfold World.cells? at h;refine⟨by simpa using mapM_some_length h,λj i=>?_⟩;exact mapM_some_get h j j (by simp[i])
def qc7{a:Addr}(h:w.cell? a=U v):a.block<w.heap.size:=by
 unfold World.cell? at h;split at h;rename_i hb;exact(uaf.1 hb).1;cases h
def zc7{n:Int}(h:(Lit.int k n).wf=Z):inR k n:=by
 simpa[Lit.wf,inR]using h
abbrev np(w:World):Nat->Prop:=λb=>b<w.heap.size
def Tk{i:Nat}(N:∀ (t:TypeId) (ty:Ty) (i:Nat) (cs:List Value) (x:DataW H×List MemPlace),fZ P n t ty=Z->DataW.trod enc P w 0 sp held i t cs=U x->cs.length=ty.size/\∃ y,aA w (np w) ty y (λj u=>cs[j]?= U u)){cs:List Value}:(l:List Field)->(ty:Ty)->(off:Nat)->fw (fZ P n) l ty off=Z->(∀ f∈l,∃ x,DataW.trod enc P w 0 sp held i f.type ((cs.drop f.offset).take (P.cellsOf f.type))=U x)->∃ y,aA w (np w) ty y (λj u=>cs[off+j]?= U u)
 |[],.unit,_,_,_=>⟨(),uT⟩
 |f::fs,.pair a b,off,h,F=>by
  simp only[fw,uda,ufe]at h;obtain⟨O,Q,S⟩:=h;obtain⟨x,q⟩:=F f (by simp);obtain⟨hl,y,hy⟩:=N _ _ _ _ _ Q q;obtain⟨y',C⟩:=Tk N fs b (off+a.size) S (λg hg=>F g (by simp[hg]));refine⟨(y,y'),aA.mono (λ_ h=>h) (λ_ _=>rfl) (λj u W m=>?_) hy,aA.mono (λ_ h=>h) (λ_ _=>rfl) (λj u W m=>?_) C⟩;rw[ub1]at m;split at m;rw[ub0,O]at m;exact m;cases m;rw[uee]at m;exact m
 |[],.int _,_,h,_=>by simp[fw]at h
 |[],.bool,_,h,_=>by simp[fw]at h
 |[],.str,_,h,_=>by simp[fw]at h
 |[],.sl _,_,h,_=>by simp[fw]at h
 |[],.pair _ _,_,h,_=>by simp[fw]at h
 |[],.fm _,_,h,_=>by simp[fw]at h
 |_::_,.fm _,_,h,_=>by simp[fw]at h
 |[],.ic _ _,_,h,_=>by simp[fw]at h
 |_::_,.ic _ _,_,h,_=>by simp[fw]at h
 |[],.fc _,_,h,_=>by simp[fw]at h
 |_::_,.fc _,_,h,_=>by simp[fw]at h
 |_::_,.int _,_,h,_=>by simp[fw]at h
 |_::_,.bool,_,h,_=>by simp[fw]at h
 |_::_,.str,_,h,_=>by simp[fw]at h
 |_::_,.sl _,_,h,_=>by simp[fw]at h
 |_::_,.unit,_,h,_=>by simp[fw]at h
def Tj{m:Nat}(S:∀ (t:TypeId) (ty:Ty) (m:Nat) (cs:List Value) (x:DataW H×List MemPlace),fZ P n t ty=Z->DataW.trod enc P w 0 sp held m t cs=U x->cs.length=ty.size/\∃ y,aA w (np w) ty y (λj u=>cs[j]?= U u)){cs:List Value}:(k:Nat)->(ty:Ty)->(i0:Nat)->fu (fZ P n e) k ty=Z->(∀ i,i<k->∃ x,DataW.trod enc P w 0 sp held m e ((cs.drop ((i0+i)*P.cellsOf e)).take (P.cellsOf e))=U x)->∃ y,aA w (np w) ty y (λj u=>cs[i0*P.cellsOf e+j]?= U u)
 |0,.unit,_,_,_=>⟨(),uT⟩
 |k+1,.pair a b,i0,h,Q=>by
  simp only[fu,uda]at h;obtain⟨F,W⟩:=h;obtain⟨x,N⟩:=Q 0 (by omega);obtain⟨hl,y,hy⟩:=S _ _ _ _ _ F N;have C:P.cellsOf e=a.size:=by
   cases n with
   |zero=>simp[fZ]at F
   |succ n=>
    simp only[fZ,uda,ufe]at F;exact F.1
  obtain⟨y',O⟩:=Tj S k b (i0+1) W (λi hi=>by
   have:=Q (i+1) (by omega)
   rwa [show i0+1+i=i0+(i+1) by omega])
  refine⟨(y,y'),aA.mono (λ_ h=>h) (λ_ _=>rfl) (λj u hj q=>?_) hy,aA.mono (λ_ h=>h) (λ_ _=>rfl) (λj u hj q=>?_) O⟩;rw[ub1]at q;split at q;rw[ub0]at q;simpa using q;cases q;rw[ue8,Nat.one_mul,C,uee]at q;rw[C];exact q
 |0,.int _,_,h,_=>by simp[fu]at h
 |0,.bool,_,h,_=>by simp[fu]at h
 |0,.str,_,h,_=>by simp[fu]at h
 |0,.sl _,_,h,_=>by simp[fu]at h
 |0,.pair _ _,_,h,_=>by simp[fu]at h
 |0,.fm _,_,h,_=>by simp[fu]at h
 |_+1,.fm _,_,h,_=>by simp[fu]at h
 |0,.ic _ _,_,h,_=>by simp[fu]at h
 |_+1,.ic _ _,_,h,_=>by simp[fu]at h
 |0,.fc _,_,h,_=>by simp[fu]at h
 |_+1,.fc _,_,h,_=>by simp[fu]at h
 |_+1,.int _,_,h,_=>by simp[fu]at h
 |_+1,.bool,_,h,_=>by simp[fu]at h
 |_+1,.str,_,h,_=>by simp[fu]at h
 |_+1,.sl _,_,h,_=>by simp[fu]at h
 |_+1,.unit,_,h,_=>by simp[fu]at h
def zb9{k j:Nat}{cs:List Value}{x:DataW H×List MemPlace}(N:P.underlying t=U (.array k e))(h:DataW.trod enc P w 0 sp held j t cs=U x):
  ∃ n,∀ i,i<k->∃ y,DataW.trod enc P w 0 sp held n e ((cs.drop (i*P.cellsOf e)).take (P.cellsOf e))=U y:=by
 cases j with
 |zero=>simp[DataW.trod]at h
 |succ n=>
  unfold DataW.trod at h;split at h<;>simp_all
  obtain⟨F,xs,q,C⟩:=h;refine⟨n,λi hi=>?_⟩;have m:=mapM_some_get q i i (by simp[hi]);have u:=mapM_some_length q;rw[uaq (by simp at u;omega)]at m;exact⟨_,_,m⟩
def Ep:(n:Nat)->(t:TypeId)->(ty:Ty)->(q:Nat)->(cs:List Value)->(x:DataW H×List MemPlace)->fZ P n t ty=Z->DataW.trod enc P w 0 sp held q t cs=U x->cs.length=ty.size/\∃ y,aA w (np w) ty y (λj u=>cs[j]?= U u)
 |0,t,ty,q,cs,x,h,_=>by simp[fZ]at h
 |n+1,t,ty,q,cs,x,h,O=>by
  simp only[fZ,uda,ufe]at h;obtain⟨hsz,h⟩:=h;split at h;rename_i F;obtain⟨b,rfl,_⟩:=DataW.trod_bool F O;exact⟨rfl,b,rfl⟩;rename_i k k' F;have hk:k=k':=by simpa using h
  subst hk;obtain⟨m,rfl,_,hw⟩:=DataW.trod_int F O;exact⟨rfl,m,rfl,zc7 hw⟩;rename_i F;obtain⟨s,rfl,_,hs⟩:=DataW.trod_string F O;exact⟨rfl,s,rfl,hs⟩;rename_i e te F;simp at h;obtain⟨hpos,N⟩:=h;have hse:P.cellsOf e=te.size:=by
   cases n with
   |zero=>simp[fZ]at N
   |succ n=>
    simp only[fZ,uda,ufe]at N;exact N.1
  rcases DataW.trod_slice F O with ⟨rfl,_⟩|⟨a,len,cap,elems,rest,m,rfl,rfl,_,_,h1,h2,hel,C,_⟩
  exact⟨rfl,[],V,0,rfl,ue6 _,by simp,λi y Q=>by simp at Q⟩;have S:∀ i,i<len->∃ y,aA w (np w) te y (λj u=>w.cell? (a.add (i*te.size+j))=U u)/\a.block<w.heap.size:=λi hi=>by
   have hg:=C i hi;rw[uaq (by omega)]at hg;rw[Option.bind_eq_some_iff]at hg;obtain⟨ci,W,htr⟩:=hg;rw[hse]at W;obtain⟨hl,y,Q⟩:=Ep n e te m ci _ N htr;obtain⟨hcl,hcg⟩:=qc8 W;have hc:∀ j,j<te.size->w.cell? (a.add (i*te.size+j))=ci[j]? := λj hj=>by
    rw[<- qaf];exact hcg j hj
   refine⟨y,aA.mono (λ_ h=>h) (λ_ _=>rfl) (λj u hj hu=>(hc j hj).trans hu) Q,?_⟩;have h0:=hc 0 hpos;rw[uaq (by omega)]at h0;have hlt:=qc7 h0;have:(a.add (i*te.size+0)).block=a.block:=by unfold Addr.add;split<;>rfl
   rwa [this]at hlt
  obtain⟨l,hl,hq⟩:=S0 len S;subst hl;exact⟨rfl,l,U a,cap,rfl,h1,h2,λi y Q=>⟨a,rfl,(hq i y Q).2,(hq i y Q).1⟩⟩;rename_i ty' fs F;simp at h;obtain⟨xs,m,rfl,rfl,hl,hxl,C⟩:=DataW.trod_struct F O;refine⟨by omega,?_⟩;have:=Tk (λt ty q cs x=>Ep n t ty q cs x) fs.toList _ 0 h.2 (λf hf=>by
   obtain⟨i,hi⟩:=ua9.1 hf;have hi':fs[i]?= U f:=by simpa using hi
   have hlt:=(uaf.1 hi').1;have hg:=C i f hi';rw[uaq (by omega)]at hg;exact⟨_,hg⟩)
  simpa using this;rename_i ty' k e F;simp at h;obtain⟨m,hm⟩:=zb9 F O;have hl:cs.length=P.cellsOf t:=by
   cases q with
   |zero=>simp[DataW.trod]at O
   |succ m=>
    unfold DataW.trod at O;split at O<;>simp_all
  refine⟨by omega,?_⟩;have:=Tj (λt ty q cs x=>Ep n t ty q cs x) k _ 0 h.2 (λi hi=>by simpa using hm i hi);simpa using this;cases h
def qw4{ty:Ty}{d:DataW H}{ps:List MemPlace}{r:Reach}{q:Nat}(h:fZ P n t ty=Z)(i:Value.okWide P w r q t v)(N:DataW.Trod enc P w 0 sp held t v d ps):∃ y,bu w (np w) ty y v:=by
 obtain⟨C,O⟩:=N;obtain⟨Q,y,W⟩:=Ep n t ty C _ _ h O;refine⟨y,by simpa using Q,?_,aA.mono (λ_ h=>h) (λ_ _=>rfl) (λj u hj S=>by simpa using S) W⟩;cases n with
 |zero=>simp[fZ]at h
 |succ n=>
  simp only[fZ,uda]at h;replace h:=h.2;unfold Value.okWide at i;split at h;rename_i m;simp only[Cell.okWide,m,Cell.ok]at i;refine⟨λhw=>(by cases hw),λ⟨cs,hc⟩=>?_⟩;subst hc;exact i.elim;rename_i k k' m;simp only[Cell.okWide,m,Cell.ok]at i;refine⟨λhw=>(by cases hw),λ⟨cs,hc⟩=>?_⟩;subst hc;exact i.elim;rename_i m;simp only[Cell.okWide,m,Cell.ok]at i;refine⟨λhw=>(by cases hw),λ⟨cs,hc⟩=>?_⟩;subst hc;exact i.elim;rename_i e te m;simp only[Cell.okWide,m,Cell.ok]at i;refine⟨λhw=>(by cases hw),λ⟨cs,hc⟩=>?_⟩;subst hc;exact i.elim;rename_i F fs m;rw[m]at i;simp at h;obtain⟨cs,hc,_⟩:=i;exact⟨λ_=>⟨cs,hc⟩,λ_=>h.1⟩;rename_i F k e m;rw[m]at i;simp at h;obtain⟨cs,hc,_⟩:=i;exact⟨λ_=>⟨cs,hc⟩,λ_=>h.1⟩;cases h
def kR(P:Program):List TypeId->List PT->Bool
 |[],[]=>Z
 |t::ts,.d ty::ps=>fZ P 12 t ty&&kR P ts ps
 |_,_=>Y
def Us{r:Reach}{i:Nat}:{ts:List TypeId} -> {ps:List PT} -> {vs:List Value} -> {u:List (DataW H)} -> {pl:List MemPlace}->kR P ts ps=Z->DataW.TrodAll enc P w 0 sp held ts vs u pl ->
  (∀ (j:Nat) t v,ts[j]?= U t->vs[j]?= U v->Value.okWide P w r i t v)->∃ xs,cJ P w (np w) ps xs vs
 |[],[],[],[],_,_,_,_=>⟨(),rfl⟩
 |t::ts,.d ty::ps,v::vs,d::u,_,h,O,C=>by
  simp only[kR,uda]at h;obtain⟨p,q,F,N,_⟩:=O;obtain⟨y,Q⟩:=qw4 h.1 (C 0 t v rfl rfl) F;obtain⟨S,m⟩:=Us h.2 N (λj t v a b=>C (j+1) t v a b);exact⟨(y,S),v,vs,rfl,Q,m⟩
 |[],_::_,_,_,_,h,_,_=>by simp[kR]at h
 |_::_,[],_,_,_,h,_,_=>by simp[kR]at h
 |_::_,.ptr _::_,_,_,_,h,_,_=>by simp[kR]at h
 |_::_,.fn _ _::_,_,_,_,h,_,_=>by simp[kR]at h
 |_::_,.pf _ _::_,_,_,_,h,_,_=>by simp[kR]at h
 |_::_,.pfn _ _::_,_,_,_,h,_,_=>by simp[kR]at h
 |_::_,.pk _::_,_,_,_,h,_,_=>by simp[kR]at h
 |[],[],_::_,_,_,_,h,_=>h.elim
 |[],[],[],_::_,_,_,h,_=>h.elim
 |_::_,.d _::_,[],_,_,_,h,_=>h.elim
 |_::_,.d _::_,_::_,[],_,_,h,_=>h.elim
def Ur(N:laidOutB P=Z){j:Nat->Bool}:{ts:List TypeId} -> {vs:List Value} -> {u:List (DataW H)} -> {pl:List MemPlace}->(ts.all λt=>P.readableRec t&&J (t<P.types.size))=Z ->
  DataW.TrodAll enc P w 0 (λ_=>Z) Z ts vs u pl->(∀ p∈pl,w.sameAt W' p)->(∀ p∈pl,j p.block=Z)->DataW.TrodAll enc P W' 0 j Z ts vs u pl
 |[],[],[],_,_,h,_,_=>h
 |t::ts,v::vs,d::u,_,m,h,C,F=>by
  simp at m;obtain⟨p,q,a,b,rfl⟩:=h;exact⟨p,q,WideElems.Trod_stays N m.1.1 m.1.2 a (λx i=>C x (by simp[i])) (λx i=>F x (by simp[i])),Ur N (by simpa using m.2) b (λx i=>C x (by simp[i])) (λx i=>F x (by simp[i])),rfl⟩
 |[],_::_,_,_,_,h,_,_=>h.elim
 |[],[],_::_,_,_,h,_,_=>h.elim
 |_::_,[],_,_,_,h,_,_=>h.elim
 |_::_,_::_,[],_,_,h,_,_=>h.elim
def qwq{f:Func}{s:ChangeSpec}{apart Q m O:Bool}{args:Array Value}{S gs:List (DataW H)}{i pa pv:List MemPlace}(hW:DataW.Whole enc P f.params.toList s.vars apart W args.toList S gs i)(N:∀ (b:Nat) (sp:Nat->Bool) (hd:Bool),DataW.TrodAll enc P W' b sp hd f.resultTypes.toList (v.resultList f.resultTypes.size) (s.fn H (S++gs)).results [])(q:∀ sp:Nat->Bool,(∀ p∈i,sp p.block=Z)->DataW.TrodAll enc P W' 0 sp Z f.params.toList args.toList (s.fn H (S++gs)).args pa)(w:∀ sp:Nat->Bool,(∀ p∈i,sp p.block=Z)->DataW.TrodVars enc P W' sp s.vars (s.fn H (S++gs)).vars pv)(C:i=pa++pv)(hb:Below W.heap.size W W')(hok:∀ (j:Nat) (t:TypeId) (r:Value),f.resultTypes[j]?= U t->(v.resultList f.resultTypes.size)[j]?= U r->Value.okWide P W' .any 0 t r):
  s.post enc P f apart Q m O W args v W':=by
 have hlt:=λp u=>hW.lt p u;have F:∀ p∈i,(λb=>J (b<W.heap.size)) p.block=true:=λp u=>by simpa using hlt p u
 refine⟨S,gs,i,[],pa,pv,hW,N _ _ _,q _ F,w _ F,World.keptBut_mono (λp u=>⟨u,?_⟩) (hb.frame (· ∈ i)),λ_=>?_⟩;rw[C,udp]at u;exact Or.inr u;obtain⟨_,_,_,_,_,hz,hn⟩:=hW;refine⟨hok,_,_,([]++pa)++pv,⟨[]++pa,pv,trodAll_append (q _ (λ_ _=>rfl)) (N _ _ _),w _ (λ_ _=>rfl),rfl,?_,?_⟩,?_⟩;intro b off u;have hin:MemPlace.cell b off∈i:=by rw[C];simpa using u
 rw[hb.frozen (hlt _ hin)];exact hz b off hin;intro ha;have:=hn ha;rw[C]at this;simpa using this;intro p u _;rw[C];simpa using u
def law_contract{fid:FuncId}{f:Func}{s:ChangeSpec}{ps:List PT}{apart O i F:Bool}{tb:TypeId}(hl:laidOutB P=Z)(hr:(f.params.toList.all λt=>P.readableRec t&&J (t<P.types.size))=Z)(hty:kR P f.params.toList ps=Z)(m:s.vars=[])(hrt:f.resultTypes = #[tb])(htb:P.underlying tb=U .bool)(hs:∀ N:List (DataW H),N.length=f.params.size->s.fn H N = { results:=[.lit (.bool Z)],args:=N })(hc:af P fid ⟨ps,[.bool],λ_=>(Z,()),λ_=>[]⟩)(W:World)(S:Nat)(args:Array Value)(N gs:List (DataW H))(u:List MemPlace)(hval:∀ (j:Nat) t v,f.params[j]?= U t->args[j]?= U v->Value.okWide P W .any S t v)(hW:DataW.Whole enc P f.params.toList s.vars apart W args.toList N gs u):
  Calls P fid args W λe W'=>∃ v,e=.returned v/\s.post enc P f apart O i F W args v W':=by
 have hW':=hW;obtain⟨p,q,hA,hV,rfl,hfz,hnd⟩:=hW;rw[m]at hV;obtain⟨rfl,rfl⟩:=trodVars_none hV;obtain⟨xs,hxs⟩:=Us hty hA (λj t v a b=>hval j t v (by simpa using a) (by simpa using b));have w:=hc.2 W (np W) xs args.toList (λb hb=>hb) hxs trivial;refine w.mono ?_;rintro e W' ⟨v,F',rfl,C,_,_,hv⟩;have hv':aE P W' F' (λ_ _=>True) (dE .bool Z) v:=fT hv;have hvb:=hv'.2;subst hvb;refine⟨_,rfl,?_⟩;have hlen:(N++[]).length=f.params.size:=by
  have:=trodAll_length hA;simp[this.2]
 have Q:=hs (N++[]) hlen;have hlt:∀ x∈p,x.block<W.heap.size:=λx hx=>hW'.lt x (by simp[hx]);refine qwq (pa:=p) (pv:=[]) hW' (λb sp hd=>?_) (λsp hsp=>?_) (λsp _=>?_) (by simp) C (ok_one hrt rfl (okWide_bool_mk htb Z));rw[hrt,Q];exact trodAll_mk1 (shut_bool htb Z);rw[Q];simp;exact Ur hl hr hA (λx hx=>C.same (hlt x hx)) (λx hx=>hsp x (by simp[hx]));rw[m,Q];rfl
end
end
section
variable {P:Program} {B:Nat} {w w':World} {E:Env} {F F':Nat->Prop} {γ γ':Nat->Value} {m:aT}
structure Mt where
 e:TypeId
 T:Ty
 ps:List PT
 rs:List Ty
 f:List T.den->ag ps->List T.den×aa rs
 ok:List T.den->ag ps->List Prop
def Nx(w:World)(mt:Mt)(v:Value)(y:List mt.T.den×aa mt.rs)(e:Ending)(w':World):Prop:=
 ∃ u i,e=.returned u/\w.grownBy w' v.ownBlock/\w'.ownsRow 0 mt.e mt.T.size v y.1.length i/\bU w' (λ_=>False) mt.T y.1 i/\(∀ u∈i,u.oneCell'=Z)/\gT w' (λ_=>False) mt.rs y.2 u
structure SoundMt (P:Program) (f:FuncId) (mt:Mt):Prop where
 lt:mt.e<cj
 flat:mt.T.flat=true
 flats:mt.rs.all Ty.flat=true
 enters:∀ args w,(callFunc f args).run P w=.ok (.enter f args) w
 calls:∀ (w:World) (F:Nat->Prop) (l:List mt.T.den) (xs:ag mt.ps) (v:Value) (vs rows:List Value),(∀ b,F b->b<w.heap.size)->w.ownsRow 0 mt.e mt.T.size v l.length rows->(∀ g,v.ownBlock=some g->¬ F g) ->
  bU w F mt.T l rows->(∀ u∈rows,u.oneCell'=true)->v.oneCell'=true->cJ P w F mt.ps xs vs->av (mt.ok l xs)->Calls P f (v::vs).toArray w (Nx w mt v (mt.f l xs))
def fG(Γ:Gm)(f:FuncId)(mt:Mt)(_d:Nat)(g:FuncId)(args:List AV)(s:St):Option Tr:=
 if g=f then match args with
  |.c (.own id)::rest=>match dK s.mem rest with
   |some (xs,u)=>match ax s.mem u id with
    |some (.arr e t l)=>if h:t=mt.T then if e=mt.e then match jf Γ mt.ps xs with
      |some (x,n)=>U (needL (n++mt.ok (cA h l) x) (.leaf (.val (jg mt.rs (mt.f (cA h l) x).2)) ⟨s.n,s.sl,upd (ax s.mem u) id (.arr mt.e mt.T (mt.f (cA h l) x).1),s.gs⟩))
      |none=>V
     else V else V
    |_=>V
   |none=>V
  |_=>V
 else V
def gu{Γ:Gm}(hΓ:kN P Γ){mt:Mt}(h:SoundMt P f mt):gQ P (fG Γ f mt):=by
 intro d g args s t O;unfold fG at O;split at O<;>try trivial
 rename_i hg;subst hg;split at O<;>try trivial
 rename_i id rest;split at O<;>try trivial
 rename_i xs u hrs;split at O<;>try trivial
 rename_i e ty l N;split at O<;>try trivial
 rename_i hty;split at O<;>try trivial
 rename_i hee;split at O<;>try trivial
 rename_i x n hdec;cases O;subst hty;subst hee;refine⟨h.enters,λE a w F γ vs Q hi hr hq=>?_⟩;obtain⟨hn,hqv⟩:=jm _ hq;obtain⟨hn1,hn2⟩:=jd.1 hn;cases vs with
 |nil=>exact hr.elim
 |cons v vs=>
  obtain⟨⟨hone,hv⟩,hr⟩:=hr;obtain⟨F1,s1,m1,_,r1⟩:=iy hi.mem (dv hi) (cX.of λ_ _ h=>h) hrs hr;have hps:=mK hΓ hdec hn1 r1;have W:v=γ id:=by
   have h2:ap (ax s.mem u) γ id v:=s1.hR id v hv;simpa[ap,N]using h2
  obtain⟨rows,o1,o2,o3,o4⟩:=gg.of (m1.ob id _ N) h.lt;rw[<- W]at o1 o2;have hblk:∀ g,v.ownBlock=U g->E.B<=g/\g<w.heap.size:=λg hg=>o1.lt g hg;have hc:=h.calls w F1 l x v vs rows s1.bd (rD o1 (λ_ _=>ufc _)) o2 o3 o4 hone hps hn2;refine hc.mono λen w2 hp=>?_;obtain⟨u2,rows2,rfl,H,p1,p2,p3,p4⟩:=hp;have q:∀ b,b<w.heap.size->v.ownBlock≠U b->w2.heap[b]?= w.heap[b]? := λb hb hne=>H.block b hb (λh=>hne h.symm);have hBs:=nM hi;have hR:∀ i v',ap (ax s.mem u) γ i v'->ap (upd (ax s.mem u) id (.arr mt.e mt.T (mt.f l x).1)) γ i v':=λi v' S=>by
   unfold ap at S |-;by_cases m:i=id;subst m;rw[N]at S;simpa[upd]using S;simpa[upd,m]using S
  have s2:Step E.B w F1 γ (ax s.mem u) w2 F1 γ (upd (ax s.mem u) id (.arr mt.e mt.T (mt.f l x).1)):=
   ⟨λ_ h=>h,λb hb=>q b (s1.bd b hb) (λh=>o2 b h hb),hR,λb hb=>q b (by omega) (λh=>by have:=(hblk b h).1;omega),
    H.os,H.tape,H.output,H.size,λb hb=>uca (s1.bd b hb) H.size,λb hb=>.inl hb⟩
  have hnm:∀ b,γ id ≠ .map (U b):=W ▸ nq o1;have hoth:∀ i o,i≠id->ax s.mem u i=U o->∀ b,bK w o (γ i) b->w2.heap[b]?= w.heap[b]? := λi o m C b hb=>
   q b (gZ (m1.ob i o C) hb).1 (λhvb=>m1.apart i id o _ b m C N hb (.inl (by rw[<- W];exact hvb)))
  have hex:∀ i o,upd (ax s.mem u) id (.arr mt.e mt.T (mt.f l x).1) i=U o->∃ o0,ax s.mem u i=U o0/\∀ b,bK w2 o (γ i) b->bK w o0 (γ i) b:=λi o C=>by
   by_cases m:i=id;subst m;simp only[upd,if_true,uck]at C;subst C;exact⟨_,N,λb hb=>(lE h.lt hnm).2 ((lE h.lt hnm).1 hb)⟩;simp only[upd,if_neg m]at C;exact⟨o,C,λb hb=>tU (hoth i o m C) hb⟩
  have m2:MemOK P E.B w2 F1 γ (upd (ax s.mem u) id (.arr mt.e mt.T (mt.f l x).1)):=by
   refine⟨λi o C=>?_,λi j oi oj b hij hoi hoj hb hb'=>?_⟩;by_cases m:i=id;subst m;simp only[upd,if_true,uck]at C;subst C;rw[<- W];exact .inl ⟨h.lt,rows2,rD p1 (λg hg=>(hblk g hg).1),o2,p2.flat h.flat,p3⟩;simp only[upd,if_neg m]at C;refine(m1.ob i o C).keep (λ_ h=>h) (λb hb=>q b (s1.bd b hb) (λh=>o2 b h hb)) hR λb hb=>?_;exact⟨hoth i o m C b hb,(gZ (m1.ob i o C) hb).2.1⟩;obtain⟨oi0,a1,a2⟩:=hex i oi hoi;obtain⟨oj0,b1,b2⟩:=hex j oj hoj;exact m1.apart i j oi0 oj0 b hij a1 b1 (a2 b hb) (b2 b hb')
  have s3:=s1.trans s2;have hinv:InvG P E ⟨s.n,s.sl,upd (ax s.mem u) id (.arr mt.e mt.T (mt.f l x).1),s.gs⟩ a w2 [] F1 γ:=by
   refine⟨hi.n,hi.df,?_,m2,λt=>(hi.sl t).mono s3.hF s3.hw s3.hR,hi.hg,λt=>s3.repA (hi.gh t)⟩;obtain⟨γ0,h0⟩:=hi.step;exact⟨γ0,h0.trans s3⟩
  exact⟨.val (jg mt.rs (mt.f l x).2),_,F1,γ,hqv,hinv,u2,rfl,tN (p4.flat h.flats)⟩
def DG(n:Nat)(e:TypeId)(T:Ty)(l:List T.den)(args:List AV):St:=
 ⟨n,λi=>(AV.c (.own (ba 0))::args).getD i .dead,λi=>if i=ba 0 then U (.arr e T l)else V,λi=>if i=0 then .c (.own (ba 0))else .dead⟩
def qS(P:Program)(j:List ResultVar)(e:TypeId)(T:Ty)(rs:List Ty)(s:St):Option (Fr (List T.den×aa rs)):=
 match s.gs 0 with
 |.c (.own k)=>match s.mem k with
  |some (.arr i t l)=>if h:t=T then if i=e then match gv P s j with
    |some (vs,n)=>match dK s.mem vs with
     |some (xs,_)=>match g9 rs xs with
      |some y=>U (Fr.needL n (.val (cA h l,y)))
      |none=>V
     |none=>V
    |none=>V
   else V else V
  |_=>V
 |_=>V
def iK(P:Program)(i:List ResultVar)(e:TypeId)(T:Ty)(rs:List Ty):Tr->Option (Fr (List T.den×aa rs))
 |.leaf .ret s=>qS P i e T rs s
 |.leaf .normal s=>qS P i e T rs s
 |.leaf _ _=>V
 |.br b x y=>match iK P i e T rs x,iK P i e T rs y with
  |some j,U m=>U (.br b j m)
  |_,_=>V
 |.need p x=>match iK P i e T rs x with
  |some j=>U (.need p j)
  |none=>V
 |.two p x y=>match iK P i e T rs x,iK P i e T rs y with
  |some j,U m=>U (.need (p->j.ok/\j.get=m.get) m)
  |_,_=>V
def tZ{q:List ResultVar}{T:Ty}{rs:List Ty}:{t:Tr} -> {f:Fr (List T.den×aa rs)}->iK P q e T rs t=U f->f.ok->t.sat λx s=>(x=.ret\/x=.normal)/\∃ n,qS P q e T rs s=U (Fr.needL n (.val f.get))/\av n
 |.leaf x s,f,h,j=>by
  have key:qS P q e T rs s=U f->∃ n,qS P q e T rs s=U (Fr.needL n (.val f.get))/\av n:=λh=>by
   have h0:=h;unfold qS at h;split at h<;>try trivial
   split at h<;>try trivial
   split at h<;>try trivial
   split at h<;>try trivial
   split at h<;>try trivial
   split at h<;>try trivial
   split at h<;>try trivial
   cases h;refine⟨_,?_,(uM _ j).1⟩;rw[uK];exact h0
  cases x with
  |exit i=>simp[iK]at h
  |panic i=>simp[iK]at h
  |val i=>simp[iK]at h
  |jump i=>simp[iK]at h
  |normal=>exact⟨.inr rfl,key h⟩
  |ret=>exact⟨.inl rfl,key h⟩
 |.br b x y,f,h,j=>by
  simp only[iK]at h;split at h<;>try trivial
  rename_i C H m u;cases h;refine⟨λhb=>?_,λhb=>?_⟩;have:=tZ m (j.1 hb);simpa only[Fr.get,hb,if_true]using this;have:=tZ u (j.2 hb);simpa only[Fr.get,hb,ub2,ufn]using this
 |.need p x,f,h,j=>by
  simp only[iK]at h;split at h<;>try trivial
  rename_i C m;cases h;have:=tZ m j.2;exact⟨j.1,this⟩
 |.two p x y,f,h,j=>by
  simp only[iK]at h;split at h<;>try trivial
  rename_i C H m u;cases h;have F:=tZ u j.2;refine⟨λw=>?_,F⟩;have:=tZ m (j.1 w).1
  rwa [(j.1 w).2]at this
def yS(P:Program)(C:Cx)(Λ:Nat->St->Option Tr)(fn:Func)(e:TypeId)(T:Ty)(ps:List PT)(rs:List Ty)(l:List T.den)(xs:ag ps):Option (Fr (List T.den×aa rs)):=
 match fn.body with
 |some c=>if (fn.name == "runtime.NumGoroutine")=Y/\ps.length+1<=fn.ntmps then match cr P C 0 Λ c 0 (DG fn.ntmps e T l (eI ps xs))with
   |some t=>iK P fn.results.toList e T rs t
   |none=>V
  else V
 |none=>V
def iq{C:Cx}(hC:CxOK P C){Λ:Nat->St->Option Tr}{fn:Func}{T:Ty}{ps:List PT}{rs:List Ty}{fr:List T.den->ag ps->Fr (List T.den×aa rs)}(x0:ag ps)(hf:P.funcs[f]?= U fn)(hT:T.flat=Z)(hTs:rs.all Ty.flat=Z)(hΛ:∀ c E,fn.body=U c->bP P E Λ c 0)(W:∀ l xs,yS P C Λ fn e T ps rs l xs=U (fr l xs))(H:e<cj:=by decide):
  SoundMt P f ⟨e,T,ps,rs,λl xs=>(fr l xs).get,λl xs=>[(fr l xs).ok]⟩:=by
 have h0:=W [] x0;unfold yS at h0;split at h0<;>try trivial
 rename_i c hb;split at h0<;>try trivial
 rename_i hc;refine⟨H,hT,hTs,enters hf hb hc.1,λw F l xs v vs rows hbd hown hnF hrows hcell S hr hok=>ufa hf hb ?_⟩;have N:=W l xs;unfold yS at N;simp only[hb,hc,ufm,if_true]at N;split at N<;>try trivial
 rename_i t ht;have hlen:vs.length=ps.length:=rV hr;have hFb:∀ b,F b->(b<w.heap.size/\v.ownBlock≠U b):=λb hb=>⟨hbd b hb,λh=>hnF b h hb⟩;have hps:cJ P w (λb=>b<w.heap.size/\v.ownBlock≠U b) ps xs vs:=cJ.mono hFb (λ_ _=>rfl) hr;have q:∀ R:Nat->Value->Prop,R (ba 0) v->bj P w (λb=>b<w.heap.size/\v.ownBlock≠U b) R (AV.c (.own (ba 0))::eI ps xs) (v::vs):=λR hR=>⟨⟨S,hR⟩,mO hps⟩;have O:I P ⟨w,λb=>b<w.heap.size/\v.ownBlock≠U b,λ_=>v,[],0,ufc _⟩ (DG fn.ntmps e T l (eI ps xs)) { tmps:=(v::vs).toArray++Array.replicate (fn.ntmps-(v::vs).length) undef,defers:=[] } w:=by
  refine⟨_,λ_=>v,?_,rfl,⟨λ_=>undef,⟨λ_ h=>h,λ_ _=>rfl,λ_ _ h=>h.elim,λb hb=>absurd hb (Nat.not_lt_zero b),rfl,rfl,rfl,ue6 _,λb hb=>hb.1,λb hb=>.inl hb⟩⟩,⟨λid o ho=>?_,λi j oi oj b hij hi hj=>?_⟩,λt=>?_,λt g want v ht=>?_,λt=>?_⟩;show _=fn.ntmps;simp only[uco,ucp,Array.size_replicate,uc7];omega;have ho':(if id=ba 0 then U (Ob.arr e T l)else V)=U o:=ho;split at ho';cases ho';exact .inl ⟨H,rows,hown,λg hg h=>h.2 hg,hrows.flat hT,hcell⟩;cases ho';have hi':(if i=ba 0 then U (Ob.arr e T l)else V)=U oi:=hi;have hj':(if j=ba 0 then U (Ob.arr e T l)else V)=U oj:=hj;split at hi';split at hj';rename_i h1 h2;exact absurd (h1.trans h2.symm) hij;cases hj';cases hi';have hg:((v::vs).toArray++Array.replicate (fn.ntmps-(v::vs).length) undef).getD t undef=(v::vs).getD t undef:=by
   simp only[uac,uah];rcases uem t (v::vs).length with H|hge
   rw[uai (by simpa using H)];simp;rw[uad (by simpa using hge),ua4 hge];simp only[uas];split<;>rfl
  show dP P w _ _ _ ((AV.c (.own (ba 0))::eI ps xs).getD t .dead) (((v::vs).toArray++Array.replicate (fn.ntmps-(v::vs).length) undef).getD t undef);rw[hg];exact vG (ny (q _ (by simp[ap,DG])) t);exfalso;have:=ny (q (λ_ _=>True) trivial) t;have ht':(AV.c (.own (ba 0))::eI ps xs).getD t .dead=.maybe g want v:=ht;rw[ht']at this;exact this;show aE P w _ _ (if t=0 then .c (.own (ba 0))else .dead) v;split;exact⟨S,by simp[bc,ap,DG]⟩;trivial
 have hwp:=fR hC c 0 (hΛ c _ hb) ht (tZ N hok) O;have hsz:((v::vs).toArray).size=(v::vs).length:=by simp
 rw[hsz];refine wp_mono hwp ?_;rintro ex a' w' ⟨xe,s,rfl,⟨F',γ',hi⟩,hxe,n,m,hnn⟩;have Q:a'.defers=[]/\∃ u,(results fn a'.tmps).run P w'=.ok u w'/\Nx w ⟨e,T,ps,rs,λl xs=>(fr l xs).get,λl xs=>[(fr l xs).ok]⟩ v (fr l xs).get (.returned u) w':=by
  unfold qS at m;split at m<;>try trivial
  rename_i k hgs;split at m<;>try trivial
  rename_i e' t' l' hmk;split at m<;>try trivial
  rename_i hty;split at m<;>try trivial
  rename_i hee;split at m<;>try trivial
  rename_i avs n' hres;split at m<;>try trivial
  rename_i axs u hrs;split at m<;>try trivial
  rename_i y hdec;injection m with m
  obtain⟨hn',hy⟩:=uL m hnn;subst hty;subst hee;obtain⟨us,hran,hreps⟩:=nz hi hres hn';obtain⟨F'',hs,hm',_,hxs⟩:=iy hi.mem (dv hi) (cX.of λ_ _ h=>h) hrs hreps;obtain⟨γ0,h1⟩:=hi.step;have hgv:v=γ' k:=by
   have h2:=hi.gh 0;rw[hgs]at h2;have h3:ap s.mem γ' k v:=h2.2;simpa[ap,hmk]using h3
  obtain⟨rows2,q1,q2,q3,q4⟩:=gg.of (hi.mem.ob k _ hmk) H;rw[<- hgv]at q1;refine⟨hi.df,_,pz hran,_,rows2,rfl,⟨h1.os,h1.tape,h1.output,h1.size,λb hb hne=>h1.hw b ⟨hb,λh=>hne h.symm⟩⟩,?_,?_,q4,?_⟩;rw[<- hy];exact q1;rw[<- hy];exact q3.flat hT;rw[<- hy];exact(vH (lC hdec hxs)).flat hTs
 rcases hxe with rfl|rfl
 exact Q;exact Q
def UH{t:Ty}{l:List t.den}(h:bU w F t l xs):∀ x∈l,Wf t x:=λx j=>by
 obtain⟨i,hi,rfl⟩:=List.mem_iff_getElem.1 j;exact aA.wf (h i _ (uaq hi))
def TP{size:Nat}(h:w.ownsRow B e size v n xs):n<=maxLen:=by
 rcases h.2 with ⟨_,rfl⟩|⟨g,i,cur,_,_,_,j,m,_⟩
 exact ufc _;exact uel j m
def gW{mt:Mt}(h:SoundMt P f mt)(g:List mt.T.den->ag mt.ps->List mt.T.den×aa mt.rs)(ok:List mt.T.den->ag mt.ps->List Prop)(hg:∀ w F l xs vs,cJ P w F mt.ps xs vs->l.length<=maxLen->(∀ x∈l,Wf mt.T x)->av (ok l xs)->av (mt.ok l xs)/\mt.f l xs=g l xs):SoundMt P f ⟨mt.e,mt.T,mt.ps,mt.rs,g,ok⟩:=by
 refine⟨h.lt,h.flat,h.flats,h.enters,λw F l xs v vs i hb m N t hc u q j=>?_⟩;obtain⟨C,H⟩:=hg w F l xs vs q (TP m) (UH t) j;have:=h.calls w F l xs v vs i hb m N t hc u q C;rw[H]at this;exact this
end
def dt(step:T->σ->Fr (σ ⊕ ρ)):List T->σ->σ ⊕ ρ
 |[],s=>.inl s
 |x::r,s=>match (step x s).get with
  |.inl i=>dt step r i
  |.inr y=>.inr y
def jo(step:T->σ->Fr (σ ⊕ ρ)):List T->σ->Prop
 |[],_=>True
 |x::r,s=>(step x s).ok/\match (step x s).get with
  |.inl i=>jo step r i
  |.inr _=>True
def kJ(step:T->σ->Fr σ):List T->σ->σ
 |[],s=>s
 |x::r,s=>kJ step r (step x s).get
def pg(step:T->σ->Fr σ):List T->σ->Prop
 |[],_=>True
 |x::r,s=>(step x s).ok/\pg step r (step x s).get
def dF:σ ⊕ ρ->Bool
 |.inl _=>Z
 |.inr _=>Y
def dO(d:σ):σ ⊕ ρ->σ
 |.inl s=>s
 |.inr _=>d
def zej(d:ρ):σ ⊕ ρ->ρ
 |.inl _=>d
 |.inr y=>y
def Rd.up{X i j:Type}:Rd Empty i j->Rd X i j
 |.next x=>nomatch x
 |.out y=>.out y
 |.back z=>.back z
 |.pan p=>.pan p
section
variable {P:Program} {c:Code} {L Eo R:LS} {n id:Nat} {T σ ρ:Type}
structure InL (good:Prop) (u:Int×List T×σ):Prop where
 good:good
 lo:0<=u.1
 hi:u.1<=u.2.1.length
 big:(u.2.1.length:Int)<=9223372036854775807
def FL(step:T->σ->Fr (σ ⊕ ρ))(un:L.X->Int×List T×σ)(good:L.X->Prop)(ca:σ->Eo.X)(outR:ρ->Rd Empty Eo.X R.X)(d:σ)(i:ρ)(x:L.X):Fr (Rd L.X Eo.X R.X):=
 Fr.need (InL (good x) (un x)) (Fr.need (jo step ((un x).2.1.drop (un x).1.toNat) (un x).2.2)
  (Fr.br (dF (dt step ((un x).2.1.drop (un x).1.toNat) (un x).2.2)) (Fr.val (Rd.out (ca (dO d (dt step ((un x).2.1.drop (un x).1.toNat) (un x).2.2)))))
   (Fr.val (Rd.up (outR (zej i (dt step ((un x).2.1.drop (un x).1.toNat) (un x).2.2)))))))
def zdk {fr:L.X->Fr (Rd L.X Eo.X R.X)} (h:ae P c L ⟨n,id,L,Eo,R⟩ fr) (step:T->σ->Fr (σ ⊕ ρ)) (un:L.X->Int×List T×σ) (good:L.X->Prop) (ca:σ->Eo.X) (outR:ρ->Rd Empty Eo.X R.X) (d:σ) (d2:ρ)
  (q:∀ x,good x->0<=(un x).1->(un x).1<(un x).2.1.length->((un x).2.1.length:Int)<=9223372036854775807->∀ e,(un x).2.1[(un x).1.toNat]?= U e->∀ Q:Rd L.X Eo.X R.X->Prop,
   (step e (un x).2.2).satP (λ
    |.inl s'=>∀ t,un t=((un x).1+1,(un x).2.1,s')->good t->Q (.next t)
    |.inr y=>Q (Rd.up (outR y)))->(fr x).satP Q)
  (N:∀ x,good x->¬ (un x).1<(un x).2.1.length->∀ Q:Rd L.X Eo.X R.X->Prop,Q (.out (ca (un x).2.2))->(fr x).satP Q) :
  ae P (.loop c) L ⟨n,id,L,Eo,R⟩ (FL step un good ca outR d d2):=by
 refine ae.loop (n:=n) (id:=id) h (inv:=λx=>InL (good x) (un x)) (μ:=λx=>(((un x).2.1.length:Int)-(un x).1).toNat) ?_ (λx Q hq=>hq.1);intro x S Q hq;obtain⟨_,m,i,j⟩:=hq;by_cases hi:(un x).1<(un x).2.1.length
 ·have hlo:=S.lo;have u:=S.big;have W:(un x).1.toNat<(un x).2.1.length:=by omega
  have e1:(un x).2.1.drop (un x).1.toNat=(un x).2.1[(un x).1.toNat]::(un x).2.1.drop ((un x).1.toNat+1):=ual W;have hn:((un x).1+1).toNat=(un x).1.toNat+1:=by omega
  rw[e1]at m i j;generalize he:(un x).2.1[(un x).1.toNat]=e at m i j;have he':(un x).2.1[(un x).1.toNat]?= U e:=by rw[uaq W,he]
  refine q x S.good hlo hi u e he' _ (nL m.1 ?_);have w:=m.2;simp only[dt]at i j;cases hg:(step e (un x).2.2).get with
  |inl s'=>
   simp only[hg]at w i j;intro t C hgd;have e2:(un t).1=(un x).1+1:=by rw[C]
   have F:(un t).2.1=(un x).2.1:=by rw[C]
   have e4:(un t).2.2=s':=by rw[C]
   have O:InL (good t) (un t):=⟨hgd,by rw[e2];omega,by rw[e2,F];omega,by rw[F];exact u⟩;refine⟨O,by rw[e2,F];omega,O,?_,?_,?_⟩;rw[e2,F,e4,hn];exact w;rw[e2,F,e4,hn];exact i;rw[e2,F,e4,hn];exact j
  |inr y=>
   simp only[hg]at i j;have:=j rfl;simp only[zej]at this;cases H:outR y with
   |next x=>exact nomatch x
   |out y2=>rw[H]at this;simp only[H,Rd.up];exact this
   |back z=>rw[H]at this;simp only[H,Rd.up];exact this
   |pan p=>rw[H]at this;simp only[H,Rd.up];exact this
 have W:(un x).2.1.drop (un x).1.toNat=[]:=ua2 (by have:=S.lo;omega);rw[W]at i;exact N x S.good hi _ (i rfl)
def FF(step:T->σ->Fr σ)(un:L.X->Int×List T×σ)(good:L.X->Prop)(ca:σ->Eo.X)(x:L.X):Fr (Rd L.X Eo.X R.X):=
 Fr.need (InL (good x) (un x)) (Fr.need (pg step ((un x).2.1.drop (un x).1.toNat) (un x).2.2)
  (Fr.val (Rd.out (ca (kJ step ((un x).2.1.drop (un x).1.toNat) (un x).2.2)))))
def zdj {fr:L.X->Fr (Rd L.X Eo.X R.X)} (h:ae P c L ⟨n,id,L,Eo,R⟩ fr) (step:T->σ->Fr σ) (un:L.X->Int×List T×σ) (good:L.X->Prop) (ca:σ->Eo.X)
  (m:∀ x,good x->0<=(un x).1->(un x).1<(un x).2.1.length->((un x).2.1.length:Int)<=9223372036854775807->∀ e,(un x).2.1[(un x).1.toNat]?= U e->∀ Q:Rd L.X Eo.X R.X->Prop,
   (step e (un x).2.2).satP (λs'=>∀ q,un q=((un x).1+1,(un x).2.1,s')->good q->Q (.next q))->(fr x).satP Q)
  (C:∀ x,good x->¬ (un x).1<(un x).2.1.length->∀ Q:Rd L.X Eo.X R.X->Prop,Q (.out (ca (un x).2.2))->(fr x).satP Q) :
  ae P (.loop c) L ⟨n,id,L,Eo,R⟩ (FF step un good ca):=by
 refine ae.loop (n:=n) (id:=id) h (inv:=λx=>InL (good x) (un x)) (μ:=λx=>(((un x).2.1.length:Int)-(un x).1).toNat) ?_ (λx Q hq=>hq.1);intro x H Q hq;obtain⟨_,j,i⟩:=hq;by_cases hi:(un x).1<(un x).2.1.length;have W:=H.lo;have t:=H.big;have N:(un x).1.toNat<(un x).2.1.length:=by omega
 have e1:(un x).2.1.drop (un x).1.toNat=(un x).2.1[(un x).1.toNat]::(un x).2.1.drop ((un x).1.toNat+1):=ual N;have hn:((un x).1+1).toNat=(un x).1.toNat+1:=by omega
 rw[e1]at j i;generalize he:(un x).2.1[(un x).1.toNat]=e at j i;have O:(un x).2.1[(un x).1.toNat]?= U e:=by rw[uaq N,he]
 refine m x H.good W hi t e O _ (nL j.1 ?_);intro q u S;have e2:(un q).1=(un x).1+1:=by rw[u]
 have w:(un q).2.1=(un x).2.1:=by rw[u]
 have e4:(un q).2.2=(step e (un x).2.2).get:=by rw[u]
 have F:InL (good q) (un q):=⟨S,by rw[e2];omega,by rw[e2,w];omega,by rw[w];exact t⟩;refine⟨F,by rw[e2,w];omega,F,?_,?_⟩;rw[e2,w,e4,hn];exact j.2;rw[e2,w,e4,hn];exact i;have N:(un x).2.1.drop (un x).1.toNat=[]:=ua2 (by have:=H.lo;omega);rw[N]at i;exact C x H.good hi _ i
def Fr.mapR(f:α->β):Fr α->Fr β
 |.val x=>.val (f x)
 |.br b x y=>.br b (x.mapR f) (y.mapR f)
 |.need p x=>.need p (x.mapR f)
def su{f:α->β}{Q:β->Prop}:{t:Fr α}->t.satP (λx=>Q (f x))->(t.mapR f).satP Q
 |.val _,h=>h
 |.br _ _ _,h=>⟨λhb=>su (h.1 hb),λhb=>su (h.2 hb)⟩
 |.need _ _,h=>⟨h.1,su h.2⟩
inductive Nd|o|n (m:Nd)|z (m:Nd)|g (c v:Bool) (m:Nd)|h (c v:Bool) (m:Nd)|r (m:Nd)|d (m m2:Nd)
def Nd.ins(b z:Prop):Nd->Fr α->Fr α
 |.n m,t=>.need b (m.ins b z t)
 |.z m,t=>.need z (m.ins b z t)
 |.g c v m,t=>.need (c=v->b) (m.ins b z t)
 |.h c v m,t=>.need (c=v->z) (m.ins b z t)
 |.r m,.need p t=>.need p (m.ins b z t)
 |.d m i,.br c x y=>.br c (m.ins b z x) (i.ins b z y)
 |_,t=>t
def Nd.ins_sat{b z:Prop}{Q:α->Prop}(hb:b)(hz:z):(m:Nd)->(t:Fr α)->t.satP Q->(m.ins b z t).satP Q
 |.n m,_,q=>⟨hb,m.ins_sat hb hz _ q⟩
 |.z m,_,q=>⟨hz,m.ins_sat hb hz _ q⟩
 |.g _ _ m,_,q=>⟨λ_=>hb,m.ins_sat hb hz _ q⟩
 |.h _ _ m,_,q=>⟨λ_=>hz,m.ins_sat hb hz _ q⟩
 |.r m,.need _ _,q=>⟨q.1,m.ins_sat hb hz _ q.2⟩
 |.r _,.br _ _ _,q=>q
 |.r _,.val _,q=>q
 |.d m i,.br _ _ _,q=>⟨λe=>m.ins_sat hb hz _ (q.1 e),λe=>i.ins_sat hb hz _ (q.2 e)⟩
 |.d _ _,.need _ _,q=>q
 |.d _ _,.val _,q=>q
 |.o,_,q=>q
inductive AllQ (K:α->Prop):Fr α->Prop
 |val (x:α):K x->AllQ K (.val x)
 |br (c:Bool) (x y:Fr α):AllQ K x->AllQ K y->AllQ K (.br c x y)
 |need (p:Prop) (x:Fr α):AllQ K x->AllQ K (.need p x)
def AllQ.sat{K Q:α->Prop}:{t:Fr α}->AllQ K t->t.satP Q->t.satP (λr=>K r/\Q r)
 |.val _,.val _ h,q=>⟨h,q⟩
 |.br _ _ _,.br _ _ _ i j,q=>⟨λe=>i.sat (q.1 e),λe=>j.sat (q.2 e)⟩
 |.need _ _,.need _ _ h,q=>⟨q.1,h.sat q.2⟩
def Wq(un:L.X->Int×List T×σ)(good:L.X->Prop)(up:L.X->σ->L.X)(x:L.X)(s:σ):Prop:=un (up x s)=(I6.wrap ((un x).1+1),(un x).2.1,s)/\good (up x s)
def L5(un:L.X->Int×List T×σ)(good:L.X->Prop)(up:L.X->σ->L.X)(x:L.X):σ ⊕ ρ->Prop
 |.inl s=>Wq un good up x s
 |.inr _=>True
def JK(up:σ->L.X)(outR:ρ->Rd Empty Eo.X R.X):σ ⊕ ρ->Rd L.X Eo.X R.X
 |.inl s=>.next (up s)
 |.inr y=>Rd.up (outR y)
def WC {C:Cx} (O:CxOK P C) {Λ:Nat->St->Option Tr} (hΛ:∀ E,bP P E Λ c 0) (step:T->σ->Fr (σ ⊕ ρ)) (un:L.X->Int×List T×σ) (good:L.X->Prop) (ca:σ->Eo.X) (outR:ρ->Rd Empty Eo.X R.X) (d:σ) (w:ρ) (nd:T->σ->Nd) (u:L.X->Int) (el:L.X->T) (b z:L.X->Prop) (up:L.X->σ->L.X)
  (m:∀ x,good x->0<=(un x).1->(un x).1<(un x).2.1.length->u x=((un x).2.1.length:Int)/\(un x).2.1[(un x).1.toNat]?= U (el x)/\b x/\z x)
  (q:∀ x,good x->¬ (un x).1<(un x).2.1.length->¬ (un x).1<u x)
  (i:∀ x,nB P C 0 Λ c L ⟨n,id,L,Eo,R⟩ x=U (Fr.br (J ((un x).1<u x)) (((nd (el x) (un x).2.2).ins (b x) (z x) (step (el x) (un x).2.2)).mapR (JK (up x) outR)) (Fr.val (Rd.out (ca (un x).2.2)))))
  (t:∀ x,good x->AllQ (L5 (ρ:=ρ) un good up x) (step (el x) (un x).2.2):=by intro _ h;repeat' first|exact And.intro rfl h|exact trivial|constructor)
  (W:L.low=true:=by rfl) (S:Eo.low=true:=by rfl) (hR:R.low=true:=by rfl) :
  ae P (.loop c) L ⟨n,id,L,Eo,R⟩ (FL step un good ca outR d w):=by
 refine zdk (ae.of_run O (bs:=0) (Λ:=Λ) W S hR hΛ i) step un good ca outR d w ?_ ?_;intro x hg h0 j hb e he Q h;obtain⟨e1,e2,F,H⟩:=m x hg h0 j;have N:el x=e:=ud0 (e2.symm.trans he);subst N;refine⟨λ_=>su (Nd.ins_sat F H _ _ (Fr.satP_mono (λr i=>?_) ((t x hg).sat h))),λhc=>absurd (e1 ▸ j) (ucg hc)⟩;cases r with
 |inl s=>exact i.2 _ (i.1.1.trans (by rw[IntWalk.i64_in _ (by omega)])) i.1.2
 |inr y=>exact i.2
 intro x hg j Q h;exact⟨λhc=>absurd (ucw hc) (q x hg j),λ_=>h⟩
def qf {C:Cx} (F:CxOK P C) {Λ:Nat->St->Option Tr} {step:T->σ->Fr (σ ⊕ ρ)} {un:L.X->Int×List T×σ} {good:L.X->Prop} {ca:σ->Eo.X} {outR:ρ->Rd Empty Eo.X R.X} {d:σ} {q:ρ} (u:T->σ->Nd) (i:T) (m:L.X->Int) (up:L.X->σ->L.X) (t:∀ x,good x->m x=((un x).2.1.length:Int))
  (hΛ:∀ E,bP P E Λ c 0:=by exact λ_=>aY _ 0)
  (O:∀ x,nB P C 0 Λ c L ⟨n,id,L,Eo,R⟩ x=U (Fr.br (J ((un x).1<m x)) (((u ((un x).2.1.getD (un x).1.toNat i) (un x).2.2).ins (0<=(un x).1/\(un x).1<((un x).2.1.length:Int)) True (step ((un x).2.1.getD (un x).1.toNat i) (un x).2.2)).mapR (JK (up x) outR)) (Fr.val (Rd.out (ca (un x).2.2)))):=by intro x;kernel_rfl)
  (j:∀ x,good x->AllQ (L5 (ρ:=ρ) un good up x) (step ((un x).2.1.getD (un x).1.toNat i) (un x).2.2):=by intro _ h;repeat' first|exact And.intro rfl h|exact trivial|constructor)
  (N:L.low=true:=by rfl) (H:Eo.low=true:=by rfl) (hR:R.low=true:=by rfl) :
  ae P (.loop c) L ⟨n,id,L,Eo,R⟩ (FL step un good ca outR d q):=
 WC F hΛ step un good ca outR d q u m _ _ _ up (λx hg h0 w=>⟨t x hg,by
  rw[uaq (by omega),uah,uaq (by omega)];rfl,⟨h0,w⟩,uT⟩) (λx hg h=>by rw[t x hg];exact h) O j N H hR
def zdl {C:Cx} (W:CxOK P C) {Λ:Nat->St->Option Tr} {m:Type} {step:T×m->σ->Fr (σ ⊕ ρ)} {un:L.X->Int×List (T×m)×σ} {good:L.X->Prop} {ca:σ->Eo.X} {outR:ρ->Rd Empty Eo.X R.X} {d:σ} {F:ρ} (O:T×m->σ->Nd) (q:T) (j:m) (i:L.X->List T) (l2:L.X->List m) (u:L.X->Int) (up:L.X->σ->L.X) (N:∀ x,good x->u x=((i x).length:Int)/\(i x).length=(l2 x).length)
  (hΛ:∀ E,bP P E Λ c 0:=by exact λ_=>aY _ 0)
  (hr:∀ x,nB P C 0 Λ c L ⟨n,id,L,Eo,R⟩ x=U (Fr.br (J ((un x).1<u x)) (((O ((i x).getD (un x).1.toNat q,(l2 x).getD (un x).1.toNat j) (un x).2.2).ins (0<=(un x).1/\(un x).1<((i x).length:Int)) (0<=(un x).1/\(un x).1<((l2 x).length:Int)) (step ((i x).getD (un x).1.toNat q,(l2 x).getD (un x).1.toNat j) (un x).2.2)).mapR (JK (up x) outR)) (Fr.val (Rd.out (ca (un x).2.2)))):=by intro x;kernel_rfl)
  (H:∀ x,(un x).2.1=(i x).zip (l2 x):=by intro _;rfl)
  (t:∀ x,good x->AllQ (L5 (ρ:=ρ) un good up x) (step ((i x).getD (un x).1.toNat q,(l2 x).getD (un x).1.toNat j) (un x).2.2):=by intro _ h;repeat' first|exact And.intro rfl h|exact trivial|constructor)
  (hM:L.low=true:=by rfl) (hE:Eo.low=true:=by rfl) (hR:R.low=true:=by rfl) :
  ae P (.loop c) L ⟨n,id,L,Eo,R⟩ (FL step un good ca outR d F):=
 WC W hΛ step un good ca outR d F O u _ _ _ up (λx hg h0 S=>by
  obtain⟨w,Q⟩:=N x hg;rw[H x,udv]at S |-;have hi:(un x).1.toNat<(i x).length:=by omega
  have hj:(un x).1.toNat<(l2 x).length:=by omega
  refine⟨by rw[w];omega,?_,⟨h0,by omega⟩,⟨h0,by omega⟩⟩;rw[uah,uah,uaq hi,uaq hj,uaq (by rw[udv];omega),List.getElem_zip];rfl) (λx hg h=>by
  obtain⟨w,Q⟩:=N x hg;rw[H x,udv]at h;omega) hr t hM hE hR
def LF {C:Cx} (F:CxOK P C) {Λ:Nat->St->Option Tr} {step:T->σ->Fr σ} {un:L.X->Int×List T×σ} {good:L.X->Prop} {ca:σ->Eo.X} (S:T->σ->Nd) (j:T) (w:L.X->Int) (up:L.X->σ->L.X) (u:∀ x,good x->w x=((un x).2.1.length:Int))
  (hΛ:∀ E,bP P E Λ c 0:=by exact λ_=>aY _ 0)
  (i:∀ x,nB P C 0 Λ c L ⟨n,id,L,Eo,R⟩ x=U (Fr.br (J ((un x).1<w x)) (((S ((un x).2.1.getD (un x).1.toNat j) (un x).2.2).ins (0<=(un x).1/\(un x).1<((un x).2.1.length:Int)) True (step ((un x).2.1.getD (un x).1.toNat j) (un x).2.2)).mapR (λs=>Rd.next (up x s))) (Fr.val (Rd.out (ca (un x).2.2)))):=by intro x;kernel_rfl)
  (q:∀ x,good x->AllQ (Wq un good up x) (step ((un x).2.1.getD (un x).1.toNat j) (un x).2.2):=by intro _ h;repeat' first|exact And.intro rfl h|exact trivial|constructor)
  (N:L.low=true:=by rfl) (H:Eo.low=true:=by rfl) (hR:R.low=true:=by rfl) :
  ae P (.loop c) L ⟨n,id,L,Eo,R⟩ (FF step un good ca):=by
 refine zdj (ae.of_run F (bs:=0) (Λ:=Λ) N H hR hΛ i) step un good ca ?_ ?_;intro x hg h0 m hb e O Q h;have t:(un x).2.1.getD (un x).1.toNat j=e:=by rw[uah,O];rfl
 rw[t];refine⟨λ_=>su (Nd.ins_sat ⟨h0,m⟩ trivial _ _ (Fr.satP_mono (λs i=>?_) (AllQ.sat (t ▸ q x hg) h))),λhc=>absurd (u x hg ▸ m) (ucg hc)⟩;exact i.2 _ (i.1.1.trans (by rw[IntWalk.i64_in _ (by omega)])) i.1.2;intro x hg m Q h;exact⟨λhc=>absurd (ucw hc) (by rw[u x hg];exact m),λ_=>h⟩
def ph{step:T->σ->Fr (σ ⊕ ρ)}(h:∀ e s,(step e s).ok):(l:List T)->(s:σ)->jo step l s
 |[],_=>trivial
 |e::r,s=>by
  refine⟨h e s,?_⟩;split;exact ph h r _;trivial
end
section
variable {P:Program} {c:Code} {L Eo R:LS} {n id:Nat} {T σ ρ:Type}
end
end Go.Ab
