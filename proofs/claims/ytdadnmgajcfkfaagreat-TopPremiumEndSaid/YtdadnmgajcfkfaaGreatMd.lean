/-
  Parts of the proof, one behind the other.
-/
import Derived.Test.YtdadnmgajcfkfaaGreatMc
import Derived.Laws.Sem
import Derived.KernelRfl
import Derived.Recover
import Derived.Carry
import Derived.ChangeSame
import Derived.ProofKit
import Derived.OpenShut
import Derived.ChangeCalls
import Derived.IntWalk
import Derived.ScopeJumps
set_option linter.all false
set_option maxRecDepth 100000
set_option maxHeartbeats 4000000
noncomputable section
open Option renaming some->U,none->V
open Bool renaming true->Z,false->Y
open Decidable renaming decide->J
open List renaming replicate->Lrp
open BitVec renaming ofInt->Bvo
open Go Go.RowKit
variable {T α σ ρ β:Type} {P:Program} {ad:Addr} {arr cs cur:Array Value} {f:FuncId} {x a y day:Int} {k:IntKind} {l:List Int} {xs vs news:List Value} {off i n b c d B m len:Nat} {F F' K:Nat->Prop} {R g R':Nat->Value->Prop} {o:Oper} {p:Prop} {e ety t ty el:TypeId} {v u vx:Value} {w w' W' W:World}
namespace Go.Ab
open Go Go.RowKit
inductive Fr (α:Type) where
 |val (x:α)
 |br (b:Bool) (x y:Fr α)
 |need (p:Prop) (x:Fr α)
def Fr.needL(a:List Prop)(x:Fr α):Fr α:=a.foldr (λp t=>.need p t) x
def Fr.get:Fr α->α
 |.val x=>x
 |.br b x y=>if b=Z then x.get else y.get
 |.need _ x=>x.get
def Fr.ok:Fr α->Prop
 |.val _=>True
 |.br b x y=>(b=Z->x.ok)/\(b=Y->y.ok)
 |.need p x=>p/\x.ok
def eh(P:Program)(b:List ResultVar)(a:List Ty)(s:St):Option (Fr (aa a)):=
 match ji P s b with
 |some (c,n)=>match fe s.mem c with
  |some (d,_)=>match jp a d with
   |some y=>U (Fr.needL n (.val y))
   |none=>V
  |none=>V
 |none=>V
def iZ(P:Program)(b:List ResultVar)(a:List Ty)(s:St):Option (Fr (aa a)):=match eh P b a s with
 |some t=>U t
 |none=>eh P b a (BI s)
def jR(P:Program)(c:List ResultVar)(a:List Ty):Tr->Option (Fr (aa a))
 |.leaf .ret s=>iZ P c a s
 |.leaf .normal s=>iZ P c a s
 |.leaf _ _=>V
 |.br b x y=>match jR P c a x,jR P c a y with
  |some d,U e=>U (.br b d e)
  |_,_=>V
 |.need p x=>match jR P c a x with
  |some d=>U (.need p d)
  |none=>V
 |.two p x y=>match jR P c a x,jR P c a y with
  |some d,U e=>U (.need (p->d.ok/\d.get=e.get) e)
  |_,_=>V
def gk:(a:List PT)->ap a->List AV
 |[],_=>[]
 |p::r,x=>Ln p x.1::gk r x.2
def Pe(P:Program)(C:Cx)(f:Nat->St->Option Tr)(c:Code)(n:Nat)(d:List ResultVar)(a:List PT)(b:List Ty)(e:ap a):Option (Fr (aa b)):=
 match cQ P C 0 f c 0 (vL n (gk a e))with
 |some t=>jR P d b t
 |none=>V
section
variable {P:Program} {B:Nat} {w w':World} {E:Env} {F F':Nat->Prop} {bs:Nat} {γ γ' γ0:Nat->Value} {Γ:Gm} {M m:aX} {R:Nat->Value->Prop}
def H0(b:Array Value):ResultVar->Sem Value
 |.tmp t=>pure (b.getD t undef)
 |.cell a t=>do loadVar t (<- asAddr (b.getD a undef))
def Hx(P:Program)(a:Array Value)(w:World):List ResultVar->List Value->Prop
 |[],[]=>True
 |r::b,v::c=>(H0 a r).run P w=.ok v w/\Hx P a w b c
 |_,_=>False
def XX{a:Array Value}:(l:List ResultVar)->(b:List Value)->Hx P a w l b->(l.mapM (m:=Sem) (H0 a)).run P w=.ok b w
 |[],[],_=>by simp
 |r::c,v::d,h=>by rw[List.mapM_cons];simp only[uet,h.1,Result.andThen,XX c d h.2,uev]
def zl:List Value->Value
 |[v]=>v
 |vs=>.tuple vs.toArray
def sf{a:Func}{tmps:Array Value}(h:Hx P tmps w a.results.toList vs):(results a tmps).run P w=.ok (zl vs) w:=by
 have b:results a tmps=(do
   let vs <- a.results.mapM (H0 tmps)
   pure (if h:vs.size=1 then vs[0]else .tuple vs)):=by
  congr 1
 rw[b,Array.mapM_eq_mapM_toList];simp only[uet,map_eq_pure_bind,uev,XX _ _ h];cases vs with
 |nil=>simp[zl]
 |cons v vs=>
  cases vs with
  |nil=>simp[zl]
  |cons c vs=>simp[zl]
def zk:{ts:List Ty} -> {x:aa ts} -> {vs:List Value}->fi w F ts x vs->jF w F ts x (zl vs)
 |[],_,_,h=>by cases h;exact⟨#[],rfl,rfl⟩
 |[t],x,vs,h=>by obtain⟨v,b,rfl,c,a⟩:=h;cases a;exact c
 |t::e::r,x,vs,h=>by obtain⟨v,b,rfl,c,a⟩:=id h;obtain⟨f,d,rfl,_,_⟩:=id a;exact⟨_,rfl,by simpa using h⟩
def pK:{a:List PT} -> {c:ap a} -> {b:List Value}->dm P w F a c b->bI P w F R (gk a c) b
 |[],_,_,h=>by cases h;trivial
 |_::_,_,_,⟨v,g,d,e,f⟩=>by subst d;exact⟨Ug e,pK f⟩
def qn:{xs:List AV} -> {vs:List Value}->bI P w F R xs vs->∀ i:Nat,aK P w F R (xs.getD i .dead) (vs.getD i undef)
 |[],[],_,i=>trivial
 |x::xs,v::vs,h,0=>h.1
 |x::xs,v::vs,h,i+1=>by have:=qn h.2 i;simpa using this
def z9{D:List Deferred}{k:List AV}(l:∀ b,F b->b<w.heap.size)(h:∀ R,bI P w F R k vs)(r:vs.length<=n):I P ⟨w,F,λ_=>undef,D,w.heap.size,ufb _⟩ (vL n k) { tmps:=vs.toArray++Array.replicate (n-vs.length) undef,defers:=D } w:=by
 refine⟨F,λ_=>undef,?_,rfl,⟨λ_=>undef,Step.refl l⟩,⟨λid o e=>(nomatch e),λi j s u b _ e=>(nomatch e)⟩,λt=>?_,λt g c v p=>?_,λ_=>uT⟩;show _=n;simp;omega;have m:(vs.toArray++Array.replicate (n-vs.length) undef).getD t undef=vs.getD t undef:=by
  simp;rcases ueq t vs.length with d|a
  rw[uai (by simpa using d)];simp;rw[uad (by simpa using a),ua4 a];simp only[uas];split<;>rfl
 rw[m];exact zj (qn (h _) t);exfalso;have:=qn (h λ_ _=>True) t;have f:k.getD t .dead=.maybe g c v:=p;rw[f]at this;exact this
def yu{x:Fr α}:(a:List Prop)->(Fr.needL a x).ok->az a/\x.ok
 |[],h=>⟨uT,h⟩
 |p::a,h=>by have b:=h;obtain⟨c,d⟩:=yu a b.2;exact⟨lk.2 ⟨b.1,c⟩,d⟩
def yq{x:Fr α}:(a:List Prop)->(Fr.needL a x).get=x.get
 |[]=>rfl
 |_::a=>yq a
def ud{k:List ResultVar}{d:List Ty}:{t:Tr} -> {f:Fr (aa d)}->jR P k d t=U f->f.ok->t.sat λe s=>(e=.ret\/e=.normal)/\∃ g,(g=s\/g=BI s)/\∃ n,eh P k d g=U (Fr.needL n (.val f.get))/\az n
 |.leaf e s,f,h,a=>by
  have c:∀ s,eh P k d s=U f->∃ n,eh P k d s=U (Fr.needL n (.val f.get))/\az n:=λs h=>by
   have w:=h;unfold eh at h;split at h<;>try trivial
   split at h<;>try trivial
   split at h<;>try trivial
   cases h;refine⟨_,?_,(yu _ a).1⟩;rw[yq];exact w
  have o:iZ P k d s=U f->∃ g,(g=s\/g=BI s)/\∃ n,eh P k d g=U (Fr.needL n (.val f.get))/\az n:=λh=>by unfold iZ at h;split at h;rename_i t A;cases h;exact⟨s,.inl rfl,c s A⟩;exact⟨BI s,.inr rfl,c _ h⟩
  cases e with
  |exit i=>simp[jR]at h
  |panic i=>simp[jR]at h
  |val i=>simp[jR]at h
  |jump i=>simp[jR]at h
  |normal=>exact⟨.inr rfl,o h⟩
  |ret=>exact⟨.inl rfl,o h⟩
 |.br b x y,f,h,a=>by
  simp only[jR]at h;split at h<;>try trivial
  rename_i v B m r;cases h;refine⟨λl=>?_,λl=>?_⟩;have:=ud m (a.1 l);simpa only[Fr.get,l,if_true]using this;have:=ud r (a.2 l);simpa only[Fr.get,l,ub3,uft]using this
 |.need p x,f,h,a=>by
  simp only[jR]at h;split at h<;>try trivial
  rename_i v m;cases h;have:=ud m a.2;exact⟨a.1,this⟩
 |.two p x y,f,h,a=>by
  simp only[jR]at h;split at h<;>try trivial
  rename_i v B m r;cases h;have z:=ud r a.2;refine⟨λu=>?_,z⟩;have:=ud m (a.1 u).1
  rwa [(a.1 u).2]at this
def qo{s:St}{a:Act}(g:InvG P E s a w [] F γ):{o:List ResultVar} -> {vs:List AV} -> {n:List Prop}->ji P s o=U (vs,n)->az n->∃ f,Hx P a.tmps w o f/\bI P w F (av s.mem γ) vs f
 |[],vs,n,h,i=>by obtain⟨rfl,rfl⟩:=h;exact⟨[],uT,uT⟩
 |r::o,vs,n,h,i=>by
  simp only[ji]at h;split at h<;>try trivial
  rename_i v K H L c A;cases h;obtain⟨f,x,y⟩:=qo g A (lj.1 i).2;have k:=(lj.1 i).1;cases r with
  |tmp t=>obtain⟨rfl,_⟩:=c;exact⟨a.tmps.getD t undef::f,⟨by simp[H0],x⟩,ux g t,y⟩
  |cell p t=>
   simp only[ZS]at c;split at c<;>try trivial
   rename_i id G C;split at c<;>try trivial
   rename_i e B;cases c;have l:=ux g p;rw[C]at l;obtain⟨_,u,z,m⟩:=XF g.mem (λ_ _ h=>h) B k l;obtain⟨_,b,_,D⟩:=l;refine⟨u::f,⟨?_,x⟩,m,y⟩;have d:=D;rw[d]at z;show(do loadVar t (<- asAddr (a.tmps.getD p undef)):Sem Value).run P w=_;rw[d];exact z
def yr{x y:α}:{g f:List Prop}->Fr.needL g (.val x)=Fr.needL f (.val y)->az f->az g/\x=y
 |[],[],h,_=>by
  have e:=h;injection e with e
  exact⟨uT,e⟩
 |[],_::_,h,_=>nomatch (show Fr.val x=Fr.need _ _ from h)
 |_::_,[],h,_=>nomatch (show Fr.need _ _=Fr.val y from h)
 |p::g,q::f,h,l=>by
  have e:=h;injection e with i k
  subst i;obtain⟨a,b⟩:=lk.1 l;obtain⟨c,d⟩:=yr k b;exact⟨lk.2 ⟨a,c⟩,d⟩
def qx9{C:Cx}(hC:CxOK P C){Λ:Nat->St->Option Tr}{o:Func}{c:Code}{g:List PT}{O:List Ty}{M:ap g->Fr (aa O)}(hf:P.funcs[f]?= U o)(N:o.body=U c)(hc:∀ k w,(callFunc f k).run P w=.ok (.enter f k) w)(hn:g.length<=o.ntmps)(hΛ:∀ E,co P E Λ c 0)(L:∀ xs,Pe P C Λ c o.ntmps o.results.toList g O xs=U (M xs)):ag P f ⟨g,O,λxs=>(M xs).get,λxs=>[(M xs).ok]⟩:=by
 refine⟨hc,λw F xs m W hr hok=>uff hf N ?_⟩;have x:=L xs;unfold Pe at x;split at x<;>try trivial
 rename_i t ht;have hlen:m.length=g.length:=by
  have:∀ {g:List PT} {xs:ap g} {m:List Value},dm P w F g xs m->m.length=g.length:=by
   intro g
   induction g with
   |nil=>intro xs m h;cases h;rfl
   |cons p r ih=>intro xs m h;obtain⟨v,vs',rfl,_,h3⟩:=h;simp[ih h3]
  exact this hr
 have i:=z9 (D:=[]) (n:=o.ntmps) W (λR=>pK hr) (by omega);have hwp:=iG hC c 0 (hΛ _) ht (ud x hok) i;have hsz:(m.toArray).size=m.length:=by simp
 refine wp_mono hwp ?_;rintro e T Q ⟨xe,s0,rfl,⟨F0,γ',G⟩,hxe,s,hs0,n,a,hnn⟩;obtain⟨F',B⟩:∃ F',InvG P _ s T Q [] F' γ':=by
  rcases hs0 with rfl|rfl
  exact⟨F0,G⟩;exact Gd _ G
 have l:T.defers=[]/\∃ v,(results o T.tmps).run P Q=.ok v Q/\iB w F O (M xs).get (.returned v) Q:=by
  unfold eh at a;split at a<;>try trivial
  rename_i avs n' K;split at a<;>try trivial
  rename_i axs u hrs;split at a<;>try trivial
  rename_i y A;injection a with a
  obtain⟨hn',hy⟩:=yr a hnn;subst hy;obtain⟨us,H,z⟩:=qo B K hn';obtain⟨S,hs,hm',_,hxs⟩:=ke B.mem (eE B) (dM.of λ_ _ h=>h) hrs z;obtain⟨γ0,h0⟩:=B.step;have d:=h0.trans hs;refine⟨B.df,_,sf H,_,S,rfl,⟨d.os,d.tape,d.output,d.size,d.old⟩,d.hF,λb N=>⟨d.new b N,d.bd b N⟩,zk (nY A hxs)⟩
 rcases hxe with rfl|rfl
 exact l;exact l
def conv{a:Ct}(h:ag P f a)(g:ap a.ps->aa a.rs)(ok:ap a.ps->List Prop)(k:∀ w F xs vs,dm P w F a.ps xs vs->az (ok xs)->az (a.ok xs)/\a.f xs=g xs):ag P f ⟨a.ps,a.rs,g,ok⟩:=by refine⟨h.1,λw F xs vs i c b=>?_⟩;obtain⟨d,e⟩:=k w F xs vs c b;have:=h.2 w F xs vs i c d;rw[e]at this;exact this
def enters{fn:Func}{c:Code}(d:P.funcs[f]?= U fn)(b:fn.body=U c)(e:(fn.name == "runtime.NumGoroutine")=Y)(args:Array Value)(w:World):(callFunc f args).run P w=.ok (.enter f args) w:=by
 have a:¬ fn.name = "runtime.NumGoroutine" := by simpa using e
 simp[callFunc,d,b,a]
def oP(P:Program)(C:Cx)(Λ:Nat->St->Option Tr)(a:Func)(b:List PT)(d:List Ty)(e:ap b):Option (Fr (aa d)):=
 match a.body with
 |some c=>if (a.name == "runtime.NumGoroutine")=Y/\b.length<=a.ntmps then Pe P C Λ c a.ntmps a.results.toList b d e else V
 |none=>V
def cF{C:Cx}(l:CxOK P C){Λ:Nat->St->Option Tr}{fn:Func}{d:List PT}{i:List Ty}{fr:ap d->Fr (aa i)}(m:ap d)(k:P.funcs[f]?= U fn)(h:∀ c E,fn.body=U c->co P E Λ c 0)(a:∀ xs,oP P C Λ fn d i xs=U (fr xs)):ag P f ⟨d,i,λxs=>(fr xs).get,λxs=>[(fr xs).ok]⟩:=by
 have e:=a m;unfold oP at e;split at e<;>try trivial
 rename_i c b;split at e<;>try trivial
 rename_i g;refine qx9 l k b (enters k b g.1) g.2 (λE=>h c E b) λxs=>?_;have:=a xs;unfold oP at this;simp only[b,g,if_true]at this;exact this
def qbv{s:St}{a:Act}{k:List AV}(d:InvG P E s a w [] F γ)(h:bI P w F (av s.mem γ) k vs)(o:vs.length<=n):
  I P ⟨E.w0,E.F0,gK a E,[],E.B,E.hB⟩ ⟨n,λi=>k.getD i .dead,s.mem,s.at⟩ { tmps:=vs.toArray++Array.replicate (n-vs.length) undef,defers:=[] } w:=by
 refine⟨F,γ,?_,rfl,d.step,d.mem,λt=>?_,λt g c v m=>?_,λt=>WW d t⟩;show _=n;simp;omega;have l:(vs.toArray++Array.replicate (n-vs.length) undef).getD t undef=vs.getD t undef:=by
  simp;rcases ueq t vs.length with e|b
  rw[uai (by simpa using e)];simp;rw[uad (by simpa using b),ua4 b];simp only[uas];split<;>rfl
 rw[l];exact zj (qn h t);exfalso;have:=qn h t;have f:k.getD t .dead=.maybe g c v:=m;rw[f]at this;exact this
def Gy{s b:St}{a o:Act}(m:InvG P E s a w [] F γ)(h:InvG P ⟨E.w0,E.F0,gK a E,[],E.B,E.hB⟩ b o w' [] F' γ'):InvG P E (b.back s.n) a w' [] F' γ':=by
 refine⟨m.n,m.df,h.step,h.mem,λt=>?_,λt g f v l=>?_,λt=>?_⟩;show fw P w' F' _ _ (if t<10000 then b.gs t else .dead) _;split;rename_i l;have:=h.gh t;have i:gK a E t=a.tmps.getD t undef:=by unfold gK;rw[ufw l]
 have c:aK P w' F' (av b.mem γ') (b.gs t) (gK a E t):=this;rw[i]at c;exact zj c;trivial;exfalso;have d:(if t<10000 then b.gs t else .dead)=.maybe g f v:=l;split at d;have:=h.gh t;rw[d]at this;exact this;cases d;have p:∀ k,aK P w' F' (av b.mem γ') (b.gs k) (gK a E k):=λk=>h.gh k;have e:∀ k,k=t+10000->aK P w' F' (av b.mem γ') (b.gs k) (E.G t):=λk r=>by
  have c:=p k;unfold gK at c;rw[ufx (by omega)]at c;have i:k-10000=t:=by omega
  rw[i]at c;exact c
 exact e _ rfl
def ZT:{xs:List AV} -> {vs:List Value}->bI P w F R xs vs->aK P w F R (vB xs) (zl vs)
 |[],[],_=>⟨#[],rfl,rfl,uT⟩
 |[_],[_],h=>h.1
 |x::y::r,v::u::s,h=>by
  refine⟨_,rfl,?_,?_⟩;have:∀ {xs:List AV} {vs:List Value},bI P w F R xs vs->vs.length=xs.length:=λh=>h.length;simpa using this h;have:∀ (xs:List AV) (vs:List Value),bI P w F R xs vs->nG P w F R xs (λj u=>vs[j]?= U u):=by
   intro xs
   induction xs with
   |nil=>intros;trivial
   |cons x xs a=>
    intro vs h;cases vs with
    |nil=>exact h.elim
    |cons v vs=>exact⟨⟨v,rfl,h.1⟩,by simpa using a vs h.2⟩
  simpa using this _ _ h
 |[],_::_,h=>h.elim
 |_::_,[],h=>h.elim
 |[_],_::_::_,h=>h.2.elim
 |_::_::_,[_],h=>h.2.elim
def tT{o:List ResultVar}{Q:XE->St->Prop}:{t d:Tr}->ja P o n t=U d->d.sat Q->t.sat λe s=>match e with
  |.panic p=>Q (.panic p) (s.back n)
  |.ret=>∃ vs c,ji P s o=U (vs,c)/\az c/\Q (.val (vB vs)) (s.back n)
  |.normal=>∃ vs c,ji P s o=U (vs,c)/\az c/\Q (.val (vB vs)) (s.back n)
  |_=>False
 |.leaf e s,d,h,a=>by
  cases e with
  |panic p=>simp only[ja,ucl]at h;subst h;exact a
  |ret=>
   simp only[ja]at h;split at h<;>try trivial
   rename_i vs c l;cases h;obtain⟨i,k⟩:=lz _ a;exact⟨vs,c,l,i,k⟩
  |normal=>
   simp only[ja]at h;split at h<;>try trivial
   rename_i vs c l;cases h;obtain⟨i,k⟩:=lz _ a;exact⟨vs,c,l,i,k⟩
  |exit _=>simp[ja]at h
  |val _=>simp[ja]at h
  |jump _=>simp[ja]at h
 |.br b x y,d,h,a=>by
  simp only[ja]at h;split at h<;>try trivial
  rename_i r u g m;cases h;exact⟨λf=>tT g (a.1 f),λf=>tT m (a.2 f)⟩
 |.need p x,d,h,a=>by
  simp only[ja]at h;split at h<;>try trivial
  rename_i r g;cases h;exact⟨a.1,tT g a.2⟩
 |.two p x y,d,h,a=>by
  simp only[ja]at h;split at h<;>try trivial
  rename_i r u g m;cases h;exact⟨λf=>tT g (a.1 f),tT m a.2⟩
def jt{C:Cx}(hC:CxOK P C){R:FuncId->Option (Func×(Nat->St->Option Tr))}(hX:∀ f fn z,R f=U (fn,z)->P.funcs[f]?= U fn/\∀ c E,fn.body=U c->co P E z c 0):jC P (iJ P C R):=by
 intro d f T s t h;unfold iJ at h;split at h<;>try trivial
 rename_i fn z K;split at h<;>try trivial
 rename_i c b;split at h<;>try trivial
 rename_i hc;split at h<;>try trivial
 rename_i t1 G;obtain⟨W,L⟩:=hX f fn z K;refine⟨enters W b hc.2,λE a w F γ o Q A hr hq=>uff W b ?_⟩;have hlen:=hr.length;have i:=qbv (n:=fn.ntmps) A hr (by omega);have x:=tT h hq;have H:=iG hC c 0 (L c _ b) G x i;have hsz:(o.toArray).size=o.length:=by simp
 refine wp_mono H ?_;rintro e S N ⟨xe,s',rfl,⟨O,y,g⟩,m⟩;have k:(∃ o M,ji P s' fn.results.toList=U (o,M)/\az M/\Q (.val (vB o)) (s'.back s.n))->S.defers=[]/\∃ v,(results fn S.tmps).run P N=.ok v N/\Jf P E a Q (.returned v) N:=by rintro⟨o,M,u,B,D⟩;obtain⟨us,r,l⟩:=qo g u B;exact⟨g.df,_,sf r,_,_,O,y,D,Gy A g,_,rfl,ZT l⟩
 cases xe with
 |panic p=>exact⟨g.df,.panic p,_,O,y,m,Gy A g,rfl⟩
 |ret=>exact k m
 |normal=>exact k m
 |exit _=>exact m.elim
 |val _=>exact m.elim
 |jump _=>exact m.elim
end
def X2{p:Nat->Prop}(h:∃ n,p n):∃ n,p n/\∀ m,p m->n<=m:=by
 obtain⟨n,e⟩:=h
 induction n using Nat.strongRecOn with
 |_ n f=>
  by_cases b:∃ m,m<n/\p m;obtain⟨m,c,d⟩:=b;exact f m c d;refine⟨n,e,λm a=>?_⟩;rcases ueq m n with h|h
  exact absurd ⟨m,h,a⟩ b;exact h
def yd(p:Nat->Prop):Nat:=open Classical in if h:∃ n,p n then (X2 h).choose else 0
def ye{p:Nat->Prop}(h:∃ n,p n):p (yd p)/\∀ m,p m->yd p<=m:=by unfold yd;rw[dif_pos h];exact(X2 h).choose_spec
def zr2{c:Code}{Q:Exit->Act->World->Prop}{a:Act}(n:Nat->Act->World->Prop)(g:∃ m,n m a w)(round:∀ m a w,n m a w->c.wp P (Exit.then (λd w'=>∃ m',m'<m/\n m' d w') Q) a w):(Code.loop c).wp P Q a w:=by
 refine wp_loop (λa w=>∃ m,n m a w) (λa w=>yd λm=>n m a w) g λa w h=>?_;obtain⟨i,l⟩:=ye h;refine wp_mono (round _ a w i) λe d w' f=>?_;cases e with
 |normal=>obtain⟨m',k,b⟩:=f;exact⟨⟨m',b⟩,ucd ((ye ⟨m',b⟩).2 m' b) k⟩
 |_=>exact f
def Fr.s7(Q:α->Prop):Fr α->Prop
 |.val x=>Q x
 |.br b x y=>(b=Z->x.s7 Q)/\(b=Y->y.s7 Q)
 |.need p x=>p/\x.s7 Q
def q9{Q:α->Prop}:{f:Fr α}->f.ok->Q f.get->f.s7 Q
 |.val _,_,h=>h
 |.br b x y,h,c=>by refine⟨λa=>q9 (h.1 a) ?_,λa=>q9 (h.2 a) ?_⟩;simpa only[Fr.get,a,if_true]using c;simpa only[Fr.get,a,ub3,uft]using c
 |.need p x,h,c=>⟨h.1,q9 h.2 c⟩
def dt{Q:α->Prop}:{f:Fr α}->f.s7 Q->f.ok/\Q f.get
 |.val _,h=>⟨uT,h⟩
 |.br b x y,h=>by
  cases b with
  |true=>have:=dt (h.1 rfl);exact⟨⟨λ_=>this.1,λa=>by cases a⟩,this.2⟩
  |false=>have:=dt (h.2 rfl);exact⟨⟨λa=>(by cases a),λ_=>this.1⟩,this.2⟩
 |.need p x,h=>⟨⟨h.1,(dt h.2).1⟩,(dt h.2).2⟩
def I9{Q:α->Prop}{x:Fr α}:{a:List Prop}->(Fr.needL a x).s7 Q->az a/\x.s7 Q
 |[],h=>⟨uT,h⟩
 |p::a,h=>by have b:=h;obtain⟨c,d⟩:=I9 b.2;exact⟨lk.2 ⟨b.1,c⟩,d⟩
inductive Rd (X Y Z:Type) where
 |next (x:X)
 |out (y:Y)
 |back (z:Z)
 |pan (p:PV)
structure Lp where
 n:Nat
 id:Nat
 L:LS
 E:LS
 R:LS
abbrev Lp.In(l:Lp):Type:=l.L.X
abbrev Lp.Out(l:Lp):Type:=Rd Unit l.E.X l.R.X
abbrev Lp.Round(l:Lp):Type:=Rd l.L.X l.E.X l.R.X
def Lp.rdOf(a:Gm)(l:Lp):Tr->Option (Fr l.Round)
 |.leaf .normal s=>if s.n=l.n then match l.L.ext a s with
   |some (x,n)=>U (Fr.needL n (.val (.next x)))
   |none=>V
  else V
 |.leaf (.exit i) s=>if i=l.id/\s.n=l.n then match l.E.ext a s with
   |some (x,n)=>U (Fr.needL n (.val (.out x)))
   |none=>V
  else V
 |.leaf .ret s=>if s.n=l.n then match l.R.ext a s with
   |some (x,n)=>U (Fr.needL n (.val (.back x)))
   |none=>V
  else V
 |.leaf (.panic p) s=>if s.n=l.n then U (.val (.pan p))else V
 |.leaf (.val _) _=>V
 |.leaf (.jump _) _=>V
 |.br b x y=>match l.rdOf a x,l.rdOf a y with
  |some c,U d=>U (.br b c d)
  |_,_=>V
 |.need p x=>match l.rdOf a x with
  |some c=>U (.need p c)
  |none=>V
 |.two p x y=>match l.rdOf a x,l.rdOf a y with
  |some c,U d=>U (.need (p->c.ok/\c.get=d.get) d)
  |_,_=>V
def Lp.round(P:Program)(C:Cx)(a:Nat)(b:Nat->St->Option Tr)(c:Code)(l:Lp)(x:l.In):Option (Fr l.Round):=
 match cQ P C a b c 0 (l.L.tpl l.n x)with
 |some t=>l.rdOf C.Γ t
 |none=>V
def Lp.toTr(l:Lp):Fr l.Out->Tr
 |.val (.next _)=>.need False (.leaf .ret ⟨0,λ_=>.dead,λ_=>V,λ_=>.dead⟩)
 |.val (.out y)=>.leaf (.exit l.id) (l.E.tpl l.n y)
 |.val (.back z)=>.leaf .ret (l.R.tpl l.n z)
 |.val (.pan p)=>.leaf (.panic p) ⟨l.n,λ_=>.dead,λ_=>V,λ_=>.dead⟩
 |.br b x y=>.br b (l.toTr x) (l.toTr y)
 |.need p x=>.need p (l.toTr x)
def Lp.han(a:Gm)(l:Lp)(F:l.In->Fr l.Out)(s:St):Option Tr:=
 if s.n=l.n then match l.L.ext a s with
  |some (x,n)=>U (needL n (l.toTr (F x)))
  |none=>V
 else V
section
variable {P:Program} {B:Nat} {w w':World} {E:Env} {bs:Nat} {Γ:Gm}
def Lp.toTr_sat(l:Lp){Q:XE->St->Prop}:{f:Fr l.Out}->(l.toTr f).sat Q->f.s7 λ
  |.next _=>False
  |.out y=>Q (.exit l.id) (l.E.tpl l.n y)
  |.back z=>Q .ret (l.R.tpl l.n z)
  |.pan p=>Q (.panic p) ⟨l.n,λ_=>.dead,λ_=>V,λ_=>.dead⟩
 |.val (.next _),h=>h.1
 |.val (.out _y),h=>h
 |.val (.back _z),h=>h
 |.val (.pan _),h=>h
 |.br _b _x _y,h=>⟨λa=>l.toTr_sat (h.1 a),λa=>l.toTr_sat (h.2 a)⟩
 |.need _p _x,h=>⟨h.1,l.toTr_sat h.2⟩
def Lp.rd_sat(l:Lp){Q:l.Round->Prop}:{t:Tr} -> {f:Fr l.Round}->l.rdOf Γ t=U f->f.s7 Q->t.sat λe s=>match e with
  |.normal=>s.n=l.n/\∃ x n,l.L.ext Γ s=U (x,n)/\az n/\Q (.next x)
  |.exit i=>i=l.id/\s.n=l.n/\∃ x n,l.E.ext Γ s=U (x,n)/\az n/\Q (.out x)
  |.ret=>s.n=l.n/\∃ x n,l.R.ext Γ s=U (x,n)/\az n/\Q (.back x)
  |.panic p=>s.n=l.n/\Q (.pan p)
  |.val _=>False
  |.jump _=>False
 |.leaf .normal s,f,h,a=>by
  simp only[Lp.rdOf]at h;split at h<;>try trivial
  rename_i d;split at h<;>try trivial
  rename_i x n c;cases h;obtain⟨g,k⟩:=I9 a;exact⟨d,x,n,c,g,k⟩
 |.leaf (.exit i) s,f,h,a=>by
  simp only[Lp.rdOf]at h;split at h<;>try trivial
  rename_i d;split at h<;>try trivial
  rename_i x n c;cases h;obtain⟨g,k⟩:=I9 a;exact⟨d.1,d.2,x,n,c,g,k⟩
 |.leaf .ret s,f,h,a=>by
  simp only[Lp.rdOf]at h;split at h<;>try trivial
  rename_i d;split at h<;>try trivial
  rename_i x n c;cases h;obtain⟨g,k⟩:=I9 a;exact⟨d,x,n,c,g,k⟩
 |.leaf (.panic p) s,f,h,a=>by
  simp only[Lp.rdOf]at h;split at h<;>try trivial
  rename_i d;cases h;exact⟨d,a⟩
 |.leaf (.val _) s,f,h,a=>by simp[Lp.rdOf]at h
 |.leaf (.jump _) s,f,h,a=>by simp[Lp.rdOf]at h
 |.br b x y,f,h,a=>by
  simp only[Lp.rdOf]at h;split at h<;>try trivial
  rename_i u v c o;cases h;exact⟨λm=>l.rd_sat c (a.1 m),λm=>l.rd_sat o (a.2 m)⟩
 |.need p x,f,h,a=>by
  simp only[Lp.rdOf]at h;split at h<;>try trivial
  rename_i u c;cases h;have:=l.rd_sat c a.2;exact⟨a.1,this⟩
 |.two p x y,f,h,a=>by
  simp only[Lp.rdOf]at h;split at h<;>try trivial
  rename_i u v c o;cases h;refine⟨λr=>l.rd_sat c (q9 (a.1 r).1 ?_),l.rd_sat o a.2⟩;rw[(a.1 r).2];exact(dt a.2).2
end
inductive Oc (α:Type) where
 |ok (x:α)
 |pan (p:PV)
def TQ:(a:List Ty)->aa a
 |[]=>()
 |t::r=>(t.j,TQ r)
def Oc.bad:Oc α->Bool
 |.ok _=>Y
 |.pan _=>Z
def Oc.pv:Oc α->PV
 |.ok _=>⟨0,.i64,0⟩
 |.pan p=>p
def Oc.val{a:List Ty}:Oc (aa a)->aa a
 |.ok x=>x
 |.pan _=>TQ a
def Fp(P:Program)(b:List ResultVar)(a:List Ty)(s:St):Option (Fr (Oc (aa a))):=
 match ji P s b with
 |some (c,n)=>match fe s.mem c with
  |some (d,_)=>match jp a d with
   |some y=>U (Fr.needL n (.val (.ok y)))
   |none=>V
  |none=>V
 |none=>V
def kI(P:Program)(c:List ResultVar)(a:List Ty):Tr->Option (Fr (Oc (aa a)))
 |.leaf .ret s=>Fp P c a s
 |.leaf .normal s=>Fp P c a s
 |.leaf (.panic p) _=>U (.val (.pan p))
 |.leaf _ _=>V
 |.br b x y=>match kI P c a x,kI P c a y with
  |some d,U e=>U (.br b d e)
  |_,_=>V
 |.need p x=>match kI P c a x with
  |some d=>U (.need p d)
  |none=>V
 |.two p x y=>match kI P c a x,kI P c a y with
  |some d,U e=>U (.need (p->d.ok/\d.get=e.get) e)
  |_,_=>V
def Pf(P:Program)(C:Cx)(f:Nat->St->Option Tr)(a:Func)(b:List PT)(d:List Ty)(e:ap b):Option (Fr (Oc (aa d))):=
 match a.body with
 |some c=>if (a.name == "runtime.NumGoroutine")=Y/\b.length<=a.ntmps then match cQ P C 0 f c 0 (vL a.ntmps (gk b e))with
   |some t=>kI P a.results.toList d t
   |none=>V
  else V
 |none=>V
section
variable {P:Program} {w w':World} {E:Env} {F F':Nat->Prop} {γ γ':Nat->Value}
def xJ{l:List ResultVar}{d:List Ty}:{t:Tr} -> {f:Fr (Oc (aa d))}->kI P l d t=U f->f.ok->t.sat λe s=>match e with
  |.panic p=>f.get=.pan p
  |.ret=>∃ vs n xs u y,ji P s l=U (vs,n)/\az n/\fe s.mem vs=U (xs,u)/\jp d xs=U y/\f.get=.ok y
  |.normal=>∃ vs n xs u y,ji P s l=U (vs,n)/\az n/\fe s.mem vs=U (xs,u)/\jp d xs=U y/\f.get=.ok y
  |_=>False
 |.leaf e s,f,h,a=>by
  have key:Fp P l d s=U f->∃ vs n xs u y,ji P s l=U (vs,n)/\az n/\fe s.mem vs=U (xs,u)/\jp d xs=U y/\f.get=.ok y:=λh=>by
   unfold Fp at h;split at h<;>try trivial
   rename_i vs n w;split at h<;>try trivial
   rename_i xs u c;split at h<;>try trivial
   rename_i y k;cases h;exact⟨vs,n,xs,u,y,w,(yu _ a).1,c,k,yq _⟩
  cases e with
  |exit i=>simp[kI]at h
  |panic p=>simp only[kI,ucl]at h;subst h;rfl
  |val v=>simp[kI]at h
  |jump v=>simp[kI]at h
  |normal=>exact key h
  |ret=>exact key h
 |.br b x y,f,h,a=>by
  simp only[kI]at h;split at h<;>try trivial
  rename_i o z c k;cases h;refine⟨λg=>?_,λg=>?_⟩;have:=xJ c (a.1 g);simpa only[Fr.get,g,if_true]using this;have:=xJ k (a.2 g);simpa only[Fr.get,g,ub3,uft]using this
 |.need p x,f,h,a=>by
  simp only[kI]at h;split at h<;>try trivial
  rename_i o c;cases h;have:=xJ c a.2;exact⟨a.1,this⟩
 |.two p x y,f,h,a=>by
  simp only[kI]at h;split at h<;>try trivial
  rename_i o z c k;cases h;have r:=xJ k a.2;refine⟨λm=>?_,r⟩;have:=xJ c (a.1 m).1
  rwa [(a.1 m).2]at this
def v9:{a:List PT} -> {e:ap a} -> {b:List Value}->dm P w F a e b->b.length=a.length
 |[],_,_,h=>by cases h;rfl
 |_::_,_,_,⟨_,_,c,_,d⟩=>by subst c;simp[v9 d]
def Vl{C:Cx}(hC:CxOK P C){Λ:Nat->St->Option Tr}{fn:Func}{N:List PT}{O:List Ty}{d:ap N->Fr (Oc (aa O))}(x0:ap N)(hf:P.funcs[f]?= U fn)(hΛ:∀ c E,fn.body=U c->co P E Λ c 0)(o:∀ xs,Pf P C Λ fn N O xs=U (d xs)):
  lM P f ⟨N,O,λxs=>(d xs).get.val,λxs=>(d xs).get.bad,λxs=>(d xs).get.pv,λxs=>[(d xs).ok]⟩:=by
 have g:=o x0;unfold Pf at g;split at g<;>try trivial
 rename_i c r;split at g<;>try trivial
 rename_i hc;refine⟨enters hf r hc.1,λw F xs z T hr W=>uff hf r ?_⟩;have i:=o xs;unfold Pf at i;simp only[r,hc,ufs,if_true]at i;split at i<;>try trivial
 rename_i t ht;have hlen:z.length=N.length:=v9 hr;have k:=z9 (D:=[]) (n:=fn.ntmps) T (λR=>pK hr) (by omega);have hwp:=iG hC c 0 (hΛ c _ r) ht (xJ i W) k;have hsz:(z.toArray).size=z.length:=by simp
 refine wp_mono hwp ?_;rintro e a' Q ⟨xe,s,rfl,⟨F',γ',B⟩,G⟩;obtain⟨γ0,g⟩:=B.step;have l:(∃ z n A u y,ji P s fn.results.toList=U (z,n)/\az n/\fe s.mem z=U (A,u)/\jp O A=U y/\(d xs).get=.ok y) ->
   a'.defers=[]/\∃ v,(results fn a'.tmps).run P Q=.ok v Q/\(((d xs).get.bad=Y/\iB w F O (d xs).get.val (.returned v) Q)\/((d xs).get.bad=Z/\Ending.returned v=.panicked [{ v:=(d xs).get.pv.val,recovered:=Y }]/\Below w.heap.size w Q)):=by
  rintro⟨z,n,A,u,y,L,hn,hrs,H,m⟩;obtain⟨us,K,x⟩:=qo B L hn;obtain⟨S,hs,hm',_,hxs⟩:=ke B.mem (eE B) (dM.of λ_ _ h=>h) hrs x;have a:=g.trans hs;refine⟨B.df,_,sf K,.inl ⟨by rw[m];rfl,_,S,rfl,⟨a.os,a.tape,a.output,a.size,a.old⟩,a.hF,λb r=>⟨a.new b r,a.bd b r⟩,?_⟩⟩;rw[m];exact zk (nY H hxs)
 cases xe with
 |normal=>exact l G
 |ret=>exact l G
 |panic p=>have M:=G;refine⟨B.df,.inr ⟨?_,?_,⟨g.os,g.tape,g.output,g.size,g.old⟩⟩⟩;show(d xs).get.bad=Z;rw[M];rfl;show Ending.panicked _=Ending.panicked [{ v:=(d xs).get.pv.val,recovered:=Y }];rw[M];rfl
 |exit _=>exact G.elim
 |val _=>exact G.elim
 |jump _=>exact G.elim
def Tw{a:Pc}(h:lM P f a)(g:ap a.ps->aa a.rs)(bad:ap a.ps->Bool)(pv:ap a.ps->PV)(ok:ap a.ps->List Prop)(s:∀ w F xs vs,dm P w F a.ps xs vs->az (ok xs)->az (a.ok xs)/\a.bad xs=bad xs/\(bad xs=Y->a.f xs=g xs)/\(bad xs=Z->a.pv xs=pv xs)):lM P f ⟨a.ps,a.rs,g,bad,pv,ok⟩:=by
 refine⟨h.1,λw F xs vs p l i=>?_⟩;obtain⟨m,k,n,o⟩:=s w F xs vs l i;refine(h.2 w F xs vs p l m).mono λe u r=>?_;rcases r with ⟨b,t⟩|⟨b,rfl,d⟩
 have c:=k ▸ b;refine .inl ⟨c,?_⟩;show iB w F a.rs (g xs) e u;rw[<- n c];exact t;have c:=k ▸ b;refine .inr ⟨c,?_,d⟩;rw[o c]
end
structure Pt where
 n:Nat
 id:Nat
 M:LS
 E:LS
 R:LS
def Pt.lp(p:Pt):Lp:=⟨p.n,p.id,p.M,p.E,p.R⟩
abbrev Pt.Out(p:Pt):Type:=Rd p.M.X p.E.X p.R.X
def DG(P:Program)(E:Env)(p:Pt)(Q:p.Out->Prop)(e:Exit)(a:Act)(w:World):Prop:=
 ∃ r,Q r/\match r with
  |.next m=>e=.normal/\I P E (p.M.tpl p.n m) a w
  |.out y=>e=.exit p.id/\I P E (p.E.tpl p.n y) a w
  |.back z=>e=.ret/\I P E (p.R.tpl p.n z) a w
  |.pan v=>e=.panic [{ v:=v.val,recovered:=Y }]/\∃ s,s.n=p.n/\I P E s a w
def af(P:Program)(c:Code)(L:LS)(p:Pt)(f:L.X->Fr p.Out):Prop:=
 ∀ (E:Env) (a:Act) (w:World) (x:L.X) (Q:p.Out->Prop),I P E (L.tpl p.n x) a w->(f x).s7 Q->c.wp P (DG P E p Q) a w
def qr(P:Program)(C:Cx)(bs:Nat)(Λ:Nat->St->Option Tr)(c:Code)(L:LS)(p:Pt)(x:L.X):Option (Fr p.Out):=
 match cQ P C bs Λ c 0 (L.tpl p.n x)with
 |some t=>p.lp.rdOf C.Γ t
 |none=>V
def Fr.bindR{X a c W:Type}(k:X->Fr (Rd W a c)):Fr (Rd X a c)->Fr (Rd W a c)
 |.val (.next m)=>k m
 |.val (.out y)=>.val (.out y)
 |.val (.back z)=>.val (.back z)
 |.val (.pan p)=>.val (.pan p)
 |.br b x y=>.br b (x.bindR k) (y.bindR k)
 |.need p x=>.need p (x.bindR k)
def Fr.outR{a c W:Type}:Fr (Rd a a c)->Fr (Rd a W c)
 |.val (.next m)=>.val (.next m)
 |.val (.out y)=>.val (.next y)
 |.val (.back z)=>.val (.back z)
 |.val (.pan p)=>.val (.pan p)
 |.br b x y=>.br b x.outR y.outR
 |.need p x=>.need p x.outR
section
variable {P:Program} {E:Env}
def Fr.bindR_sat{X b c W:Type}{k:X->Fr (Rd W b c)}{Q:Rd W b c->Prop}:{f:Fr (Rd X b c)}->(f.bindR k).s7 Q->f.s7 λ
  |.next m=>(k m).s7 Q
  |.out y=>Q (.out y)
  |.back z=>Q (.back z)
  |.pan p=>Q (.pan p)
 |.val (.next _),h=>h
 |.val (.out _),h=>h
 |.val (.back _),h=>h
 |.val (.pan _),h=>h
 |.br _b _x _y,h=>⟨λa=>bindR_sat (h.1 a),λa=>bindR_sat (h.2 a)⟩
 |.need _p _x,h=>⟨h.1,bindR_sat h.2⟩
def Fr.outR_sat{b c W:Type}{Q:Rd b W c->Prop}:{f:Fr (Rd b b c)}->f.outR.s7 Q->f.s7 λ
  |.next m=>Q (.next m)
  |.out y=>Q (.next y)
  |.back z=>Q (.back z)
  |.pan p=>Q (.pan p)
 |.val (.next _),h=>h
 |.val (.out _),h=>h
 |.val (.back _),h=>h
 |.val (.pan _),h=>h
 |.br _b _x _y,h=>⟨λa=>outR_sat (h.1 a),λa=>outR_sat (h.2 a)⟩
 |.need _p _x,h=>⟨h.1,outR_sat h.2⟩
def Fr.satP_mono{Q c:α->Prop}(h:∀ x,Q x->c x):{f:Fr α}->f.s7 Q->f.s7 c
 |.val _,a=>h _ a
 |.br _ _ _,a=>⟨λb=>satP_mono h (a.1 b),λb=>satP_mono h (a.2 b)⟩
 |.need _ _,a=>⟨a.1,satP_mono h a.2⟩
def af.of_run{C:Cx}(o:CxOK P C){bs:Nat}{Λ:Nat->St->Option Tr}{c:Code}{L:LS}{p:Pt}(z:p.M.low=Z)(u:p.E.low=Z)(A:p.R.low=Z)(r:∀ E,co P E Λ c 0){f:L.X->Fr p.Out}(F:∀ x,qr P C bs Λ c L p x=U (f x)):af P c L p f:=by
 intro E a w x Q B D;have k:=F x;unfold qr at k;split at k<;>try trivial
 rename_i t G;have m:=p.lp.rd_sat k D;refine wp_mono (iG o c 0 (r E) G m B) ?_;rintro e N O ⟨K,H,rfl,h,b⟩;cases K with
 |normal=>obtain⟨d,y,s,n,l,g⟩:=b;have:=lZ o.ct z h n l;rw[d]at this;exact⟨.next y,g,rfl,this⟩
 |exit i=>obtain⟨rfl,d,y,s,n,l,g⟩:=b;have:=lZ o.ct u h n l;rw[d]at this;exact⟨.out y,g,rfl,this⟩
 |ret=>obtain⟨d,y,s,n,l,g⟩:=b;have:=lZ o.ct A h n l;rw[d]at this;exact⟨.back y,g,rfl,this⟩
 |panic v=>exact⟨.pan v,b.2,rfl,H,b.1,h⟩
 |val _=>exact b.elim
 |jump _=>exact b.elim
def af.conv{c:Code}{L:LS}{p:Pt}{f g:L.X->Fr p.Out}(h:af P c L p f)(b:∀ x Q,(g x).s7 Q->(f x).s7 Q):af P c L p g:=
 λE a w x Q d e=>h E a w x Q d (b x Q e)
def af.seq{a b:Code}{L M N d R:LS}{id:Nat}{f:L.X->Fr (Rd M.X d.X R.X)}{g:M.X->Fr (Rd N.X d.X R.X)}(o:af P a L ⟨n,id,M,d,R⟩ f)(p:af P b M ⟨n,id,N,d,R⟩ g):
  af P (.seq a b) L ⟨n,id,N,d,R⟩ λx=>(f x).bindR g:=by
 intro E l w x Q s t;refine wp_seq (wp_mono (o E l w x _ s (Fr.bindR_sat t)) ?_);rintro e k u ⟨r,i,h⟩;cases r with
 |next m=>obtain⟨rfl,c⟩:=h;exact p E k u m Q c i
 |out y=>obtain⟨rfl,c⟩:=h;exact⟨.out y,i,rfl,c⟩
 |back z=>obtain⟨rfl,c⟩:=h;exact⟨.back z,i,rfl,c⟩
 |pan v=>obtain⟨rfl,c⟩:=h;exact⟨.pan v,i,rfl,c⟩
def af.block{c:Code}{L M i R:LS}{id g:Nat}{f:L.X->Fr (Rd M.X M.X R.X)}(h:af P c L ⟨n,id,M,M,R⟩ f):af P (.block id c) L ⟨n,g,M,i,R⟩ λx=>(f x).outR:=by
 intro E k w x Q l o;refine wp_block (wp_mono (h E k w x _ l (Fr.outR_sat o)) ?_);rintro e p s ⟨r,d,b⟩;cases r with
 |next m=>obtain⟨rfl,a⟩:=b;exact⟨.next m,d,rfl,a⟩
 |out y=>obtain⟨rfl,a⟩:=b;unfold Exit.inBlock;simp;exact⟨.next y,d,rfl,a⟩
 |back z=>obtain⟨rfl,a⟩:=b;exact⟨.back z,d,rfl,a⟩
 |pan v=>obtain⟨rfl,a⟩:=b;exact⟨.pan v,d,rfl,a⟩
def af.loop {c:Code} {L N i R:LS} {id:Nat} {f:L.X->Fr (Rd L.X i.X R.X)} (h:af P c L ⟨n,id,L,i,R⟩ f) {F:L.X->Fr (Rd N.X i.X R.X)} {inv:L.X->Prop} {μ:L.X->Nat}
  (l:∀ x,inv x->∀ Q:Rd N.X i.X R.X->Prop,(F x).s7 Q->(f x).s7 λ
   |.next g=>inv g/\μ g<μ x/\(F g).s7 Q
   |.out y=>Q (.out y)
   |.back z=>Q (.back z)
   |.pan p=>Q (.pan p)) (k:∀ x Q,(F x).s7 Q->inv x):af P (.loop c) L ⟨n,id,N,i,R⟩ F:=by
 intro E a w x Q A u;refine zr2 (λm a w=>∃ x,inv x/\μ x=m/\I P E (L.tpl n x) a w/\(F x).s7 Q) ⟨μ x,x,k x Q u,rfl,A,u⟩ ?_;rintro m a w ⟨x,B,rfl,t,s⟩;refine wp_mono (h E a w x _ t (l x B Q s)) ?_;rintro e C D ⟨r,d,o⟩;cases r with
 |next g=>obtain⟨rfl,b⟩:=o;exact⟨μ g,d.2.1,g,d.1,rfl,b,d.2.2⟩
 |out y=>obtain⟨rfl,b⟩:=o;exact⟨.out y,d,rfl,b⟩
 |back z=>obtain⟨rfl,b⟩:=o;exact⟨.back z,d,rfl,b⟩
 |pan v=>obtain⟨rfl,b⟩:=o;exact⟨.pan v,d,rfl,b⟩
def Pt.toTr(p:Pt):Fr p.Out->Tr
 |.val (.next m)=>.leaf .normal (p.M.tpl p.n m)
 |.val (.out y)=>.leaf (.exit p.id) (p.E.tpl p.n y)
 |.val (.back z)=>.leaf .ret (p.R.tpl p.n z)
 |.val (.pan v)=>.leaf (.panic v) ⟨p.n,λ_=>.dead,λ_=>V,λ_=>.dead⟩
 |.br b x y=>.br b (p.toTr x) (p.toTr y)
 |.need q x=>.need q (p.toTr x)
def Pt.han(a:Gm)(L:LS)(p:Pt)(F:L.X->Fr p.Out)(s:St):Option Tr:=
 if s.n=p.n then match L.ext a s with
  |some (x,n)=>U (needL n (p.toTr (F x)))
  |none=>V
 else V
def Pt.toTr_sat(p:Pt){Q:XE->St->Prop}:{f:Fr p.Out}->(p.toTr f).sat Q->f.s7 λ
  |.next m=>Q .normal (p.M.tpl p.n m)
  |.out y=>Q (.exit p.id) (p.E.tpl p.n y)
  |.back z=>Q .ret (p.R.tpl p.n z)
  |.pan v=>Q (.panic v) ⟨p.n,λ_=>.dead,λ_=>V,λ_=>.dead⟩
 |.val (.next _),h=>h
 |.val (.out _),h=>h
 |.val (.back _),h=>h
 |.val (.pan _),h=>h
 |.br _b _x _y,h=>⟨λa=>p.toTr_sat (h.1 a),λa=>p.toTr_sat (h.2 a)⟩
 |.need _q _x,h=>⟨h.1,p.toTr_sat h.2⟩
def af.han{C:Cx}(D:CxOK P C){c:Code}{L:LS}{p:Pt}{F:L.X->Fr p.Out}(M:L.low=Z)(h:af P (.loop c) L p F):km P E c (p.han C.Γ L F):=by
 intro s t k Q O a w N;unfold Pt.han at k;split at k<;>try trivial
 rename_i A;split at k<;>try trivial
 rename_i x n S;cases k;obtain⟨o,u⟩:=lz _ O;have b:=lZ D.ct M N S o;rw[A]at b;refine wp_mono (h E a w x _ b (p.toTr_sat u)) ?_;rintro e K T ⟨r,i,f⟩;cases r with
 |next m=>obtain⟨rfl,b⟩:=f;exact⟨.normal,_,rfl,b,i⟩
 |out y=>obtain⟨rfl,b⟩:=f;exact⟨.exit p.id,_,rfl,b,i⟩
 |back z=>obtain⟨rfl,b⟩:=f;exact⟨.ret,_,rfl,b,i⟩
 |pan v=>
  obtain⟨rfl,W,l,b⟩:=f;have d:I P E ⟨p.n,λ_=>.dead,λ_=>V,λ_=>.dead⟩ K T:=by have:=lZ D.ct (L:=⟨[],[]⟩) rfl b rfl trivial;rw[l]at this;obtain⟨H,B,h⟩:=this;exact⟨H,B,h.n,h.df,h.step,h.mem,λt=>uT,λt g G v R=>(nomatch R),λt=>uT⟩
  exact⟨.panic v,_,rfl,d,i⟩
end
def Fk:(a:List Ty)->aa a
 |[]=>()
 |t::r=>(t.j,Fk r)
def aY:(b:List PT)->ap b
 |[]=>()
 |.d t::r=>(t.j,aY r)
 |.ptr t::r=>(t.j,aY r)
 |.fn _ a::r=>(λ_=>Fk a,aY r)
 |.pf _ a::r=>((λ_=>Fk a,λ_=>False),aY r)
 |.pfn _ a::r=>(λ_=>Fk a,aY r)
 |.pk _::r=>((),aY r)
def Li:(a:List YF)->lW a
 |[]=>()
 |(U _,_)::r=>([],Li r)
 |(V,t)::r=>(t.j,Li r)
def cf:(b:List MI)->dj b
 |[]=>()
 |.o _ _ _::r=>([],cf r)
 |.x _ _ c::r=>(c.j,cf r)
 |.r _ _ _::r=>cf (r)
 |.y _ _ a::r=>(Li a,cf r)
 |.g _ _ _::r=>cf (r)
 |.al _ _::r=>cf (r)
def cR:List (FuncId×α)->FuncId->Option α
 |[],_=>V
 |(g,c)::r,f=>if f=g then U c else cR r f
def kj(P:Program):List (FuncId×Ct)->Prop
 |[]=>True
 |(f,c)::r=>ag P f c/\kj P r
def sU(P:Program):List (FuncId×Pc)->Prop
 |[]=>True
 |(f,c)::r=>lM P f c/\sU P r
def kj.get:{l:List (FuncId×Ct)}->kj P l->∀ f c,cR l f=U c->ag P f c
 |[],_,f,c,h=>by simp[cR]at h
 |(g,d)::r,b,f,c,h=>by
  unfold cR at h;split at h;rename_i a;injection h with h
  subst h a;exact b.1;exact kj.get b.2 f c h
def sU.get:{l:List (FuncId×Pc)}->sU P l->∀ f c,cR l f=U c->lM P f c
 |[],_,f,c,h=>by simp[cR]at h
 |(g,d)::r,b,f,c,h=>by
  unfold cR at h;split at h;rename_i a;injection h with h
  subst h a;exact b.1;exact sU.get b.2 f c h
def cx(cs:List (FuncId×Ct))(ps:List (FuncId×Pc)):Cx:=⟨cR cs,cR ps,λ_ _ _ _=>V⟩
def dI(a:List (FuncId×Ct))(b:List (FuncId×Pc))(K:Nat->FuncId->List AV->St->Option Tr):Cx:=⟨cR a,cR b,K⟩
def aQ(a:P.follows .mixedOrders=Z){cs:List (FuncId×Ct)}{ps:List (FuncId×Pc)}(h:kj P cs)(k:sU P ps):CxOK P (cx cs ps):=
 ⟨a,⟨h.get,λ_ _ h=>(nomatch h)⟩,k.get,λ_ _ _ _ _ h=>(nomatch h)⟩
def dP(b:P.follows .mixedOrders=Z){cs:List (FuncId×Ct)}{ps:List (FuncId×Pc)}{K:Nat->FuncId->List AV->St->Option Tr}(h:kj P cs)(k:sU P ps)(a:jC P K):CxOK P (dI cs ps K):=
 ⟨b,⟨h.get,λ_ _ h=>(nomatch h)⟩,k.get,a⟩
def zZ(P:Program):List (FuncId×Row)->Prop
 |[]=>True
 |(f,r)::l=>DX P f r/\zZ P l
def zZ.get:{l:List (FuncId×Row)}->zZ P l->∀ f c,cR l f=U c->DX P f c
 |[],_,f,c,h=>by simp[cR]at h
 |(g,d)::r,a,f,c,h=>by simp only[cR]at h;split at h;rename_i b;subst b;cases h;exact a.1;exact zZ.get a.2 f c h
def nV(a:List (FuncId×Ct))(b:List (FuncId×Pc))(c:List (FuncId×Row))(K:Nat->FuncId->List AV->St->Option Tr):Cx:=⟨⟨cR a,cR c⟩,cR b,K⟩
def pE(b:P.follows .mixedOrders=Z){cs:List (FuncId×Ct)}{ps:List (FuncId×Pc)}{rs:List (FuncId×Row)}{K:Nat->FuncId->List AV->St->Option Tr}(h:kj P cs)(k:sU P ps)(l:zZ P rs)(a:jC P K):CxOK P (nV cs ps rs K):=
 ⟨b,⟨h.get,l.get⟩,k.get,a⟩
def bK:Nat->St->Option Tr:=λ_ _=>V
def bm{E:Env}:(c:Code)->(k:Nat)->co P E bK c k
 |.seq a b,k=>⟨bm a k,bm b _⟩
 |.cond _ a b,k=>⟨bm a k,bm b _⟩
 |.block _ c,k=>bm c k
 |.scope c,k=>bm c k
 |.loop _,_=>λ_ _ h=>nomatch h
 |.skip,_=>trivial
 |.ret,_=>trivial
 |.exit _,_=>trivial
 |.region _ _ _,_=>trivial
 |.label _,_=>trivial
 |.goto _,_=>trivial
 |.rangeFunc _ _ _ _,_=>trivial
 |.refuse _,_=>trivial
def loopB:Code->Nat->Option Code
 |.loop c,0=>U c
 |.seq a b,k=>if k<cD a then loopB a k else loopB b (k-cD a)
 |.cond _ a b,k=>if k<cD a then loopB a k else loopB b (k-cD a)
 |.block _ c,k=>loopB c k
 |.scope c,k=>loopB c k
 |_,_=>V
def au(f:Func)(k:Nat):Code:=(f.body.bind (loopB · k)).getD .skip
def loopB_lt:{c:Code} -> {k:Nat} -> {b:Code}->loopB c k=U b->k<cD c
 |.loop _,0,_,_=>udv
 |.loop _,_+1,_,h=>by simp[loopB]at h
 |.seq x y,k,b,h=>by simp only[loopB]at h;simp only[cD];split at h;omega;have:=loopB_lt h;omega
 |.cond _ x y,k,b,h=>by simp only[loopB]at h;simp only[cD];split at h;omega;have:=loopB_lt h;omega
 |.block _ c,k,b,h=>loopB_lt (c:=c) h
 |.scope c,k,b,h=>loopB_lt (c:=c) h
 |.skip,_,_,h=>by simp[loopB]at h
 |.region _ _ _,_,_,h=>by simp[loopB]at h
 |.ret,_,_,h=>by simp[loopB]at h
 |.exit _,_,_,h=>by simp[loopB]at h
 |.label _,_,_,h=>by simp[loopB]at h
 |.goto _,_,_,h=>by simp[loopB]at h
 |.rangeFunc _ _ _ _,_,_,h=>by simp[loopB]at h
 |.refuse _,_,_,h=>by simp[loopB]at h
def mf{E:Env}{d:Nat->St->Option Tr}:(c:Code)->(k:Nat)->(∀ i b,loopB c i=U b->km P E b (d (k+i)))->co P E d c k
 |.loop b,k,h=>h 0 b rfl
 |.seq x y,k,h=>⟨mf x k λi b a=>h i b (by simp only[loopB];rw[ufw (loopB_lt a)];exact a),mf y _ λi b a=>by
   have:=h (cD x+i) b (by simp only[loopB];rw[ufx (by omega),uax];exact a)
   rwa [<- uei]at this⟩
 |.cond _ x y,k,h=>⟨mf x k λi b a=>h i b (by simp only[loopB];rw[ufw (loopB_lt a)];exact a),mf y _ λi b a=>by
   have:=h (cD x+i) b (by simp only[loopB];rw[ufx (by omega),uax];exact a)
   rwa [<- uei]at this⟩
 |.block _ c,k,h=>mf c k h
 |.scope c,k,h=>mf c k h
 |.skip,_,_=>trivial
 |.ret,_,_=>trivial
 |.exit _,_,_=>trivial
 |.region _ _ _,_,_=>trivial
 |.label _,_,_=>trivial
 |.goto _,_,_=>trivial
 |.rangeFunc _ _ _ _,_,_=>trivial
 |.refuse _,_,_=>trivial
def nc{E:Env}{Λ:Nat->St->Option Tr}{c b:Code}(k:cD c=1)(d:loopB c 0=U b)(h:km P E b (Λ 0)):co P E Λ c 0:=by
 refine mf c 0 λi f a=>?_;have g:=loopB_lt a;have e:i=0:=by omega
 subst e;rw[d]at a;cases a;exact h
def fH{E:Env}{Λ:Nat->St->Option Tr}{fn:Func}{c b:Code}(e:fn.body=U c)(d:(fn.body.map cD)=U 1)(a:fn.body.bind (loopB · 0)=U b)(h:km P E b (Λ 0)):co P E Λ c 0:=by rw[e]at d a;exact nc (by simpa using d) (by simpa using a) h
def GA{E:Env}{Λ:Nat->St->Option Tr}{fn:Func}{c b0 b1:Code}(h:fn.body=U c)(e:(fn.body.map cD)=U 2)(b:fn.body.bind (loopB · 0)=U b0)(d:fn.body.bind (loopB · 1)=U b1)(f:km P E b0 (Λ 0))(g:km P E b1 (Λ 1)):co P E Λ c 0:=by
 rw[h]at e b d;simp at e;simp at b d;refine mf c 0 λi m a=>?_;have l:=loopB_lt a;have k:i=0\/i=1:=by omega
 rcases k with rfl|rfl
 rw[b]at a;cases a;exact f;rw[d]at a;cases a;exact g
def flat{C:Cx}(b:CxOK P C){fn:Func}{ps:List PT}{rs:List Ty}{fr:ap ps->Fr (aa rs)}(h:ap ps)(d:P.funcs[f]?= U fn)(a:∀ xs,oP P C bK fn ps rs xs=U (fr xs))(g:ap ps->aa rs)(ok:ap ps->List Prop)(e:∀ w F xs vs,dm P w F ps xs vs->az (ok xs)->(fr xs).ok/\(fr xs).get=g xs):ag P f ⟨ps,rs,g,ok⟩:=
 conv (cF b h d (λc _E _=>bm c 0) a) g ok e
def Ng(P:Program)(c:Gm)(f:FuncId)(b:Func)(L:LS)(p:Pt)(F:L.X->Fr p.Out)(_d:Nat)(g:FuncId)(a:List AV)(s:St):Option Tr:=
 if g=f/\a.length<=b.ntmps/\p.n=b.ntmps then
  match L.ext c ⟨b.ntmps,λi=>a.getD i .dead,s.mem,s.at⟩with
  |some (x,n)=>match ja P b.results.toList s.n (p.toTr (F x))with
   |some t=>U (needL n t)
   |none=>V
  |none=>V
 else V
def qzg{C:Cx}(hC:CxOK P C){u:Func}{c:Code}(hf:P.funcs[f]?= U u)(hb:u.body=U c)(hn:(u.name == "runtime.NumGoroutine")=Y){L:LS}(hL:L.low=Z){p:Pt}{F:L.X->Fr p.Out}(h:af P c L p F):
  jC P (Ng P C.Γ f u L p F):=by
 intro d g args s t M;unfold Ng at M;split at M<;>try trivial
 rename_i G;obtain⟨rfl,hlen0,hpn⟩:=G;split at M<;>try trivial
 rename_i x n hx;split at M<;>try trivial
 rename_i t1 ht1;cases M;refine⟨enters hf hb hn,λE a w F0 γ D Q hi hr hq=>uff hf hb ?_⟩;have hlen:=hr.length;have o:=qbv (n:=u.ntmps) hi hr (by omega);obtain⟨hq1,hq2⟩:=lz _ hq;have b:=lZ hC.ct hL o hx hq1;have S:=tT ht1 hq2;have hsz:(D.toArray).size=D.length:=by simp
 have hi2:I P ⟨E.w0,E.F0,gK a E,[],E.B,E.hB⟩ (L.tpl p.n x) { tmps:=D.toArray++Array.replicate (u.ntmps-D.length) undef,defers:=[] } w:=by rw[hpn];exact b
 refine wp_mono (h _ _ w x _ hi2 (p.toTr_sat S)) ?_;rintro e a' W ⟨r,l,hm⟩;have A:∀ T:St,I P ⟨E.w0,E.F0,gK a E,[],E.B,E.hB⟩ T a' W->(∃ D ns,ji P T u.results.toList=U (D,ns)/\az ns/\Q (.val (vB D)) (T.back s.n))->a'.defers=[]/\∃ v,(results u a'.tmps).run P W=.ok v W/\Jf P E a Q (.returned v) W:=by rintro T ⟨N,k,b⟩ ⟨D,ns,R,hns,hqv⟩;obtain⟨us,O,K⟩:=qo b R hns;exact⟨b.df,_,sf O,_,_,N,k,hqv,Gy hi b,_,rfl,ZT K⟩
 cases r with
 |next m=>obtain⟨rfl,i⟩:=hm;exact A _ i l
 |out y=>exact l.elim
 |back z=>obtain⟨rfl,i⟩:=hm;exact A _ i l
 |pan v=>
  obtain⟨rfl,T,hn',i⟩:=hm;have H:I P ⟨E.w0,E.F0,gK a E,[],E.B,E.hB⟩ ⟨p.n,λ_=>.dead,λ_=>V,λ_=>.dead⟩ a' W:=by have:=lZ hC.ct (L:=⟨[],[]⟩) rfl i rfl trivial;rw[hn']at this;obtain⟨N,k,h⟩:=this;exact⟨N,k,h.n,h.df,h.step,h.mem,λt=>uT,λt g want v M=>(nomatch M),λt=>uT⟩
  obtain⟨N,k,h4⟩:=H;exact⟨h4.df,.panic v,_,N,k,l,Gy hi h4,rfl⟩
def kR(K b:Nat->FuncId->List AV->St->Option Tr)(d:Nat)(f:FuncId)(a:List AV)(s:St):Option Tr:=
 match K d f a s with
 |some t=>U t
 |none=>b d f a s
def mj{K c:Nat->FuncId->List AV->St->Option Tr}(h:jC P K)(e:jC P c):jC P (kR K c):=by intro d f a s t b;unfold kR at b;split at b;rename_i i g;cases b;exact h d f a s _ g;exact e d f a s t b
def zbf{E:Env}{g:Nat->St->Option Tr}{f:Func}{c h k l:Code}(r:f.body=U c)(m:(f.body.map cD)=U 3)(b:f.body.bind (loopB · 0)=U h)(d:f.body.bind (loopB · 1)=U k)(e:f.body.bind (loopB · 2)=U l)(n:km P E h (g 0))(o:km P E k (g 1))(p:km P E l (g 2)):co P E g c 0:=by
 rw[r]at m b d e;simp at m;simp at b d e;refine mf c 0 λi u a=>?_;have t:=loopB_lt a;have s:i=0\/i=1\/i=2:=by omega
 rcases s with rfl|rfl|rfl
 rw[b]at a;cases a;exact n;rw[d]at a;cases a;exact o;rw[e]at a;cases a;exact p
def ep{C:Cx}(a:CxOK P C){c:Code}{L:LS}{p:Pt}{f:L.X->Fr p.Out}(g:∀ x,qr P C 0 bK c L p x=U (f x):=by intro x;kernel_rfl)(d:p.M.low=true:=by rfl)(b:p.E.low=true:=by rfl)(e:p.R.low=true:=by rfl):af P c L p f:=
 af.of_run a d b e (λ_=>bm _ 0) g
abbrev bg(ps:List PT)(rs:List Ty)(fr:ap ps->Fr (aa rs)):Ct:=⟨ps,rs,λa=>(fr a).get,λa=>[(fr a).ok]⟩
def aT{C:Cx}(b:CxOK P C)(a:Func){ps:List PT}{rs:List Ty}{fr:ap ps->Fr (aa rs)}(d:P.funcs[f]?= U a:=by kernel_rfl)(h:∀ xs,oP P C bK a ps rs xs=U (fr xs):=by intro x;kernel_rfl):ag P f (bg ps rs fr):=
 cF b (aY ps) d (λc _ _=>bm c 0) h
section
variable {P:Program} {C:Cx} {fn:Func} {L1 L2 L3:LS} {p1 p2 p3:Pt} {F1:L1.X->Fr p1.Out} {F2:L2.X->Fr p2.Out} {F3:L3.X->Fr p3.Out} {f:FuncId} {ps:List PT} {rs:List Ty} {fr:ap ps->Fr (aa rs)}
def cZ(a:CxOK P C)(b:af P (.loop (au fn 0)) L1 p1 F1)(g:P.funcs[f]?= U fn:=by kernel_rfl)(i:fn.body.map cD=U 1:=by kernel_rfl)(d:fn.body.bind (loopB · 0)=U (au fn 0):=by kernel_rfl)(c:L1.low=true:=by rfl)(h:∀ xs,oP P C (λ_=>p1.han C.Γ L1 F1) fn ps rs xs=U (fr xs):=by intro x;kernel_rfl):ag P f (bg ps rs fr):=
 cF a (aY ps) g (λ_ _ e=>fH e i d (af.han a c b)) h
def oc(a:CxOK P C)(d:af P (.loop (au fn 0)) L1 p1 F1)(e:af P (.loop (au fn 1)) L2 p2 F2)(m:P.funcs[f]?= U fn:=by kernel_rfl)(n:fn.body.map cD=U 2:=by kernel_rfl)(i:fn.body.bind (loopB · 0)=U (au fn 0):=by kernel_rfl)(c:fn.body.bind (loopB · 1)=U (au fn 1):=by kernel_rfl)(g:L1.low=true:=by rfl)(b:L2.low=true:=by rfl)(h:∀ xs,oP P C (λk=>if k=0 then p1.han C.Γ L1 F1 else p2.han C.Γ L2 F2) fn ps rs xs=U (fr xs):=by intro x;kernel_rfl):ag P f (bg ps rs fr):=
 cF a (aY ps) m (λ_ _ l=>GA l n i c (af.han a g d) (af.han a b e)) h
def Vi(a:CxOK P C)(g:af P (.loop (au fn 0)) L1 p1 F1)(i:af P (.loop (au fn 1)) L2 p2 F2)(l:af P (.loop (au fn 2)) L3 p3 F3)(p:P.funcs[f]?= U fn:=by kernel_rfl)(r:fn.body.map cD=U 3:=by kernel_rfl)(n:fn.body.bind (loopB · 0)=U (au fn 0):=by kernel_rfl)(d:fn.body.bind (loopB · 1)=U (au fn 1):=by kernel_rfl)(e:fn.body.bind (loopB · 2)=U (au fn 2):=by kernel_rfl)(m:L1.low=true:=by rfl)(b:L2.low=true:=by rfl)(c:L3.low=true:=by rfl)(h:∀ xs,oP P C (λk=>if k=0 then p1.han C.Γ L1 F1 else if k=1 then p2.han C.Γ L2 F2 else p3.han C.Γ L3 F3) fn ps rs xs=U (fr xs):=by intro x;kernel_rfl):ag P f (bg ps rs fr):=
 cF a (aY ps) p (λ_ _ o=>zbf o r n d e (af.han a m g) (af.han a b i) (af.han a c l)) h
end
structure TolOK (P:Program) (g:FuncId) (T:TypeId) (k:IntKind):Prop where
 enter:∀ args w,(callFunc g args).run P w=.ok (.enter g args) w
 idle:∀ (p:Addr) (w:World),CallsD P g #[.pointer (some p)] .returning w λe u' w'=>(∃ v,e=.returned v)/\u'=.returning/\w'=w
 told:∀ (b:Nat) (ty:TypeId) (old:Value) (n:Int) (w:World),w.heap[b]?= some (.cells #[old] ty (0,0)) ->
  CallsD P g #[.pointer (some ⟨b,0,none⟩)] (.panicking [{ v:=.iface T (.int k n),recovered:=false }]) w λe u' w'=>
   (∃ v,e=.returned v)/\u'=.panicking [{ v:=.iface T (.int k n),recovered:=true }]/\w'=w.setRow b #[.int k n]
def Iu(T:TypeId)(k:IntKind)(p:PV)(s:St):Option St:=
 match s.gs 0 with
 |.c (.ptr id 0)=>match s.mem id with
  |some (.box e [_])=>if p.ty=T/\p.k=k/\T<1000000 then U ⟨s.n,s.sl,upd s.mem id (.box e [.int k p.n]),s.gs⟩else V
  |_=>V
 |_=>V
def jQ(P:Program)(T:TypeId)(k:IntKind)(c:List ResultVar)(a:List Ty):Tr->Option (Fr (aa a))
 |.leaf .ret s=>eh P c a s
 |.leaf .normal s=>eh P c a s
 |.leaf (.panic p) s=>match Iu T k p s with
  |some g=>match eh P c a g with
   |some f=>U (.need (inR k p.n) f)
   |none=>V
  |none=>V
 |.leaf _ _=>V
 |.br b x y=>match jQ P T k c a x,jQ P T k c a y with
  |some d,U e=>U (.br b d e)
  |_,_=>V
 |.need p x=>match jQ P T k c a x with
  |some d=>U (.need p d)
  |none=>V
 |.two p x y=>match jQ P T k c a x,jQ P T k c a y with
  |some d,U e=>U (.need (p->d.ok/\d.get=e.get) e)
  |_,_=>V
def Pa(P:Program)(C:Cx)(l:Nat->St->Option Tr)(g:FuncId)(T:TypeId)(k:IntKind)(b:Func)(h:List PT)(i:List Ty)(o:ap h):Option (Fr (aa i)):=
 match b.body with
 |some (.seq A (.seq (.region _ e Y) c))=>if (b.name == "runtime.NumGoroutine")=Y/\h.length<=b.ntmps then
   match e.toList with
   |[⟨V,.defer ⟨.value (.func f),a,_⟩,_,_,_,V⟩]=>match a.toList with
    |[.tmp m]=>if f=g then
      match cQ P C 0 l A 0 (vL b.ntmps (gk h o))with
      |some (.leaf .normal d)=>match d.sl m with
       |.c (.ptr id 0)=>match cQ P C 0 l c (cD A) ⟨d.n,d.sl,d.mem,λt=>if t=0 then .c (.ptr id 0)else .dead⟩with
        |some t=>jQ P T k b.results.toList i t
        |none=>V
       |_=>V
      |_=>V
     else V
    |_=>V
   |_=>V
  else V
 |_=>V
section
variable {P:Program} {w w':World} {E:Env} {F F':Nat->Prop} {γ γ':Nat->Value}
def xr{c:List ResultVar}{b:List Ty}{s:St}{f:Fr (aa b)}(h:eh P c b s=U f)(a:f.ok):∃ n,eh P c b s=U (Fr.needL n (.val f.get))/\az n:=by
 have d:=h;unfold eh at h;split at h<;>try trivial
 split at h<;>try trivial
 split at h<;>try trivial
 cases h;refine⟨_,?_,(yu _ a).1⟩;rw[yq];exact d
def uc{T:TypeId}{l:List ResultVar}{g:List Ty}:{t:Tr} -> {f:Fr (aa g)}->jQ P T k l g t=U f->f.ok->t.sat λe s=>match e with
  |.ret=>∃ n,eh P l g s=U (Fr.needL n (.val f.get))/\az n
  |.normal=>∃ n,eh P l g s=U (Fr.needL n (.val f.get))/\az n
  |.panic p=>∃ m n,Iu T k p s=U m/\inR k p.n/\eh P l g m=U (Fr.needL n (.val f.get))/\az n
  |_=>False
 |.leaf e s,f,h,a=>by
  cases e with
  |exit i=>simp[jQ]at h
  |val i=>simp[jQ]at h
  |jump i=>simp[jQ]at h
  |normal=>exact xr h a
  |ret=>exact xr h a
  |panic p=>
   simp only[jQ]at h;split at h<;>try trivial
   rename_i m u;split at h<;>try trivial
   rename_i C r;cases h;obtain⟨n,A,o⟩:=xr r a.2;exact⟨m,n,u,a.1,A,o⟩
 |.br b x y,f,h,a=>by
  simp only[jQ]at h;split at h<;>try trivial
  rename_i z B d v;cases h;refine⟨λc=>?_,λc=>?_⟩;have:=uc d (a.1 c);simpa only[Fr.get,c,if_true]using this;have:=uc v (a.2 c);simpa only[Fr.get,c,ub3,uft]using this
 |.need p x,f,h,a=>by
  simp only[jQ]at h;split at h<;>try trivial
  rename_i z d;cases h;have:=uc d a.2;exact⟨a.1,this⟩
 |.two p x y,f,h,a=>by
  simp only[jQ]at h;split at h<;>try trivial
  rename_i z B d v;cases h;have o:=uc v a.2;refine⟨λw=>?_,o⟩;have:=uc d (a.1 w).1
  rwa [(a.1 w).2]at this
def xu{t:Func}{r:List Ty}{s:St}{a:Act}{y:aa r}{n:List Prop}(i:InvG P E s a w [] F γ)(l:E.B=E.w0.heap.size)(h:eh P t.results.toList r s=U (Fr.needL n (.val y)))(H:az n):
  ∃ v,(results t a.tmps).run P w=.ok v w/\iB E.w0 E.F0 r y (.returned v) w:=by
 unfold eh at h;split at h<;>try trivial
 rename_i C M g;split at h<;>try trivial
 rename_i D u o;split at h<;>try trivial
 rename_i O e;injection h with h
 obtain⟨m,K⟩:=yr h H;subst K;obtain⟨N,f,d⟩:=qo i g m;obtain⟨k,A,G,_,p⟩:=ke i.mem (eE i) (dM.of λ_ _ h=>h) o d;obtain⟨L,x⟩:=i.step;rw[l]at A x;have c:=x.trans A;exact⟨_,sf f,_,k,rfl,⟨c.os,c.tape,c.output,c.size,c.old⟩,c.hF,λb z=>⟨c.new b z,c.bd b z⟩,zk (nY e p)⟩
def Ok(h:arr.size=1):∃ v,arr = #[v]:=by
 refine⟨arr[0]'(by omega),?_⟩;apply ufp;simp[h];intro i a b;have:i=0:=by omega
 subst this;rfl
def qc1{T:TypeId}{p:PV}{s v:St}{a:Act}(c:InvG P E s a w [] F γ)(h:Iu T k p s=U v)(H:inR k p.n):
  p.ty=T/\p.k=k/\T<1000000/\∃ b ty d,E.G 0=.pointer (U ⟨b,0,V⟩)/\w.heap[b]?= U (.cells #[d] ty (0,0))/\InvG P E v a (w.setRow b #[.int k p.n]) [] F γ:=by
 unfold Iu at h;split at h<;>try trivial
 rename_i id g;split at h<;>try trivial
 rename_i e L r;split at h<;>try trivial
 rename_i l;cases h;have u:=c.gh 0;rw[g]at u;obtain⟨b,x,y,z,o,A,B,C,M⟩:=nM c.mem r u.2;obtain⟨d,rfl⟩:=Ok (by simpa using C);have i:dg #[d] 0 [.int k p.n] = #[.int k p.n]:=by simp[dg]
 obtain⟨f,K⟩:=so (off:=0) (cs':=[.int k p.n]) (vs:=[.int k p.n]) c.mem (eE c) r y o A B (by simp) rfl ⟨⟨.int k p.n,by rw[i];rfl,rfl,rfl,H⟩,uT⟩;refine⟨l.1,l.2.1,l.2.2,b,e,d,z,o,⟨c.n,c.df,?_,K,λt=>(c.sl t).mono f.hF f.hw f.hR,c.hg,λt=>f.repA (c.gh t)⟩⟩;obtain⟨m,D⟩:=c.step;exact⟨m,D.trans f⟩
def qqf{C:Cx}(hC:CxOK P C){Λ:Nat->St->Option Tr}{g:FuncId}{T:TypeId}{fn:Func}{ps:List PT}{rs:List Ty}{fr:ap ps->Fr (aa rs)}(x0:ap ps)(hf:P.funcs[f]?= some fn)(hT:TolOK P g T k)(hΛ:∀ c E,fn.body=some c->co P E Λ c 0)(hrun:∀ xs,Pa P C Λ g T k fn ps rs xs=some (fr xs)):ag P f ⟨ps,rs,λxs=>(fr xs).get,λxs=>[(fr xs).ok]⟩:=by
 have h0:=hrun x0;unfold Pa at h0;split at h0<;>try trivial
 rename_i A rid ops c hb;split at h0<;>try trivial
 rename_i hc;refine⟨enters hf hb hc.1,λw F xs vs hbd hr hok=>uce hf hb ?_⟩;have hr':=hrun xs;unfold Pa at hr';simp only[hb,hc,ufs,if_true]at hr';split at hr'<;>try trivial
 rename_i f0 args ats ty pos aft hops;split at hr'<;>try trivial
 rename_i tp hargs;split at hr'<;>try trivial
 rename_i hfg;subst hfg;split at hr'<;>try trivial
 rename_i s1 ht1;split at hr'<;>try trivial
 rename_i id hsl;split at hr'<;>try trivial
 rename_i t ht2;have hlam:=λE=>hΛ _ E hb;have hlen:vs.length=ps.length:=v9 hr;have hstart:=z9 (D:=[]) (n:=fn.ntmps) hbd (λR=>pK hr) (by omega);have hsz:(vs.toArray).size=vs.length:=by simp
 refine wp_seq (wp_mono (iG hC A 0 (hlam _).1 ht1 (Q:=λe s=>e=.normal/\s=s1) ⟨rfl,rfl⟩ hstart) ?_);rintro e a1 w1 ⟨xe,s,rfl,⟨F1,γ1,hi⟩,rfl,rfl⟩;obtain⟨ol⟩:=ops;subst hops;have hv0:=ux hi tp;rw[hsl]at hv0;obtain⟨_,b0,hR0,hv0⟩:=hv0;refine wp_seq (wp_region ?_);have hargs':args = #[.tmp tp]:=by
  obtain⟨l⟩:=args;simp only at hargs;rw[hargs]
 subst hargs';have hev:a1.eval (.tmp tp)=.pointer (some ⟨b0,0,none⟩):=hv0;have hexec:(execOp a1.eval ⟨none,.defer ⟨.value (.func f0),#[.tmp tp],ats⟩,ty,pos,aft,none⟩).run P w1=.ok (.defer { target:=.fn (.func f0) #[],args:=#[.pointer (some ⟨b0,0,none⟩)] }) w1:=by
  have hef:a1.eval (.func f0)=.func (.func f0) #[] #[]:=rfl;simp[execOp,resolve,hev,hef,Deferred.ofValue]
 have hrange:List.range (#[(⟨none,.defer ⟨.value (.func f0),#[.tmp tp],ats⟩,ty,pos,aft,none⟩:Oper)]:Array Oper).size=[0]:=rfl;unfold wpOps;simp;have hw:Region.wanted (⟨none,.defer ⟨.value (.func f0),#[.tmp tp],ats⟩,ty,pos,aft,none⟩:Oper) (yielded #[(⟨none,.defer ⟨.value (.func f0),#[.tmp tp],ats⟩,ty,pos,aft,none⟩:Oper)] a1.tmps)=true:=rfl;refine .inl ?_;unfold Oper.wp;rw[hexec];have hi':InvG P ⟨w,F,λ_=>.pointer (some ⟨b0,0,none⟩),[{ target:=.fn (.func f0) #[],args:=#[.pointer (some ⟨b0,0,none⟩)] }],w.heap.size,ufb _⟩ ⟨s.n,s.sl,s.mem,λt=>if t=0 then .c (.ptr id 0)else .dead⟩ { a1 with defers:={ target:=.fn (.func f0) #[],args:=#[.pointer (some ⟨b0,0,none⟩)] }::a1.defers } w1 [] F1 γ1:=by
  refine⟨hi.n,?_,hi.step,hi.mem,hi.sl,hi.hg,λt=>?_⟩
  ·show _::a1.defers=[_];rw[hi.df]
  ·show aK P w1 F1 _ (if t=0 then .c (.ptr id 0)else .dead) _;split
   ·exact⟨rfl,b0,hR0,rfl⟩
   ·trivial
 have hwp:=iG hC c (cD A) (by have:=(hlam ⟨w,F,λ_=>.pointer (some ⟨b0,0,none⟩),[{ target:=.fn (.func f0) #[],args:=#[.pointer (some ⟨b0,0,none⟩)] }],w.heap.size,ufb _⟩).2.2;simpa[cD]using this) ht2 (uc hr' hok) ⟨F1,γ1,hi'⟩;refine wp_mono hwp ?_;rintro e a2 w2 ⟨xe,s2,rfl,⟨F2,γ2,hi2⟩,hx⟩;have hinv:∀ W,(invoke (.fn (.func f0) #[]) #[.pointer (some ⟨b0,0,none⟩)]).run P W=.ok (.enter f0 #[.pointer (some ⟨b0,0,none⟩)]) W:=λW=>by
  have:=hT.enter #[.pointer (some ⟨b0,0,none⟩)] W;simp[invoke,this]
 have hfin:(∃ n,eh P fn.results.toList rs s2=some (Fr.needL n (.val (fr xs).get))/\az n)->Leaves P fn a2.tmps (iB w F rs (fr xs).get) a2.defers .returning w2:=by
  rintro⟨n,hend,hn⟩;rw[hi2.df];refine ufg (by simp) (hinv w2) ((hT.idle _ w2).mono ?_);rintro e u' w' ⟨⟨v,rfl⟩,rfl,rfl⟩;exact xu hi2 rfl hend hn
 cases xe with
 |normal=>exact hfin hx
 |ret=>exact hfin hx
 |exit _=>exact hx.elim
 |val _=>exact hx.elim
 |jump _=>exact hx.elim
 |panic p=>
  obtain⟨s',n,hs',hin,hend,hn⟩:=hx;obtain⟨hty,hk,hlow,b,tyb,old,hG,hheap,hi3⟩:=qc1 hi2 hs' hin;have hG':=hG;simp at hG';subst hG';show Leaves P fn a2.tmps _ a2.defers (.panicking [{ v:=p.val,recovered:=false }]) w2;rw[qd9 (by rw[hty];exact hlow),hi2.df,hty,hk];refine ufg (by simp) (hinv w2) ((hT.told b0 tyb old p.n w2 hheap).mono ?_);rintro e u' w' ⟨⟨v,rfl⟩,rfl,rfl⟩;exact xu hi3 rfl hend hn
end
section
open Go.WideShapes Go.ChangeShapes
def ib(r:TypeId->Ty->Bool):List Field->Ty->Nat->Bool
 |[],.unit,_=>Z
 |f::d,.pair a b,c=>(f.offset==c)&&(r f.type a&&ib r d b (c+a.size))
 |_,_,_=>Y
def ia(r:Ty->Bool):Nat->Ty->Bool
 |0,.unit=>Z
 |k+1,.pair a b=>r a&&ia r k b
 |_,_=>Y
def iM(P:Program):Nat->TypeId->Ty->Bool
 |0,_,_=>Y
 |n+1,t,a=>(P.cellsOf t==a.size)&&match P.underlying t,a with
  |some .bool,.bool=>Z
  |some (.int k),.int d=>J (k=d)
  |some .string,.str=>Z
  |some (.slice e),.sl b=>J (0<b.size)&&iM P n e b
  |some (.struct c),a=>a.wide&&ib (iM P n) c.toList a 0
  |some (.array k e),a=>a.wide&&ia (iM P n e) k a
  |_,_=>Y
section
variable {H:Type} {enc:TypeId×Value->H} {P:Program} {w:World} {sp:Nat->Bool} {held:Bool}
def qkn(a:Addr)(k j:Nat):(a.add k).add j=a.add (k+j):=by
 unfold Addr.add;by_cases c:k=0;subst c;simp;by_cases b:j=0;subst b;simp;have:¬ k+j=0:=by omega
 simp[c,b,uei]
def XA{Q:Nat->α->Prop}:(n:Nat)->(∀ i,i<n->∃ y,Q i y)->∃ l:List α,l.length=n/\∀ (i:Nat) (y:α),l[i]?= U y->Q i y
 |0,_=>⟨[],rfl,λi y h=>by simp at h⟩
 |n+1,h=>by
  obtain⟨l,d,e⟩:=XA n (λi b=>h i (by omega));obtain⟨y,f⟩:=h n (by omega);refine⟨l++[y],by simp[d],λi z a=>?_⟩;rcases ueq i l.length with b|b
  rw[uaj b]at a;exact e i z a;rw[uae b]at a;have:i-l.length=0:=by
   rcases ub5 (i-l.length)with c|c
   exact c;rw[ua4 (by simp;omega)]at a;cases a
  rw[this]at a;simp at a;subst a;have:i=n:=by omega
  subst this;exact f
def qnv{a:Addr}{b:List Value}(h:w.cells? 0 a n=U b):b.length=n/\∀ j,j<n->w.cell? (a.add j)=b[j]? := by unfold World.cells? at h;refine⟨by simpa using mapM_some_length h,λj c=>?_⟩;exact mapM_some_get h j j (by simp[c])
def qnu{a:Addr}(h:w.cell? a=U v):a.block<w.heap.size:=by unfold World.cell? at h;split at h;rename_i b;exact(uaf.1 b).1;cases h
def zrw{n:Int}(h:(Lit.int k n).wf=Z):inR k n:=by simpa[Lit.wf,inR]using h
abbrev qe(w:World):Nat->Prop:=λb=>b<w.heap.size
def Y1{c:Nat}(p:∀ (t:TypeId) (i:Ty) (c:Nat) (e:List Value) (x:DataW H×List MemPlace),iM P n t i=Z->DataW.trod enc P w 0 sp held c t e=U x->e.length=i.size/\∃ y,aG w (qe w) i y (λj u=>e[j]?= U u)){e:List Value}:(l:List Field)->(i:Ty)->(off:Nat)->ib (iM P n) l i off=Z->(∀ f∈l,∃ x,DataW.trod enc P w 0 sp held c f.type ((e.drop f.offset).take (P.cellsOf f.type))=U x)->∃ y,aG w (qe w) i y (λj u=>e[off+j]?= U u)
 |[],.unit,_,_,_=>⟨(),uT⟩
 |f::r,.pair a b,off,h,o=>by simp only[ib,udc,ufj]at h;obtain⟨s,v,z⟩:=h;obtain⟨x,k⟩:=o f (by simp);obtain⟨E,y,C⟩:=p _ _ _ _ _ v k;obtain⟨D,m⟩:=Y1 p r b (off+a.size) z (λg A=>o g (by simp[A]));refine⟨(y,D),aG.mono (λ_ h=>h) (λ_ _=>rfl) (λj u B d=>?_) C,aG.mono (λ_ h=>h) (λ_ _=>rfl) (λj u B d=>?_) m⟩;rw[ub2]at d;split at d;rw[ub1,s]at d;exact d;cases d;rw[uei]at d;exact d
 |[],.int _,_,h,_=>by simp[ib]at h
 |[],.bool,_,h,_=>by simp[ib]at h
 |[],.str,_,h,_=>by simp[ib]at h
 |[],.sl _,_,h,_=>by simp[ib]at h
 |[],.pair _ _,_,h,_=>by simp[ib]at h
 |[],.fm _,_,h,_=>by simp[ib]at h
 |_::_,.fm _,_,h,_=>by simp[ib]at h
 |[],.ic _ _,_,h,_=>by simp[ib]at h
 |_::_,.ic _ _,_,h,_=>by simp[ib]at h
 |[],.fc _,_,h,_=>by simp[ib]at h
 |_::_,.fc _,_,h,_=>by simp[ib]at h
 |_::_,.int _,_,h,_=>by simp[ib]at h
 |_::_,.bool,_,h,_=>by simp[ib]at h
 |_::_,.str,_,h,_=>by simp[ib]at h
 |_::_,.sl _,_,h,_=>by simp[ib]at h
 |_::_,.unit,_,h,_=>by simp[ib]at h
def Y0{c:Nat}(s:∀ (t:TypeId) (g:Ty) (c:Nat) (f:List Value) (x:DataW H×List MemPlace),iM P n t g=Z->DataW.trod enc P w 0 sp held c t f=U x->f.length=g.size/\∃ y,aG w (qe w) g y (λj u=>f[j]?= U u)){f:List Value}:(k:Nat)->(g:Ty)->(i0:Nat)->ia (iM P n e) k g=Z->(∀ i,i<k->∃ x,DataW.trod enc P w 0 sp held c e ((f.drop ((i0+i)*P.cellsOf e)).take (P.cellsOf e))=U x)->∃ y,aG w (qe w) g y (λj u=>f[i0*P.cellsOf e+j]?= U u)
 |0,.unit,_,_,_=>⟨(),uT⟩
 |k+1,.pair a b,i0,h,r=>by
  simp only[ia,udc]at h;obtain⟨m,v⟩:=h;obtain⟨x,o⟩:=r 0 (by omega);obtain⟨D,y,A⟩:=s _ _ _ _ _ m o;have l:P.cellsOf e=a.size:=by
   cases n with
   |zero=>simp[iM]at m
   |succ n=>simp only[iM,udc,ufj]at m;exact m.1
  obtain⟨B,p⟩:=Y0 s k b (i0+1) v (λi C=>by
   have:=r (i+1) (by omega)
   rwa [show i0+1+i=i0+(i+1) by omega])
  refine⟨(y,B),aG.mono (λ_ h=>h) (λ_ _=>rfl) (λj u z d=>?_) A,aG.mono (λ_ h=>h) (λ_ _=>rfl) (λj u z d=>?_) p⟩;rw[ub2]at d;split at d;rw[ub1]at d;simpa using d;cases d;rw[ufd,Nat.one_mul,l,uei]at d;rw[l];exact d
 |0,.int _,_,h,_=>by simp[ia]at h
 |0,.bool,_,h,_=>by simp[ia]at h
 |0,.str,_,h,_=>by simp[ia]at h
 |0,.sl _,_,h,_=>by simp[ia]at h
 |0,.pair _ _,_,h,_=>by simp[ia]at h
 |0,.fm _,_,h,_=>by simp[ia]at h
 |_+1,.fm _,_,h,_=>by simp[ia]at h
 |0,.ic _ _,_,h,_=>by simp[ia]at h
 |_+1,.ic _ _,_,h,_=>by simp[ia]at h
 |0,.fc _,_,h,_=>by simp[ia]at h
 |_+1,.fc _,_,h,_=>by simp[ia]at h
 |_+1,.int _,_,h,_=>by simp[ia]at h
 |_+1,.bool,_,h,_=>by simp[ia]at h
 |_+1,.str,_,h,_=>by simp[ia]at h
 |_+1,.sl _,_,h,_=>by simp[ia]at h
 |_+1,.unit,_,h,_=>by simp[ia]at h
def zqx{k a:Nat}{b:List Value}{x:DataW H×List MemPlace}(o:P.underlying t=U (.array k e))(h:DataW.trod enc P w 0 sp held a t b=U x):
  ∃ n,∀ i,i<k->∃ y,DataW.trod enc P w 0 sp held n e ((b.drop (i*P.cellsOf e)).take (P.cellsOf e))=U y:=by
 cases a with
 |zero=>simp[DataW.trod]at h
 |succ n=>
  unfold DataW.trod at h;split at h<;>simp_all
  obtain⟨m,p,d,l⟩:=h;refine⟨n,λi g=>?_⟩;have c:=mapM_some_get d i i (by simp[g]);have f:=mapM_some_length d;rw[uaq (by simp at f;omega)]at c;exact⟨_,_,c⟩
def Iv:(n:Nat)->(t:TypeId)->(ty:Ty)->(c:Nat)->(cs:List Value)->(x:DataW H×List MemPlace)->iM P n t ty=Z->DataW.trod enc P w 0 sp held c t cs=U x->cs.length=ty.size/\∃ y,aG w (qe w) ty y (λj u=>cs[j]?= U u)
 |0,t,ty,c,cs,x,h,_=>by simp[iM]at h
 |n+1,t,ty,c,cs,x,h,p=>by
  simp only[iM,udc,ufj]at h;obtain⟨hsz,h⟩:=h;split at h;rename_i g;obtain⟨b,rfl,_⟩:=DataW.trod_bool g p;exact⟨rfl,b,rfl⟩;rename_i k k' g;have hk:k=k':=by simpa using h
  subst hk;obtain⟨m,rfl,_,hw⟩:=DataW.trod_int g p;exact⟨rfl,m,rfl,zrw hw⟩;rename_i g;obtain⟨s,rfl,_,hs⟩:=DataW.trod_string g p;exact⟨rfl,s,rfl,hs⟩;rename_i e r g;simp at h;obtain⟨F,o⟩:=h;have Q:P.cellsOf e=r.size:=by
   cases n with
   |zero=>simp[iM]at o
   |succ n=>simp only[iM,udc,ufj]at o;exact o.1
  rcases DataW.trod_slice g p with ⟨rfl,_⟩|⟨a,G,L,M,rest,m,rfl,rfl,_,_,h1,h2,hel,d,_⟩
  exact⟨rfl,[],V,0,rfl,ufb _,by simp,λi y z=>by simp at z⟩;have A:∀ i,i<G->∃ y,aG w (qe w) r y (λj u=>w.cell? (a.add (i*r.size+j))=U u)/\a.block<w.heap.size:=λi C=>by
   have v:=d i C;rw[uaq (by omega)]at v;rw[Option.bind_eq_some_iff]at v;obtain⟨T,B,R⟩:=v;rw[Q]at B;obtain⟨K,y,z⟩:=Iv n e r m T _ o R;obtain⟨hcl,N⟩:=qnv B;have hc:∀ j,j<r.size->w.cell? (a.add (i*r.size+j))=T[j]? := λj O=>by rw[<- qkn];exact N j O
   refine⟨y,aG.mono (λ_ h=>h) (λ_ _=>rfl) (λj u O hu=>(hc j O).trans hu) z,?_⟩;have h0:=hc 0 F;rw[uaq (by omega)]at h0;have E:=qnu h0;have:(a.add (i*r.size+0)).block=a.block:=by unfold Addr.add;split<;>rfl
   rwa [this]at E
  obtain⟨l,K,hq⟩:=XA G A;subst K;exact⟨rfl,l,U a,L,rfl,h1,h2,λi y z=>⟨a,rfl,(hq i y z).2,(hq i y z).1⟩⟩;rename_i S W g;simp at h;obtain⟨xs,m,rfl,rfl,K,hxl,d⟩:=DataW.trod_struct g p;refine⟨by omega,?_⟩;have:=Y1 (λt ty c cs x=>Iv n t ty c cs x) W.toList _ 0 h.2 (λf hf=>by
   obtain⟨i,C⟩:=ua9.1 hf;have D:W[i]?= U f:=by simpa using C
   have E:=(uaf.1 D).1;have v:=d i f D;rw[uaq (by omega)]at v;exact⟨_,v⟩)
  simpa using this;rename_i S k e g;simp at h;obtain⟨m,hm⟩:=zqx g p;have K:cs.length=P.cellsOf t:=by
   cases c with
   |zero=>simp[DataW.trod]at p
   |succ m=>unfold DataW.trod at p;split at p<;>simp_all
  refine⟨by omega,?_⟩;have:=Y0 (λt ty c cs x=>Iv n t ty c cs x) k _ 0 h.2 (λi C=>by simpa using hm i C);simpa using this;cases h
def zkh{m:Ty}{d:DataW H}{B:List MemPlace}{r:Reach}{i:Nat}(h:iM P n t m=Z)(a:Value.okWide P w r i t v)(p:DataW.Trod enc P w 0 sp held t v d B):∃ y,bJ w (qe w) m y v:=by
 obtain⟨l,s⟩:=p;obtain⟨x,y,A⟩:=Iv n t m l _ _ h s;refine⟨y,by simpa using x,?_,aG.mono (λ_ h=>h) (λ_ _=>rfl) (λj u D z=>by simpa using z) A⟩;cases n with
 |zero=>simp[iM]at h
 |succ n=>simp only[iM,udc]at h;replace h:=h.2;unfold Value.okWide at a;split at h;rename_i c;simp only[Cell.okWide,c,Cell.ok]at a;refine⟨λg=>(by cases g),λ⟨f,b⟩=>?_⟩;subst b;exact a.elim;rename_i k E c;simp only[Cell.okWide,c,Cell.ok]at a;refine⟨λg=>(by cases g),λ⟨f,b⟩=>?_⟩;subst b;exact a.elim;rename_i c;simp only[Cell.okWide,c,Cell.ok]at a;refine⟨λg=>(by cases g),λ⟨f,b⟩=>?_⟩;subst b;exact a.elim;rename_i e F c;simp only[Cell.okWide,c,Cell.ok]at a;refine⟨λg=>(by cases g),λ⟨f,b⟩=>?_⟩;subst b;exact a.elim;rename_i o C c;rw[c]at a;simp at h;obtain⟨f,b,_⟩:=a;exact⟨λ_=>⟨f,b⟩,λ_=>h.1⟩;rename_i o k e c;rw[c]at a;simp at h;obtain⟨f,b,_⟩:=a;exact⟨λ_=>⟨f,b⟩,λ_=>h.1⟩;cases h
def nh(P:Program):List TypeId->List PT->Bool
 |[],[]=>Z
 |t::b,.d c::a=>iM P 12 t c&&nh P b a
 |_,_=>Y
def ZH{r:Reach}{c:Nat}:{ts:List TypeId} -> {ps:List PT} -> {vs:List Value} -> {f:List (DataW H)} -> {n:List MemPlace}->nh P ts ps=Z->DataW.TrodAll enc P w 0 sp held ts vs f n ->
  (∀ (j:Nat) t v,ts[j]?= U t->vs[j]?= U v->Value.okWide P w r c t v)->∃ xs,dm P w (qe w) ps xs vs
 |[],[],[],[],_,_,_,_=>⟨(),rfl⟩
 |t::ts,.d ty::ps,v::vs,d::f,_,h,l,g=>by simp only[nh,udc]at h;obtain⟨p,q,i,k,_⟩:=l;obtain⟨y,m⟩:=zkh h.1 (g 0 t v rfl rfl) i;obtain⟨o,e⟩:=ZH h.2 k (λj t v a b=>g (j+1) t v a b);exact⟨(y,o),v,vs,rfl,m,e⟩
 |[],_::_,_,_,_,h,_,_=>by simp[nh]at h
 |_::_,[],_,_,_,h,_,_=>by simp[nh]at h
 |_::_,.ptr _::_,_,_,_,h,_,_=>by simp[nh]at h
 |_::_,.fn _ _::_,_,_,_,h,_,_=>by simp[nh]at h
 |_::_,.pf _ _::_,_,_,_,h,_,_=>by simp[nh]at h
 |_::_,.pfn _ _::_,_,_,_,h,_,_=>by simp[nh]at h
 |_::_,.pk _::_,_,_,_,h,_,_=>by simp[nh]at h
 |[],[],_::_,_,_,_,h,_=>h.elim
 |[],[],[],_::_,_,_,h,_=>h.elim
 |_::_,.d _::_,[],_,_,_,h,_=>h.elim
 |_::_,.d _::_,_::_,[],_,_,h,_=>h.elim
def ZG(m:laidOutB P=Z){e:Nat->Bool}:{ts:List TypeId} -> {vs:List Value} -> {i:List (DataW H)} -> {g:List MemPlace}->(ts.all λt=>P.readableRec t&&J (t<P.types.size))=Z ->
  DataW.TrodAll enc P w 0 (λ_=>Z) Z ts vs i g->(∀ p∈g,w.sameAt W' p)->(∀ p∈g,e p.block=Z)->DataW.TrodAll enc P W' 0 e Z ts vs i g
 |[],[],[],_,_,h,_,_=>h
 |t::ts,v::vs,d::i,_,f,h,k,l=>by simp at f;obtain⟨p,q,a,b,rfl⟩:=h;exact⟨p,q,WideElems.Trod_stays m f.1.1 f.1.2 a (λx c=>k x (by simp[c])) (λx c=>l x (by simp[c])),ZG m (by simpa using f.2) b (λx c=>k x (by simp[c])) (λx c=>l x (by simp[c])),rfl⟩
 |[],_::_,_,_,_,h,_,_=>h.elim
 |[],[],_::_,_,_,h,_,_=>h.elim
 |_::_,[],_,_,_,h,_,_=>h.elim
 |_::_,_::_,[],_,_,h,_,_=>h.elim
def zjv{f:Func}{s:ChangeSpec}{c n d m:Bool}{args:Array Value}{u w:List (DataW H)}{a pa pv:List MemPlace}(A:DataW.Whole enc P f.params.toList s.vars c W args.toList u w a)(l:∀ (b:Nat) (o:Nat->Bool) (E:Bool),DataW.TrodAll enc P W' b o E f.resultTypes.toList (v.resultList f.resultTypes.size) (s.fn H (u++w)).results [])(e:∀ o:Nat->Bool,(∀ p∈a,o p.block=Z)->DataW.TrodAll enc P W' 0 o Z f.params.toList args.toList (s.fn H (u++w)).args pa)(h:∀ o:Nat->Bool,(∀ p∈a,o p.block=Z)->DataW.TrodVars enc P W' o s.vars (s.fn H (u++w)).vars pv)(i:a=pa++pv)(C:Below W.heap.size W W')(B:∀ (j:Nat) (t:TypeId) (r:Value),f.resultTypes[j]?= U t->(v.resultList f.resultTypes.size)[j]?= U r->Value.okWide P W' .any 0 t r):
  s.post enc P f c n d m W args v W':=by
 have y:=λp g=>A.lt p g;have k:∀ p∈a,(λb=>J (b<W.heap.size)) p.block=true:=λp g=>by simpa using y p g
 refine⟨u,w,a,[],pa,pv,A,l _ _ _,e _ k,h _ k,World.keptBut_mono (λp g=>⟨g,?_⟩) (C.frame (· ∈ a)),λ_=>?_⟩;rw[i,udt]at g;exact Or.inr g;obtain⟨_,_,_,_,_,G,F⟩:=A;refine⟨B,_,_,([]++pa)++pv,⟨[]++pa,pv,trodAll_append (e _ (λ_ _=>rfl)) (l _ _ _),h _ (λ_ _=>rfl),rfl,?_,?_⟩,?_⟩;intro b z g;have x:MemPlace.cell b z∈a:=by rw[i];simpa using g
 rw[C.frozen (y _ x)];exact G b z x;intro D;have:=F D;rw[i]at this;simpa using this;intro p g _;rw[i];simpa using g
def law_contract{u:FuncId}{f:Func}{s:ChangeSpec}{ps:List PT}{c n d l:Bool}{tb:TypeId}(hl:laidOutB P=Z)(hr:(f.params.toList.all λt=>P.readableRec t&&J (t<P.types.size))=Z)(K:nh P f.params.toList ps=Z)(g:s.vars=[])(z:f.resultTypes = #[tb])(A:P.underlying tb=U .bool)(hs:∀ m:List (DataW H),m.length=f.params.size->s.fn H m = { results:=[.lit (.bool Z)],args:=m })(hc:ag P u ⟨ps,[.bool],λ_=>(Z,()),λ_=>[]⟩)(W:World)(r:Nat)(args:Array Value)(m T:List (DataW H))(h:List MemPlace)(B:∀ (j:Nat) t v,f.params[j]?= U t->args[j]?= U v->Value.okWide P W .any r t v)(Q:DataW.Whole enc P f.params.toList s.vars c W args.toList m T h):
  Calls P u args W λe D=>∃ v,e=.returned v/\s.post enc P f c n d l W args v D:=by
 have w:=Q;obtain⟨p,q,E,O,rfl,hfz,hnd⟩:=Q;rw[g]at O;obtain⟨rfl,rfl⟩:=trodVars_none O;obtain⟨xs,N⟩:=ZH K E (λj t v a b=>B j t v (by simpa using a) (by simpa using b));have i:=hc.2 W (qe W) xs args.toList (λb hb=>hb) N trivial;refine i.mono ?_;rintro e D ⟨v,S,rfl,k,_,_,hv⟩;have L:aK P D S (λ_ _=>True) (eR .bool Z) v:=iH hv;have M:=L.2;subst M;refine⟨_,rfl,?_⟩;have y:(m++[]).length=f.params.size:=by have:=trodAll_length E;simp[this.2]
 have o:=hs (m++[]) y;have F:∀ x∈p,x.block<W.heap.size:=λx C=>w.lt x (by simp[C]);refine zjv (pa:=p) (pv:=[]) w (λb R hd=>?_) (λR G=>?_) (λR _=>?_) (by simp) k (ok_one z rfl (okWide_bool_mk A Z));rw[z,o];exact trodAll_mk1 (shut_bool A Z);rw[o];simp;exact ZG hl hr E (λx C=>k.same (F x C)) (λx C=>G x (by simp[C]));rw[g,o];rfl
end
end
section
variable {P:Program} {B:Nat} {w w':World} {E:Env} {F F':Nat->Prop} {γ γ':Nat->Value} {m:aX}
structure Mt where
 e:TypeId
 T:Ty
 ps:List PT
 rs:List Ty
 f:List T.q->ap ps->List T.q×aa rs
 ok:List T.q->ap ps->List Prop
def RH(w:World)(mt:Mt)(v:Value)(y:List mt.T.q×aa mt.rs)(e:Ending)(b:World):Prop:=
 ∃ u a,e=.returned u/\w.grownBy b v.ownBlock/\b.ownsRow 0 mt.e mt.T.size v y.1.length a/\cy b (λ_=>False) mt.T y.1 a/\(∀ u∈a,u.oneCell'=Z)/\jF b (λ_=>False) mt.rs y.2 u
structure SoundMt (P:Program) (f:FuncId) (mt:Mt):Prop where
 lt:mt.e<cJ
 flat:mt.T.flat=true
 flats:mt.rs.all Ty.flat=true
 enters:∀ args w,(callFunc f args).run P w=.ok (.enter f args) w
 calls:∀ (w:World) (F:Nat->Prop) (l:List mt.T.q) (xs:ap mt.ps) (v:Value) (vs rows:List Value),(∀ b,F b->b<w.heap.size)->w.ownsRow 0 mt.e mt.T.size v l.length rows->(∀ g,v.ownBlock=some g->¬ F g) ->
  cy w F mt.T l rows->(∀ u∈rows,u.oneCell'=true)->v.oneCell'=true->dm P w F mt.ps xs vs->az (mt.ok l xs)->Calls P f (v::vs).toArray w (RH w mt v (mt.f l xs))
def i6(i:Gm)(f:FuncId)(mt:Mt)(_d:Nat)(g:FuncId)(a:List AV)(s:St):Option Tr:=
 if g=f then match a with
  |.c (.own id)::b=>match fe s.mem b with
   |some (d,u)=>match aB s.mem u id with
    |some (.arr e t l)=>if h:t=mt.T then if e=mt.e then match lm i mt.ps d with
      |some (x,n)=>U (needL (n++mt.ok (cY h l) x) (.leaf (.val (lq mt.rs (mt.f (cY h l) x).2)) ⟨s.n,s.sl,upd (aB s.mem u) id (.arr mt.e mt.T (mt.f (cY h l) x).1),s.gs⟩))
      |none=>V
     else V else V
    |_=>V
   |none=>V
  |_=>V
 else V
def jg{Γ:Gm}(hΓ:io P Γ){mt:Mt}(h:SoundMt P f mt):jC P (i6 Γ f mt):=by
 intro d g args s t C;unfold i6 at C;split at C<;>try trivial
 rename_i hg;subst hg;split at C<;>try trivial
 rename_i id rest;split at C<;>try trivial
 rename_i xs u hrs;split at C<;>try trivial
 rename_i e ty l z;split at C<;>try trivial
 rename_i hty;split at C<;>try trivial
 rename_i hee;split at C<;>try trivial
 rename_i x n S;cases C;subst hty;subst hee;refine⟨h.enters,λE a w F y vs Q A hr hq=>?_⟩;obtain⟨hn,hqv⟩:=lz _ hq;obtain⟨hn1,hn2⟩:=lj.1 hn;cases vs with
 |nil=>exact hr.elim
 |cons v vs=>
  obtain⟨⟨hone,hv⟩,hr⟩:=hr;obtain⟨M,O,N,_,r1⟩:=ke A.mem (eE A) (dM.of λ_ _ h=>h) hrs hr;have hps:=pI hΓ S hn1 r1;have G:v=y id:=by have h2:av (aB s.mem u) y id v:=O.hR id v hv;simpa[av,z]using h2
  obtain⟨rows,o1,o2,o3,o4⟩:=iT.of (N.ob id _ z) h.lt;rw[<- G]at o1 o2;have H:∀ g,v.ownBlock=U g->E.B<=g/\g<w.heap.size:=λg hg=>o1.lt g hg;have hc:=h.calls w M l x v vs rows O.bd (uR o1 (λ_ _=>ufh _)) o2 o3 o4 hone hps hn2;refine hc.mono λen R hp=>?_;obtain⟨u2,L,rfl,r,p1,p2,p3,p4⟩:=hp;have m:∀ b,b<w.heap.size->v.ownBlock≠U b->R.heap[b]?= w.heap[b]? := λb k hne=>r.block b k (λh=>hne h.symm);have hBs:=qA A;have hR:∀ i v',av (aB s.mem u) y i v'->av (upd (aB s.mem u) id (.arr mt.e mt.T (mt.f l x).1)) y i v':=λi v' D=>by unfold av at D |-;by_cases c:i=id;subst c;rw[z]at D;simpa[upd]using D;simpa[upd,c]using D
  have s2:Step E.B w M y (aB s.mem u) R M y (upd (aB s.mem u) id (.arr mt.e mt.T (mt.f l x).1)):=
   ⟨λ_ h=>h,λb k=>m b (O.bd b k) (λh=>o2 b h k),hR,λb k=>m b (by omega) (λh=>by have:=(H b h).1;omega),
    r.os,r.tape,r.output,r.size,λb k=>ucb (O.bd b k) r.size,λb k=>.inl k⟩
  have hnm:∀ b,y id ≠ .map (U b):=G ▸ qg o1;have K:∀ i o,i≠id->aB s.mem u i=U o->∀ b,cg w o (y i) b->R.heap[b]?= w.heap[b]? := λi o c p b k=>m b (jN (N.ob i o p) k).1 (λhvb=>N.apart i id o _ b c p z k (.inl (by rw[<- G];exact hvb)))
  have W:∀ i o,upd (aB s.mem u) id (.arr mt.e mt.T (mt.f l x).1) i=U o->∃ o0,aB s.mem u i=U o0/\∀ b,cg R o (y i) b->cg w o0 (y i) b:=λi o p=>by by_cases c:i=id;subst c;simp only[upd,if_true,ucl]at p;subst p;exact⟨_,z,λb k=>(oa h.lt hnm).2 ((oa h.lt hnm).1 k)⟩;simp only[upd,ufx c]at p;exact⟨o,p,λb k=>xy (K i o c p) k⟩
  have m2:MemOK P E.B R M y (upd (aB s.mem u) id (.arr mt.e mt.T (mt.f l x).1)):=by refine⟨λi o p=>?_,λi j oi oj b hij hoi hoj k hb'=>?_⟩;by_cases c:i=id;subst c;simp only[upd,if_true,ucl]at p;subst p;rw[<- G];exact .inl ⟨h.lt,L,uR p1 (λg hg=>(H g hg).1),o2,p2.flat h.flat,p3⟩;simp only[upd,ufx c]at p;refine(N.ob i o p).keep (λ_ h=>h) (λb k=>m b (O.bd b k) (λh=>o2 b h k)) hR λb k=>?_;exact⟨K i o c p b k,(jN (N.ob i o p) k).2.1⟩;obtain⟨oi0,a1,a2⟩:=W i oi hoi;obtain⟨oj0,b1,b2⟩:=W j oj hoj;exact N.apart i j oi0 oj0 b hij a1 b1 (a2 b k) (b2 b hb')
  have s3:=O.trans s2;have hinv:InvG P E ⟨s.n,s.sl,upd (aB s.mem u) id (.arr mt.e mt.T (mt.f l x).1),s.gs⟩ a R [] M y:=by refine⟨A.n,A.df,?_,m2,λt=>(A.sl t).mono s3.hF s3.hw s3.hR,A.hg,λt=>s3.repA (A.gh t)⟩;obtain⟨γ0,h0⟩:=A.step;exact⟨γ0,h0.trans s3⟩
  exact⟨.val (lq mt.rs (mt.f l x).2),_,M,y,hqv,hinv,u2,rfl,xq (p4.flat h.flats)⟩
def HL(n:Nat)(e:TypeId)(T:Ty)(l:List T.q)(a:List AV):St:=
 ⟨n,λi=>(AV.c (.own (bu 0))::a).getD i .dead,λi=>if i=bu 0 then U (.arr e T l)else V,λi=>if i=0 then .c (.own (bu 0))else .dead⟩
def tU(P:Program)(d:List ResultVar)(e:TypeId)(T:Ty)(a:List Ty)(s:St):Option (Fr (List T.q×aa a)):=
 match s.gs 0 with
 |.c (.own k)=>match s.mem k with
  |some (.arr b t l)=>if h:t=T then if b=e then match ji P s d with
    |some (f,n)=>match fe s.mem f with
     |some (g,_)=>match jp a g with
      |some y=>U (Fr.needL n (.val (cY h l,y)))
      |none=>V
     |none=>V
    |none=>V
   else V else V
  |_=>V
 |_=>V
def kH(P:Program)(c:List ResultVar)(e:TypeId)(T:Ty)(a:List Ty):Tr->Option (Fr (List T.q×aa a))
 |.leaf .ret s=>tU P c e T a s
 |.leaf .normal s=>tU P c e T a s
 |.leaf _ _=>V
 |.br b x y=>match kH P c e T a x,kH P c e T a y with
  |some d,U f=>U (.br b d f)
  |_,_=>V
 |.need p x=>match kH P c e T a x with
  |some d=>U (.need p d)
  |none=>V
 |.two p x y=>match kH P c e T a x,kH P c e T a y with
  |some d,U f=>U (.need (p->d.ok/\d.get=f.get) f)
  |_,_=>V
def xI{k:List ResultVar}{T:Ty}{g:List Ty}:{t:Tr} -> {f:Fr (List T.q×aa g)}->kH P k e T g t=U f->f.ok->t.sat λx s=>(x=.ret\/x=.normal)/\∃ n,tU P k e T g s=U (Fr.needL n (.val f.get))/\az n
 |.leaf x s,f,h,a=>by
  have key:tU P k e T g s=U f->∃ n,tU P k e T g s=U (Fr.needL n (.val f.get))/\az n:=λh=>by
   have r:=h;unfold tU at h;split at h<;>try trivial
   split at h<;>try trivial
   split at h<;>try trivial
   split at h<;>try trivial
   split at h<;>try trivial
   split at h<;>try trivial
   split at h<;>try trivial
   cases h;refine⟨_,?_,(yu _ a).1⟩;rw[yq];exact r
  cases x with
  |exit i=>simp[kH]at h
  |panic i=>simp[kH]at h
  |val i=>simp[kH]at h
  |jump i=>simp[kH]at h
  |normal=>exact⟨.inr rfl,key h⟩
  |ret=>exact⟨.inl rfl,key h⟩
 |.br b x y,f,h,a=>by
  simp only[kH]at h;split at h<;>try trivial
  rename_i o v d l;cases h;refine⟨λc=>?_,λc=>?_⟩;have:=xI d (a.1 c);simpa only[Fr.get,c,if_true]using this;have:=xI l (a.2 c);simpa only[Fr.get,c,ub3,uft]using this
 |.need p x,f,h,a=>by
  simp only[kH]at h;split at h<;>try trivial
  rename_i o d;cases h;have:=xI d a.2;exact⟨a.1,this⟩
 |.two p x y,f,h,a=>by
  simp only[kH]at h;split at h<;>try trivial
  rename_i o v d l;cases h;have u:=xI l a.2;refine⟨λm=>?_,u⟩;have:=xI d (a.1 m).1
  rwa [(a.1 m).2]at this
def CT(P:Program)(C:Cx)(g:Nat->St->Option Tr)(a:Func)(e:TypeId)(T:Ty)(b:List PT)(d:List Ty)(l:List T.q)(f:ap b):Option (Fr (List T.q×aa d)):=
 match a.body with
 |some c=>if (a.name == "runtime.NumGoroutine")=Y/\b.length+1<=a.ntmps then match cQ P C 0 g c 0 (HL a.ntmps e T l (gk b f))with
   |some t=>kH P a.results.toList e T d t
   |none=>V
  else V
 |none=>V
def jU{C:Cx}(hC:CxOK P C){Λ:Nat->St->Option Tr}{fn:Func}{T:Ty}{ps:List PT}{rs:List Ty}{fr:List T.q->ap ps->Fr (List T.q×aa rs)}(x0:ap ps)(hf:P.funcs[f]?= U fn)(hT:T.flat=Z)(Q:rs.all Ty.flat=Z)(hΛ:∀ c E,fn.body=U c->co P E Λ c 0)(G:∀ l xs,CT P C Λ fn e T ps rs l xs=U (fr l xs))(r:e<cJ:=by decide):
  SoundMt P f ⟨e,T,ps,rs,λl xs=>(fr l xs).get,λl xs=>[(fr l xs).ok]⟩:=by
 have h0:=G [] x0;unfold CT at h0;split at h0<;>try trivial
 rename_i c d;split at h0<;>try trivial
 rename_i hc;refine⟨r,hT,Q,enters hf d hc.1,λw F l xs v m rows hbd hown hnF N K D hr hok=>uff hf d ?_⟩;have z:=G l xs;unfold CT at z;simp only[d,hc,ufs,if_true]at z;split at z<;>try trivial
 rename_i t ht;have hlen:m.length=ps.length:=v9 hr;have hFb:∀ b,F b->(b<w.heap.size/\v.ownBlock≠U b):=λb d=>⟨hbd b d,λh=>hnF b h d⟩;have hps:dm P w (λb=>b<w.heap.size/\v.ownBlock≠U b) ps xs m:=dm.mono hFb (λ_ _=>rfl) hr;have p:∀ R:Nat->Value->Prop,R (bu 0) v->bI P w (λb=>b<w.heap.size/\v.ownBlock≠U b) R (AV.c (.own (bu 0))::gk ps xs) (v::m):=λR hR=>⟨⟨D,hR⟩,pK hps⟩;have A:I P ⟨w,λb=>b<w.heap.size/\v.ownBlock≠U b,λ_=>v,[],0,ufh _⟩ (HL fn.ntmps e T l (gk ps xs)) { tmps:=(v::m).toArray++Array.replicate (fn.ntmps-(v::m).length) undef,defers:=[] } w:=by
  refine⟨_,λ_=>v,?_,rfl,⟨λ_=>undef,⟨λ_ h=>h,λ_ _=>rfl,λ_ _ h=>h.elim,λb d=>absurd d (Nat.not_lt_zero b),rfl,rfl,rfl,ufb _,λb d=>d.1,λb d=>.inl d⟩⟩,⟨λid o ho=>?_,λi j oi oj b hij x hj=>?_⟩,λt=>?_,λt g want v ht=>?_,λt=>?_⟩;show _=fn.ntmps;simp only[ucp,ucq,Array.size_replicate,uc9];omega;have L:(if id=bu 0 then U (Ob.arr e T l)else V)=U o:=ho;split at L;cases L;exact .inl ⟨r,rows,hown,λg hg h=>h.2 hg,N.flat hT,K⟩;cases L;have hi':(if i=bu 0 then U (Ob.arr e T l)else V)=U oi:=x;have hj':(if j=bu 0 then U (Ob.arr e T l)else V)=U oj:=hj;split at hi';split at hj';rename_i H h2;exact absurd (H.trans h2.symm) hij;cases hj';cases hi';have hg:((v::m).toArray++Array.replicate (fn.ntmps-(v::m).length) undef).getD t undef=(v::m).getD t undef:=by
   simp only[uac,uah];rcases ueq t (v::m).length with r|W
   rw[uai (by simpa using r)];simp;rw[uad (by simpa using W),ua4 W];simp only[uas];split<;>rfl
  show fw P w _ _ _ ((AV.c (.own (bu 0))::gk ps xs).getD t .dead) (((v::m).toArray++Array.replicate (fn.ntmps-(v::m).length) undef).getD t undef);rw[hg];exact zj (qn (p _ (by simp[av,HL])) t);exfalso;have:=qn (p (λ_ _=>True) trivial) t;have ht':(AV.c (.own (bu 0))::gk ps xs).getD t .dead=.maybe g want v:=ht;rw[ht']at this;exact this;show aK P w _ _ (if t=0 then .c (.own (bu 0))else .dead) v;split;exact⟨D,by simp[bx,av,HL]⟩;trivial
 have hwp:=iG hC c 0 (hΛ c _ d) ht (xI z hok) A;have hsz:((v::m).toArray).size=(v::m).length:=by simp
 rw[hsz];refine wp_mono hwp ?_;rintro ex a' w' ⟨xe,s,rfl,⟨F',γ',x⟩,hxe,n,a,hnn⟩;have B:a'.defers=[]/\∃ u,(results fn a'.tmps).run P w'=.ok u w'/\RH w ⟨e,T,ps,rs,λl xs=>(fr l xs).get,λl xs=>[(fr l xs).ok]⟩ v (fr l xs).get (.returned u) w':=by
  unfold tU at a;split at a<;>try trivial
  rename_i k hgs;split at a<;>try trivial
  rename_i e' t' l' hmk;split at a<;>try trivial
  rename_i hty;split at a<;>try trivial
  rename_i hee;split at a<;>try trivial
  rename_i avs n' hres;split at a<;>try trivial
  rename_i axs u hrs;split at a<;>try trivial
  rename_i y S;injection a with a
  obtain⟨hn',hy⟩:=yr a hnn;subst hty;subst hee;obtain⟨us,hran,M⟩:=qo x hres hn';obtain⟨F'',hs,hm',_,hxs⟩:=ke x.mem (eE x) (dM.of λ_ _ h=>h) hrs M;obtain⟨γ0,H⟩:=x.step;have hgv:v=γ' k:=by have h2:=x.gh 0;rw[hgs]at h2;have h3:av s.mem γ' k v:=h2.2;simpa[av,hmk]using h3
  obtain⟨O,q1,q2,q3,q4⟩:=iT.of (x.mem.ob k _ hmk) r;rw[<- hgv]at q1;refine⟨x.df,_,sf hran,_,O,rfl,⟨H.os,H.tape,H.output,H.size,λb d hne=>H.hw b ⟨d,λh=>hne h.symm⟩⟩,?_,?_,q4,?_⟩;rw[<- hy];exact q1;rw[<- hy];exact q3.flat hT;rw[<- hy];exact(zk (nY S hxs)).flat Q
 rcases hxe with rfl|rfl
 exact B;exact B
def qak{t:Ty}{l:List t.q}(h:cy w F t l xs):∀ x∈l,Wf t x:=λx b=>by obtain⟨i,a,rfl⟩:=List.mem_iff_getElem.1 b;exact aG.wf (h i _ (uaq a))
def Zh{size:Nat}(h:w.ownsRow B e size v n xs):n<=maxLen:=by
 rcases h.2 with ⟨_,rfl⟩|⟨g,a,b,_,_,_,c,d,_⟩
 exact ufh _;exact uep c d
def jK{mt:Mt}(h:SoundMt P f mt)(g:List mt.T.q->ap mt.ps->List mt.T.q×aa mt.rs)(ok:List mt.T.q->ap mt.ps->List Prop)(r:∀ w F l xs vs,dm P w F mt.ps xs vs->l.length<=maxLen->(∀ x∈l,Wf mt.T x)->az (ok l xs)->az (mt.ok l xs)/\mt.f l xs=g l xs):SoundMt P f ⟨mt.e,mt.T,mt.ps,mt.rs,g,ok⟩:=by refine⟨h.lt,h.flat,h.flats,h.enters,λw F l xs v vs a o c s i p k d b=>?_⟩;obtain⟨m,n⟩:=r w F l xs vs d (Zh c) (qak i) b;have:=h.calls w F l xs v vs a o c s i p k d m;rw[n]at this;exact this
end
def eC(step:T->σ->Fr (σ ⊕ ρ)):List T->σ->σ ⊕ ρ
 |[],s=>.inl s
 |x::r,s=>match (step x s).get with
  |.inl a=>eC step r a
  |.inr y=>.inr y
def l6(step:T->σ->Fr (σ ⊕ ρ)):List T->σ->Prop
 |[],_=>True
 |x::r,s=>(step x s).ok/\match (step x s).get with
  |.inl a=>l6 step r a
  |.inr _=>True
def ft(step:T->σ->Fr σ):List T->σ->σ
 |[],s=>s
 |x::r,s=>ft step r (step x s).get
def kQ(step:T->σ->Fr σ):List T->σ->Prop
 |[],_=>True
 |x::r,s=>(step x s).ok/\kQ step r (step x s).get
def dV:σ ⊕ ρ->Bool
 |.inl _=>Z
 |.inr _=>Y
def fq(d:σ):σ ⊕ ρ->σ
 |.inl s=>s
 |.inr _=>d
def e9(d:ρ):σ ⊕ ρ->ρ
 |.inl _=>d
 |.inr y=>y
def Rd.up{X a b:Type}:Rd Empty a b->Rd X a b
 |.next x=>nomatch x
 |.out y=>.out y
 |.back z=>.back z
 |.pan p=>.pan p
section
variable {P:Program} {c:Code} {L Eo R:LS} {n id:Nat} {T σ ρ:Type}
structure InL (good:Prop) (u:Int×List T×σ):Prop where
 good:good
 lo:0<=u.1
 hi:u.1<=u.2.1.length
 big:(u.2.1.length:Int)<=9223372036854775807
def FL(step:T->σ->Fr (σ ⊕ ρ))(a:L.X->Int×List T×σ)(b:L.X->Prop)(cC:σ->Eo.X)(outR:ρ->Rd Empty Eo.X R.X)(d:σ)(c:ρ)(x:L.X):Fr (Rd L.X Eo.X R.X):=
 Fr.need (InL (b x) (a x)) (Fr.need (l6 step ((a x).2.1.drop (a x).1.toNat) (a x).2.2)
  (Fr.br (dV (eC step ((a x).2.1.drop (a x).1.toNat) (a x).2.2)) (Fr.val (Rd.out (cC (fq d (eC step ((a x).2.1.drop (a x).1.toNat) (a x).2.2)))))
   (Fr.val (Rd.up (outR (e9 c (eC step ((a x).2.1.drop (a x).1.toNat) (a x).2.2)))))))
def zsa {D:L.X->Fr (Rd L.X Eo.X R.X)} (h:af P c L ⟨n,id,L,Eo,R⟩ D) (step:T->σ->Fr (σ ⊕ ρ)) (a:L.X->Int×List T×σ) (b:L.X->Prop) (cC:σ->Eo.X) (outR:ρ->Rd Empty Eo.X R.X) (d:σ) (S:ρ)
  (k:∀ x,b x->0<=(a x).1->(a x).1<(a x).2.1.length->((a x).2.1.length:Int)<=9223372036854775807->∀ e,(a x).2.1[(a x).1.toNat]?= U e->∀ Q:Rd L.X Eo.X R.X->Prop,
   (step e (a x).2.2).s7 (λ
    |.inl M=>∀ l,a l=((a x).1+1,(a x).2.1,M)->b l->Q (.next l)
    |.inr y=>Q (Rd.up (outR y)))->(D x).s7 Q)
  (v:∀ x,b x->¬ (a x).1<(a x).2.1.length->∀ Q:Rd L.X Eo.X R.X->Prop,Q (.out (cC (a x).2.2))->(D x).s7 Q) :
  af P (.loop c) L ⟨n,id,L,Eo,R⟩ (FL step a b cC outR d S):=by
 refine af.loop (n:=n) (id:=id) h (inv:=λx=>InL (b x) (a x)) (μ:=λx=>(((a x).2.1.length:Int)-(a x).1).toNat) ?_ (λx Q K=>K.1);intro x A Q K;obtain⟨_,i,f,g⟩:=K;by_cases O:(a x).1<(a x).2.1.length
 ·have G:=A.lo;have m:=A.big;have B:(a x).1.toNat<(a x).2.1.length:=by omega
  have W:(a x).2.1.drop (a x).1.toNat=(a x).2.1[(a x).1.toNat]::(a x).2.1.drop ((a x).1.toNat+1):=ual B;have H:((a x).1+1).toNat=(a x).1.toNat+1:=by omega
  rw[W]at i f g;generalize he:(a x).2.1[(a x).1.toNat]=e at i f g;have E:(a x).2.1[(a x).1.toNat]?= U e:=by rw[uaq B,he]
  refine k x A.good G O m e E _ (q9 i.1 ?_);have o:=i.2;simp only[eC]at f g;cases N:(step e (a x).2.2).get with
  |inl M=>
   simp only[N]at o f g;intro l r F;have s:(a l).1=(a x).1+1:=by rw[r]
   have t:(a l).2.1=(a x).2.1:=by rw[r]
   have C:(a l).2.2=M:=by rw[r]
   have w:InL (b l) (a l):=⟨F,by rw[s];omega,by rw[s,t];omega,by rw[t];exact m⟩;refine⟨w,by rw[s,t];omega,w,?_,?_,?_⟩;rw[s,t,C,H];exact o;rw[s,t,C,H];exact f;rw[s,t,C,H];exact g
  |inr y=>
   simp only[N]at f g;have:=g rfl;simp only[e9]at this;cases u:outR y with
   |next x=>exact nomatch x
   |out y2=>rw[u]at this;simp only[u,Rd.up];exact this
   |back z=>rw[u]at this;simp only[u,Rd.up];exact this
   |pan p=>rw[u]at this;simp only[u,Rd.up];exact this
 have B:(a x).2.1.drop (a x).1.toNat=[]:=ua2 (by have:=A.lo;omega);rw[B]at f;exact v x A.good O _ (f rfl)
def FF(step:T->σ->Fr σ)(a:L.X->Int×List T×σ)(b:L.X->Prop)(cC:σ->Eo.X)(x:L.X):Fr (Rd L.X Eo.X R.X):=
 Fr.need (InL (b x) (a x)) (Fr.need (kQ step ((a x).2.1.drop (a x).1.toNat) (a x).2.2)
  (Fr.val (Rd.out (cC (ft step ((a x).2.1.drop (a x).1.toNat) (a x).2.2)))))
def zr9 {u:L.X->Fr (Rd L.X Eo.X R.X)} (h:af P c L ⟨n,id,L,Eo,R⟩ u) (step:T->σ->Fr σ) (a:L.X->Int×List T×σ) (b:L.X->Prop) (cC:σ->Eo.X)
  (g:∀ x,b x->0<=(a x).1->(a x).1<(a x).2.1.length->((a x).2.1.length:Int)<=9223372036854775807->∀ e,(a x).2.1[(a x).1.toNat]?= U e->∀ Q:Rd L.X Eo.X R.X->Prop,
   (step e (a x).2.2).s7 (λF=>∀ i,a i=((a x).1+1,(a x).2.1,F)->b i->Q (.next i))->(u x).s7 Q)
  (p:∀ x,b x->¬ (a x).1<(a x).2.1.length->∀ Q:Rd L.X Eo.X R.X->Prop,Q (.out (cC (a x).2.2))->(u x).s7 Q) :
  af P (.loop c) L ⟨n,id,L,Eo,R⟩ (FF step a b cC):=by
 refine af.loop (n:=n) (id:=id) h (inv:=λx=>InL (b x) (a x)) (μ:=λx=>(((a x).2.1.length:Int)-(a x).1).toNat) ?_ (λx Q z=>z.1);intro x s Q z;obtain⟨_,f,d⟩:=z;by_cases B:(a x).1<(a x).2.1.length;have y:=s.lo;have k:=s.big;have t:(a x).1.toNat<(a x).2.1.length:=by omega
 have D:(a x).2.1.drop (a x).1.toNat=(a x).2.1[(a x).1.toNat]::(a x).2.1.drop ((a x).1.toNat+1):=ual t;have C:((a x).1+1).toNat=(a x).1.toNat+1:=by omega
 rw[D]at f d;generalize E:(a x).2.1[(a x).1.toNat]=e at f d;have v:(a x).2.1[(a x).1.toNat]?= U e:=by rw[uaq t,E]
 refine g x s.good y B k e v _ (q9 f.1 ?_);intro i l w;have m:(a i).1=(a x).1+1:=by rw[l]
 have o:(a i).2.1=(a x).2.1:=by rw[l]
 have A:(a i).2.2=(step e (a x).2.2).get:=by rw[l]
 have r:InL (b i) (a i):=⟨w,by rw[m];omega,by rw[m,o];omega,by rw[o];exact k⟩;refine⟨r,by rw[m,o];omega,r,?_,?_⟩;rw[m,o,A,C];exact f.2;rw[m,o,A,C];exact d;have t:(a x).2.1.drop (a x).1.toNat=[]:=ua2 (by have:=s.lo;omega);rw[t]at d;exact p x s.good B _ d
def Fr.mapR(f:α->β):Fr α->Fr β
 |.val x=>.val (f x)
 |.br b x y=>.br b (x.mapR f) (y.mapR f)
 |.need p x=>.need p (x.mapR f)
def vU{f:α->β}{Q:β->Prop}:{t:Fr α}->t.s7 (λx=>Q (f x))->(t.mapR f).s7 Q
 |.val _,h=>h
 |.br _ _ _,h=>⟨λa=>vU (h.1 a),λa=>vU (h.2 a)⟩
 |.need _ _,h=>⟨h.1,vU h.2⟩
inductive Nd|o|n (m:Nd)|z (m:Nd)|g (c v:Bool) (m:Nd)|h (c v:Bool) (m:Nd)|r (m:Nd)|d (m m2:Nd)
def Nd.ins(b z:Prop):Nd->Fr α->Fr α
 |.n m,t=>.need b (m.ins b z t)
 |.z m,t=>.need z (m.ins b z t)
 |.g c v m,t=>.need (c=v->b) (m.ins b z t)
 |.h c v m,t=>.need (c=v->z) (m.ins b z t)
 |.r m,.need p t=>.need p (m.ins b z t)
 |.d m a,.br c x y=>.br c (m.ins b z x) (a.ins b z y)
 |_,t=>t
def Nd.ins_sat{b z:Prop}{Q:α->Prop}(a:b)(c:z):(m:Nd)->(t:Fr α)->t.s7 Q->(m.ins b z t).s7 Q
 |.n m,_,q=>⟨a,m.ins_sat a c _ q⟩
 |.z m,_,q=>⟨c,m.ins_sat a c _ q⟩
 |.g _ _ m,_,q=>⟨λ_=>a,m.ins_sat a c _ q⟩
 |.h _ _ m,_,q=>⟨λ_=>c,m.ins_sat a c _ q⟩
 |.r m,.need _ _,q=>⟨q.1,m.ins_sat a c _ q.2⟩
 |.r _,.br _ _ _,q=>q
 |.r _,.val _,q=>q
 |.d m f,.br _ _ _,q=>⟨λe=>m.ins_sat a c _ (q.1 e),λe=>f.ins_sat a c _ (q.2 e)⟩
 |.d _ _,.need _ _,q=>q
 |.d _ _,.val _,q=>q
 |.o,_,q=>q
inductive AllQ (K:α->Prop):Fr α->Prop
 |val (x:α):K x->AllQ K (.val x)
 |br (c:Bool) (x y:Fr α):AllQ K x->AllQ K y->AllQ K (.br c x y)
 |need (p:Prop) (x:Fr α):AllQ K x->AllQ K (.need p x)
def AllQ.sat{K Q:α->Prop}:{t:Fr α}->AllQ K t->t.s7 Q->t.s7 (λr=>K r/\Q r)
 |.val _,.val _ h,q=>⟨h,q⟩
 |.br _ _ _,.br _ _ _ a b,q=>⟨λe=>a.sat (q.1 e),λe=>b.sat (q.2 e)⟩
 |.need _ _,.need _ _ h,q=>⟨q.1,h.sat q.2⟩
def upK(b:L.X->Int×List T×σ)(a:L.X->Prop)(up:L.X->σ->L.X)(x:L.X)(s:σ):Prop:=b (up x s)=(I6.wrap ((b x).1+1),(b x).2.1,s)/\a (up x s)
def I0(b:L.X->Int×List T×σ)(a:L.X->Prop)(up:L.X->σ->L.X)(x:L.X):σ ⊕ ρ->Prop
 |.inl s=>upK b a up x s
 |.inr _=>True
def Of(up:σ->L.X)(outR:ρ->Rd Empty Eo.X R.X):σ ⊕ ρ->Rd L.X Eo.X R.X
 |.inl s=>.next (up s)
 |.inr y=>Rd.up (outR y)
def qd6 {C:Cx} (K:CxOK P C) {Λ:Nat->St->Option Tr} (u:∀ E,co P E Λ c 0) (step:T->σ->Fr (σ ⊕ ρ)) (f:L.X->Int×List T×σ) (a:L.X->Prop) (cC:σ->Eo.X) (outR:ρ->Rd Empty Eo.X R.X) (d:σ) (w:ρ) (W:T->σ->Nd) (v:L.X->Int) (i:L.X->T) (b z:L.X->Prop) (up:L.X->σ->L.X)
  (o:∀ x,a x->0<=(f x).1->(f x).1<(f x).2.1.length->v x=((f x).2.1.length:Int)/\(f x).2.1[(f x).1.toNat]?= U (i x)/\b x/\z x)
  (p:∀ x,a x->¬ (f x).1<(f x).2.1.length->¬ (f x).1<v x)
  (g:∀ x,qr P C 0 Λ c L ⟨n,id,L,Eo,R⟩ x=U (Fr.br (J ((f x).1<v x)) (((W (i x) (f x).2.2).ins (b x) (z x) (step (i x) (f x).2.2)).mapR (Of (up x) outR)) (Fr.val (Rd.out (cC (f x).2.2)))))
  (t:∀ x,a x->AllQ (I0 (ρ:=ρ) f a up x) (step (i x) (f x).2.2):=by intro _ h;repeat' first|exact And.intro rfl h|exact trivial|constructor)
  (N:L.low=true:=by rfl) (M:Eo.low=true:=by rfl) (O:R.low=true:=by rfl) :
  af P (.loop c) L ⟨n,id,L,Eo,R⟩ (FL step f a cC outR d w):=by
 refine zsa (af.of_run K (bs:=0) (Λ:=Λ) N M O u g) step f a cC outR d w ?_ ?_;intro x l H k hb e S Q h;obtain⟨A,B,D,F⟩:=o x l H k;have G:i x=e:=ud4 (B.symm.trans S);subst G;refine⟨λ_=>vU (Nd.ins_sat D F _ _ (Fr.satP_mono (λr g=>?_) ((t x l).sat h))),λm=>absurd (A ▸ k) (uch m)⟩;cases r with
 |inl s=>exact g.2 _ (g.1.1.trans (by rw[IntWalk.i64_in _ (by omega)])) g.1.2
 |inr y=>exact g.2
 intro x l k Q h;exact⟨λm=>absurd (ucx m) (p x l k),λ_=>h⟩
def sQ {C:Cx} (t:CxOK P C) {p:Nat->St->Option Tr} {step:T->σ->Fr (σ ⊕ ρ)} {a:L.X->Int×List T×σ} {b:L.X->Prop} {cC:σ->Eo.X} {outR:ρ->Rd Empty Eo.X R.X} {d:σ} {l:ρ} (o:T->σ->Nd) (e:T) (k:L.X->Int) (up:L.X->σ->L.X) (m:∀ x,b x->k x=((a x).2.1.length:Int))
  (i:∀ E,co P E p c 0:=by exact λ_=>bm _ 0)
  (y:∀ x,qr P C 0 p c L ⟨n,id,L,Eo,R⟩ x=U (Fr.br (J ((a x).1<k x)) (((o ((a x).2.1.getD (a x).1.toNat e) (a x).2.2).ins (0<=(a x).1/\(a x).1<((a x).2.1.length:Int)) True (step ((a x).2.1.getD (a x).1.toNat e) (a x).2.2)).mapR (Of (up x) outR)) (Fr.val (Rd.out (cC (a x).2.2)))):=by intro x;kernel_rfl)
  (g:∀ x,b x->AllQ (I0 (ρ:=ρ) a b up x) (step ((a x).2.1.getD (a x).1.toNat e) (a x).2.2):=by intro _ h;repeat' first|exact And.intro rfl h|exact trivial|constructor)
  (v:L.low=true:=by rfl) (u:Eo.low=true:=by rfl) (w:R.low=true:=by rfl) :
  af P (.loop c) L ⟨n,id,L,Eo,R⟩ (FL step a b cC outR d l):=
 qd6 t i step a b cC outR d l o k _ _ _ up (λx f r s=>⟨m x f,by rw[uaq (by omega),uah,uaq (by omega)];rfl,⟨r,s⟩,uT⟩) (λx f h=>by rw[m x f];exact h) y g v u w
def zsb {C:Cx} (B:CxOK P C) {y:Nat->St->Option Tr} {i:Type} {step:T×i->σ->Fr (σ ⊕ ρ)} {a:L.X->Int×List (T×i)×σ} {b:L.X->Prop} {cC:σ->Eo.X} {outR:ρ->Rd Empty Eo.X R.X} {d:σ} {s:ρ} (w:T×i->σ->Nd) (k:T) (f:i) (e:L.X->List T) (g:L.X->List i) (p:L.X->Int) (up:L.X->σ->L.X) (v:∀ x,b x->p x=((e x).length:Int)/\(e x).length=(g x).length)
  (o:∀ E,co P E y c 0:=by exact λ_=>bm _ 0)
  (M:∀ x,qr P C 0 y c L ⟨n,id,L,Eo,R⟩ x=U (Fr.br (J ((a x).1<p x)) (((w ((e x).getD (a x).1.toNat k,(g x).getD (a x).1.toNat f) (a x).2.2).ins (0<=(a x).1/\(a x).1<((e x).length:Int)) (0<=(a x).1/\(a x).1<((g x).length:Int)) (step ((e x).getD (a x).1.toNat k,(g x).getD (a x).1.toNat f) (a x).2.2)).mapR (Of (up x) outR)) (Fr.val (Rd.out (cC (a x).2.2)))):=by intro x;kernel_rfl)
  (u:∀ x,(a x).2.1=(e x).zip (g x):=by intro _;rfl)
  (m:∀ x,b x->AllQ (I0 (ρ:=ρ) a b up x) (step ((e x).getD (a x).1.toNat k,(g x).getD (a x).1.toNat f) (a x).2.2):=by intro _ h;repeat' first|exact And.intro rfl h|exact trivial|constructor)
  (F:L.low=true:=by rfl) (D:Eo.low=true:=by rfl) (G:R.low=true:=by rfl) :
  af P (.loop c) L ⟨n,id,L,Eo,R⟩ (FL step a b cC outR d s):=
 qd6 B o step a b cC outR d s w p _ _ _ up (λx l t A=>by
  obtain⟨r,z⟩:=v x l;rw[u x,udz]at A |-;have H:(a x).1.toNat<(e x).length:=by omega
  have K:(a x).1.toNat<(g x).length:=by omega
  refine⟨by rw[r];omega,?_,⟨t,by omega⟩,⟨t,by omega⟩⟩;rw[uah,uah,uaq H,uaq K,uaq (by rw[udz];omega),List.getElem_zip];rfl) (λx l h=>by
  obtain⟨r,z⟩:=v x l;rw[u x,udz]at h;omega) M m F D G
def zT {C:Cx} (u:CxOK P C) {Λ:Nat->St->Option Tr} {step:T->σ->Fr σ} {a:L.X->Int×List T×σ} {b:L.X->Prop} {cC:σ->Eo.X} (A:T->σ->Nd) (f:T) (r:L.X->Int) (up:L.X->σ->L.X) (p:∀ x,b x->r x=((a x).2.1.length:Int))
  (m:∀ E,co P E Λ c 0:=by exact λ_=>bm _ 0)
  (d:∀ x,qr P C 0 Λ c L ⟨n,id,L,Eo,R⟩ x=U (Fr.br (J ((a x).1<r x)) (((A ((a x).2.1.getD (a x).1.toNat f) (a x).2.2).ins (0<=(a x).1/\(a x).1<((a x).2.1.length:Int)) True (step ((a x).2.1.getD (a x).1.toNat f) (a x).2.2)).mapR (λs=>Rd.next (up x s))) (Fr.val (Rd.out (cC (a x).2.2)))):=by intro x;kernel_rfl)
  (l:∀ x,b x->AllQ (upK a b up x) (step ((a x).2.1.getD (a x).1.toNat f) (a x).2.2):=by intro _ h;repeat' first|exact And.intro rfl h|exact trivial|constructor)
  (w:L.low=true:=by rfl) (v:Eo.low=true:=by rfl) (y:R.low=true:=by rfl) :
  af P (.loop c) L ⟨n,id,L,Eo,R⟩ (FF step a b cC):=by
 refine zr9 (af.of_run u (bs:=0) (Λ:=Λ) w v y m d) step a b cC ?_ ?_;intro x i t g B e z Q h;have o:(a x).2.1.getD (a x).1.toNat f=e:=by rw[uah,z];rfl
 rw[o];refine⟨λ_=>vU (Nd.ins_sat ⟨t,g⟩ trivial _ _ (Fr.satP_mono (λs d=>?_) (AllQ.sat (o ▸ l x i) h))),λk=>absurd (p x i ▸ g) (uch k)⟩;exact d.2 _ (d.1.1.trans (by rw[IntWalk.i64_in _ (by omega)])) d.1.2;intro x i g Q h;exact⟨λk=>absurd (ucx k) (by rw[p x i];exact g),λ_=>h⟩
def rR{step:T->σ->Fr (σ ⊕ ρ)}(h:∀ e s,(step e s).ok):(l:List T)->(s:σ)->l6 step l s
 |[],_=>trivial
 |e::r,s=>by refine⟨h e s,?_⟩;split;exact rR h r _;trivial
end
section
variable {P:Program} {c:Code} {L Eo R:LS} {n id:Nat} {T σ ρ:Type}
end
section
variable {α:Type} {key:α->Int}
def cA(key:α->Int)(l:List α):Prop:=l.Pairwise λx y=>key x<=key y
def bA(key:α->Int)(l s:List α):Prop:=∀ k,s.filter (λx=>key x==k)=l.filter (λx=>key x==k)
def bA.refl(l:List α):bA key l l:=λ_=>rfl
def bA.trans{a b c:List α}(h:bA key a b)(k:bA key b c):bA key a c:=λn=>(k n).trans (h n)
def bA.symm{a b:List α}(h:bA key a b):bA key b a:=λn=>(h n).symm
def bA.app{a b c d:List α}(h:bA key a b)(k:bA key c d):bA key (a++c) (b++d):=λn=>by simp[h n,k n]
def bA.mem{l s:List α}(h:bA key l s){x:α}:x∈s↔x∈l:=by have:=ufu (x ∈ ·) (h (key x));simpa using this
def bA.swap{a b:List α}(h:∀ x∈a,∀ y∈b,key x≠key y):bA key (a++b) (b++a):=λn=>by
 simp only[ucj];by_cases e:∃ x∈a,key x=n;obtain⟨x,i,f⟩:=e;have g:b.filter (λx=>key x==n)=[]:=by rw[List.filter_eq_nil_iff];intro y d;have:=h x i y d;simp;omega
 rw[g];simp;have c:a.filter (λx=>key x==n)=[]:=by rw[List.filter_eq_nil_iff];intro y d f;exact e ⟨y,d,by simpa using f⟩
 rw[c];simp
def qea:{s t:List α}->cA key s->cA key t->bA key s t->s=t
 |[],t,_,_,h=>by
  cases t with
  |nil=>rfl
  |cons y t=>have:=(h.mem (x:=y)).1 (by simp);simp at this
 |x::s,[],_,_,h=>by have:=(h.mem (x:=x)).2 (by simp);simp at this
 |x::s,y::t,f,g,h=>by
  have a:=uca.1 f;have b:=uca.1 g;have i:key x<=key y:=by
   rcases uej.1 ((h.mem (x:=y)).1 (by simp))with e|e
   exact Int.le_of_eq (by rw[e]);exact a.1 y e
  have k:key y<=key x:=by
   rcases uej.1 ((h.mem (x:=x)).2 (by simp))with e|e
   exact Int.le_of_eq (by rw[e]);exact b.1 x e
  have d:key x=key y:=by omega
  have c:=h (key x);simp only[List.filter_cons,d,beq_self_eq_true,if_true,udr]at c;obtain⟨rfl,c⟩:=c;have:s=t:=qea a.2 b.2 λn=>by have:=h n;simp only[List.filter_cons]at this;split at this;simpa using this;exact this
  rw[this]
def uw(lt:α->α->Bool)(x:α):List α->List α
 |[]=>[x]
 |y::r=>if lt y x then y::uw lt x r else x::y::r
def dp(lt:α->α->Bool):List α->List α
 |[]=>[]
 |x::r=>uw lt x (dp lt r)
def WP{lt:α->α->Bool}{x:α}:(l:List α)->(uw lt x l).Perm (x::l)
 |[]=>List.Perm.refl _
 |y::r=>by simp only[uw];split;exact(List.Perm.cons y (WP r)).trans (List.Perm.swap x y r);exact List.Perm.refl _
def Pw{lt:α->α->Bool}:(l:List α)->(dp lt l).Perm l
 |[]=>List.Perm.refl _
 |x::r=>(WP _).trans (List.Perm.cons x (Pw r))
def oS{lt:α->α->Bool}(l:List α):(dp lt l).length=l.length:=(Pw l).length_eq
def zw{lt:α->α->Bool}{l:List α}{x:α}:x∈dp lt l↔x∈l:=(Pw l).mem_iff
def dY(lt:α->α->Bool)(key:α->Int)(l:List α):Prop:=∀ x∈l,∀ y∈l,lt x y=J (key x<key y)
def dY.sub{lt:α->α->Bool}{l s:List α}(h:dY lt key l)(a:∀ x∈s,x∈l):dY lt key s:=λx b y c=>h x (a x b) y (a y c)
def WQ{lt:α->α->Bool}{x:α}:{l:List α}->dY lt key (x::l)->cA key l->cA key (uw lt x l)/\bA key (x::l) (uw lt x l)
 |[],_,_=>⟨uay _ _,bA.refl _⟩
 |y::r,h,n=>by
  have d:=uca.1 n;have g:=h y (by simp) x (by simp);simp only[uw];split;rename_i e;rw[e]at g;have v:key y<key x:=by simpa using g.symm
  obtain⟨o,i⟩:=WQ (x:=x) (h.sub (by intro z c;simp at c |-;rcases c with rfl|c<;>simp[*])) d.2;refine⟨uca.2 ⟨λz c=>?_,o⟩,?_⟩;rcases uej.1 ((i.mem).1 c)with rfl|c
  omega;exact d.1 z c;have p:bA key ([x]++[y]) ([y]++[x]):=bA.swap λa k b m=>by simp at k m;subst k;subst m;omega
  have s:=p.app (bA.refl r);have t:=(bA.refl [y]).app i;exact s.trans t;rename_i e;have u:lt y x=false:=by simpa using e
  rw[u]at g;have f:key x<=key y:=by simpa using g.symm
  exact⟨uca.2 ⟨λz c=>by
   rcases uej.1 c with rfl|c
   exact f;exact ue5 f (d.1 z c),n⟩,bA.refl _⟩
def oT{lt:α->α->Bool}:{l:List α}->dY lt key l->cA key (dp lt l)/\bA key l (dp lt l)
 |[],_=>⟨List.Pairwise.nil,bA.refl _⟩
 |x::r,h=>by
  obtain⟨b,c⟩:=oT (l:=r) (h.sub (by intro z a;simp[a]));obtain⟨d,e⟩:=WQ (x:=x) (h.sub (by
   intro z a;rcases uej.1 a with rfl|a
   simp;simp[zw.1 a])) b
  exact⟨d,bA.trans (bA.app (bA.refl [x]) c) e⟩
def pL{lt:α->α->Bool}{l s:List α}(h:dY lt key l)(d:cA key s)(c:bA key l s):s=dp lt l:=by obtain⟨a,b⟩:=oT h;exact qea d a (c.symm.trans b)
def bP(lt:α->α->Bool)(a b:Nat)(l:List α):List α:=l.take a++(dp lt ((l.take b).drop a)++l.drop b)
def uS{lt:α->α->Bool}{a:Nat}{p s q:List α}(e:p.length=a)(f:(p++s).length=b):bP lt a b (p++(s++q))=p++(dp lt s++q):=by
 subst e f;have c:(p++(s++q)).take (p++s).length=p++s:=by rw[<- ucr];exact ud0 rfl
 have d:(p++(s++q)).drop (p++s).length=q:=by rw[<- ucr];exact ud1 rfl
 unfold bP;rw[c,d,ud0 rfl,ud1 rfl]
def Px{l:List α}{a:Nat}(c:a<=b)(e:b<=l.length):∃ p s q,l=p++(s++q)/\p.length=a/\s.length=b-a/\q.length=l.length-b:=
 ⟨l.take a,(l.take b).drop a,l.drop b,by
  have d:(l.take b).take a=l.take a:=by rw[ud9,udq c]
  rw[<- ucr,<- d,uba,uba],by simp;omega,by simp;omega,by simp⟩
def ie(l:List α)(d:α)(i j:Nat):List α:=(l.set i (l.getD j d)).set j (l.getD i d)
end
section
variable {α:Type} {key:α->Int} {d:α}
def Ge{p s q:List α}(h:i<s.length):(p++(s++q)).getD (p.length+i) d=s.getD i d:=by simp[uae,uaj h]
def qb9{p r q:List α}{x y:α}{j:Nat}(e:i=p.length)(f:j=p.length+1+r.length):ie (p++(x::(r++(y::q)))) d i j=p++(y::(r++(x::q))):=by
 subst e f;unfold ie;have a:(p++(x::(r++(y::q)))).getD (p.length+1+r.length) d=y:=by rw[show p++(x::(r++(y::q)))=(p++[x]++r)++(y::q) by simp];simp only[uah];rw[uae (by simp;omega)];simp[show p.length+1+r.length-(p.length+(r.length+1))=0 by omega]
 have b:(p++(x::(r++(y::q)))).getD p.length d=x:=by simp
 rw[a,b];have c:(p++(x::(r++(y::q)))).set p.length y=p++(y::(r++(y::q))):=by simp
 rw[c];rw[show p++(y::(r++(y::q)))=(p++[y]++r)++(y::q) by simp,List.set_append_right _ _ (by simp;omega)];simp[show p.length+1+r.length-(p.length+(r.length+1))=0 by omega]
def qca{p q:List α}{x y:α}(a:i=p.length):ie (p++(x::(y::q))) d i (i+1)=p++(y::(x::q)):=
 qb9 (r:=[]) a (by simp[a])
def zpl{l:List α}{j:Nat}(h:i≠j):ie l d j i=ie l d i j:=by unfold ie;rw[List.set_comm _ _ (by omega)]
def qcc{p q:List α}{x y:α}(a:i=p.length):ie (p++(x::(y::q))) d (i+1) i=p++(y::(x::q)):=by rw[zpl (by omega),qca a]
def gZ(lt:α->α->Bool)(d:α)(a:Nat):Nat->List α->List α
 |0,l=>l
 |j+1,l=>if a<j+1 then bif lt (l.getD (j+1) d) (l.getD j d)then gZ lt d a j (ie l d (j+1) j)else l else l
def om(lt:α->α->Bool)(d:α)(a:Nat):Nat->Nat->List α->List α
 |0,_,l=>l
 |n+1,i,l=>om lt d a n (i+1) (gZ lt d a i l)
def qbi(s:List α):s=[] \/ ∃ t y,s=t++[y]:=by
 cases h:s.reverse with
 |nil=>exact .inl (by simpa using h)
 |cons y t=>exact .inr ⟨t.reverse,y,by have:=ufu List.reverse h;simpa using this⟩
def WR{lt:α->α->Bool}{p:List α}{x:α}:(n:Nat)->(s q:List α)->s.length=n->dY lt key (s++[x])->cA key s ->
  ∃ t,gZ lt d p.length (p.length+n) (p++(s++(x::q)))=p++(t++q)/\cA key t/\bA key (s++[x]) t
 |0,s,q,l,_,_=>by
  obtain rfl:=uaz.1 l;refine⟨[x],?_,uay _ _,bA.refl _⟩;cases G:p.length with
  |zero=>simp[gZ]
  |succ j=>simp[gZ]
 |n+1,s,q,l,r,u=>by
  rcases qbi s with rfl|⟨c,y,rfl⟩
  simp at l;have e:c.length=n:=by simpa using l
  have g:=ubp.1 u;have m:p++((c++[y])++(x::q))=(p++c)++(y::(x::q)):=by simp
  have F:=r x (by simp) y (by simp);have A:(p++((c++[y])++(x::q))).getD (p.length+n+1) d=x:=by rw[m];simp only[uah];rw[uae (by simp;omega)];simp[e]
  have B:(p++((c++[y])++(x::q))).getD (p.length+n) d=y:=by rw[m];simp only[uah];simp[e]
  rw[show p.length+(n+1)=(p.length+n)+1 by omega];simp only[gZ,A,B];rw[ufw (by omega),F];by_cases k:key x<key y;simp only[k,cond_true];rw[m,qcc (by simp[e])];obtain⟨t,C,D,o⟩:=WR (x:=x) n c (y::q) e (r.sub (by intro z v;simp at v |-;rcases v with h|h<;>simp[h])) g.1;have w:(p++c)++(x::(y::q))=p++(c++(x::(y::q))):=by simp
  rw[w,C];refine⟨t++[y],by simp,?_,?_⟩;refine ubp.2 ⟨D,uay _ _,λa i b f=>?_⟩;simp at f;subst f;rcases udt.1 (o.mem.1 i)with h|h
  exact g.2.2 a h _ (by simp);simp at h;subst h;omega;have E:bA key ((c++[y])++[x]) (c++[x]++[y]):=by rw[ucr,ucr];exact(bA.refl c).app (bA.swap λa i b f=>by simp at i f;subst i f;omega)
  exact E.trans (o.app (bA.refl [y]));simp only[k,cond_false];refine⟨c++[y]++[x],by simp,?_,bA.refl _⟩;refine ubp.2 ⟨u,uay _ _,λa i b f=>?_⟩;simp at f;subst f;rcases udt.1 i with h|h
  have:=g.2.2 a h y (by simp);omega;simp at h;subst h;omega
def WT{lt:α->α->Bool}{p q:List α}:(u s:List α)->dY lt key (s++u)->cA key s->∃ t,om lt d p.length u.length (p.length+s.length) (p++(s++(u++q)))=p++(t++q)/\cA key t/\bA key (s++u) t
 |[],s,_,b=>⟨s,by simp[om],b,by simpa using bA.refl s⟩
 |x::u,s,f,b=>by
  obtain⟨t,c,i,e⟩:=WR (x:=x) s.length s (u++q) rfl (f.sub (by intro z a;simp at a |-;rcases a with h|h<;>simp[h])) b;have g:t.length=s.length+1:=by
   have:=ufu List.length c;have k:∀ (n:Nat) (l:List α),(gZ lt d p.length n l).length=l.length:=by
    intro n
    induction n with
    |zero=>intro l;rfl
    |succ n m=>intro l;simp only[gZ];split;cases lt (l.getD (n+1) d) (l.getD n d);rfl;simp[m,ie];rfl
   rw[k]at this;simp at this;omega
  obtain⟨w,o,r,v⟩:=WT u t (f.sub (by
   intro z a;rcases udt.1 a with h|h
   have:=e.mem.1 h;simp at this |-;rcases this with h|h<;>simp[h]
   simp[h])) i
  refine⟨w,?_,r,?_⟩;simp only[uc9,om,uc4];rw[c,show p.length+s.length+1=p.length+t.length by omega];exact o;have:s++x::u=(s++[x])++u:=by simp
  rw[this];exact(e.app (bA.refl u)).trans v
def qz7{lt:α->α->Bool}{a:Nat}{l:List α}(f:a<=b)(n:b<=l.length)(o:dY lt key l):om lt d a (b-(a+1)) (a+1) l=bP lt a b l:=by
 obtain⟨p,s,q,rfl,r,h,_⟩:=Px f n;subst r;cases s with
 |nil=>
  have:b=p.length:=by simp at h;omega
  subst this;rw[uS rfl (by simp)];simp[om,dp]
 |cons x u=>
  simp at h;have g:b=p.length+(1+u.length):=by omega
  subst g;rw[uS rfl (by simp;omega)];have c:=o.sub λz v=>ua6 _ (ubk _ v);obtain⟨t,i,k,m⟩:=WT (d:=d) u [x] (by simpa using c) (uay _ _);have e:=pL c k (by simpa using m);subst e;rw[<- i];simp[show p.length+(1+u.length)-(p.length+1)=u.length by omega]
def qx(d:α):Nat->Nat->List α->List α
 |0,_,l=>l
 |n+1,k,l=>qx d n (k+1) (ie l d k (k+1))
def pJ(d:α):Nat->Nat->List α->List α
 |0,_,l=>l
 |n+1,k,l=>pJ d n (k-1) (ie l d k (k-1))
def qdk{x:α}:(s p q:List α)->qx d s.length p.length (p++(x::(s++q)))=p++(s++(x::q))
 |[],p,q=>by simp[qx]
 |y::s,p,q=>by simp only[uc9,qx,uc4];rw[qca rfl];have:=qdk (x:=x) s (p++[y]) q;simpa using this
def TW{x:α}:(n:Nat)->(s p q:List α)->s.length=n->pJ d n (p.length+n) (p++(s++(x::q)))=p++(x::(s++q))
 |0,s,p,q,h=>by obtain rfl:=uaz.1 h;simp[pJ]
 |n+1,s,p,q,h=>by
  rcases qbi s with rfl|⟨a,y,rfl⟩
  simp at h;have b:a.length=n:=by simpa using h
  rw[show p.length+(n+1)=(p.length+n)+1 by omega];simp only[pJ,ub0];have c:p++((a++[y])++(x::q))=(p++a)++(y::(x::q)):=by simp
  rw[c,qcc (by simp[b])];have:=TW (x:=x) n a p (y::q) b;simpa using this
def fZ(d:α):Nat->Nat->Nat->List α->List α
 |0,_,_,l=>l
 |n+1,a,b,l=>fZ d n (a+1) (b+1) (ie l d a b)
def Im:(x z y p q:List α)->x.length=z.length->∀ {b:Nat},b=p.length+x.length+y.length->fZ d x.length p.length b (p++(x++(y++(z++q))))=p++(z++(y++(x++q)))
 |[],z,y,p,q,h,b,a=>by obtain rfl:=uaz.1 h.symm;simp[fZ]
 |u::x,[],y,p,q,h,b,a=>by simp at h
 |u::x,v::z,y,p,q,h,b,a=>by
  simp only[uc9,fZ,uc4];have c:p++(u::(x++(y++(v::(z++q)))))=p++(u::((x++y)++(v::(z++q)))):=by simp
  rw[c,qb9 rfl (by simp at a |-;omega)];have:=Im x z (y++[u]) (p++[v]) q (by simpa using h) (b:=b+1) (by simp at a |-;omega);simpa using this
def eW(d:α)(m:Nat):Nat->Nat->Nat->List α->Nat×List α
 |0,i,_,l=>(i,l)
 |f+1,i,j,l=>if i=j then (i,l)else if i>j then eW d m f (i-j) j (fZ d j (m-i) m l)else eW d m f i (j-i) (fZ d i (m-i) (m+j-i) l)
def sg(d:α)(a m b:Nat)(l:List α):List α:=let r:=eW d m (b-a) (m-a) (b-m) l;fZ d r.1 (m-r.1) m r.2
def OW{m:Nat}:(f:Nat)->(x y p q:List α)->x.length+y.length<=f->0<x.length->0<y.length->m=p.length+x.length ->
  fZ d (eW d m f x.length y.length (p++(x++(y++q)))).1 (m-(eW d m f x.length y.length (p++(x++(y++q)))).1) m (eW d m f x.length y.length (p++(x++(y++q)))).2=p++(y++(x++q))
 |0,x,y,p,q,h,t,_,_=>by omega
 |f+1,x,y,p,q,h,t,u,s=>by
  simp only[eW];split;rename_i v;subst s;have:=Im (d:=d) x y [] p q v (b:=p.length+x.length) (by simp);simpa using this;split;rename_i l k;obtain⟨a,c,rfl,n⟩:∃ a c,x=a++c/\a.length=y.length:=⟨x.take y.length,x.drop y.length,by simp,by simp;omega⟩;simp only[ub6]at s h k t |-;have e:=Im (d:=d) a y c p q n (b:=m) (by omega);have r:m-(a.length+c.length)=p.length:=by omega
  rw[r,<- n];rw[show p++(a++c++(y++q))=p++(a++(c++(y++q))) by simp,e];have:=OW (m:=m) f c a (p++y) q (by omega) (by omega) (by omega) (by simp;omega);rw[show a.length+c.length-a.length=c.length by omega];simpa using this;rename_i l k;obtain⟨g,i,rfl,o⟩:∃ g i,y=g++i/\i.length=x.length:=⟨y.take (y.length-x.length),y.drop (y.length-x.length),by simp,by simp;omega⟩;simp only[ub6]at s h k u l |-;have e:=Im (d:=d) x i g p q o.symm (b:=m+(g.length+i.length)-x.length) (by omega);have r:m-x.length=p.length:=by omega
  rw[r];rw[show p++(x++(g++i++q))=p++(x++(g++(i++q))) by simp,e];have:=OW (m:=m) f i g p (x++q) (by omega) (by omega) (by omega) (by omega);rw[show g.length+i.length-x.length=g.length by omega,<- o];simpa using this
def qad{a:Nat}{x y p q:List α}(c:0<x.length)(e:0<y.length)(f:a=p.length)(h:m=a+x.length)(g:b=m+y.length):sg d a m b (p++(x++(y++q)))=p++(y++(x++q)):=by have:=OW (d:=d) (m:=m) (b-a) x y p q (by omega) c e (by omega);unfold sg;rw[show m-a=x.length by omega,show b-m=y.length by omega];exact this
def cM(Q:Nat->Bool):Nat->Nat->Nat->Nat
 |0,i,_=>i
 |f+1,i,j=>if i<j then bif Q ((i+j)/2)then cM Q f ((i+j)/2+1) j else cM Q f i ((i+j)/2)else i
def Ax{Q:Nat->Bool}:(f i j:Nat)->j-i<=f->i<=j->(∀ u v,i<=u->u<=v->v<j->Q v=Z->Q u=Z) ->
  i<=cM Q f i j/\cM Q f i j<=j/\(∀ k,i<=k->k<cM Q f i j->Q k=Z)/\(∀ k,cM Q f i j<=k->k<j->Q k=Y)
 |0,i,j,h,d,_=>by simp only[cM];exact⟨ufb _,d,λk b c=>by omega,λk b c=>by omega⟩
 |f+1,i,j,h,d,a=>by
  simp only[cM];by_cases g:i<j;rw[ufw g];cases o:Q ((i+j)/2)with
  |true=>simp only[cond_true];obtain⟨r,s,l,m⟩:=Ax (Q:=Q) f ((i+j)/2+1) j (by omega) (by omega) (λu v t e w=>a u v (by omega) e w);refine⟨by omega,s,λk b c=>?_,m⟩;by_cases n:k<=(i+j)/2;exact a k _ b n (by omega) o;exact l k (by omega) c
  |false=>
   simp only[cond_false];obtain⟨r,s,l,m⟩:=Ax (Q:=Q) f i ((i+j)/2) (by omega) (by omega) (λu v t e w=>a u v t e (by omega));refine⟨r,by omega,l,λk b c=>?_⟩;by_cases n:k<(i+j)/2;exact m k b n;cases p:Q k with
   |false=>rfl
   |true=>rw[a _ k (by omega) (by omega) c p]at o;cases o
  rw[ufx g];exact⟨ufb _,d,λk b c=>by omega,λk b c=>by omega⟩
end
section
variable {α:Type} {key:α->Int} {d:α}
def bz(a b:Nat)(l:List α):List α:=(l.take b).drop a
def vE{p s q:List α}{a:Nat}(d:p.length=a)(e:a+s.length=b):bz a b (p++(s++q))=s:=by
 subst d e;unfold bz;have c:(p++(s++q)).take (p.length+s.length)=p++s:=by rw[<- ucr];exact ud0 (by simp)
 rw[c,ud1 rfl]
def qa8{l:List α}{a:Nat}(f:a<=m)(g:m<=b)(h:b<=l.length):∃ p q,l=p++(bz a m l++(bz m b l++q))/\p.length=a/\(bz a m l).length=m-a/\(bz m b l).length=b-m/\q.length=l.length-b:=by
 obtain⟨p,s,q,rfl,c,i,o⟩:=Px (uep f g) h;obtain⟨x,y,rfl,k⟩:∃ x y,s=x++y/\x.length=m-a:=⟨s.take (m-a),s.drop (m-a),by simp,by simp;omega⟩;have n:y.length=b-m:=by simp at i;omega
 have d:bz a m (p++(x++y++q))=x:=by rw[ucr];exact vE c (by omega)
 have e:bz m b (p++(x++y++q))=y:=by rw[show p++(x++y++q)=(p++x)++(y++q) by simp];exact vE (by simp;omega) (by omega)
 rw[d,e];exact⟨p,q,by simp,c,k,n,by omega⟩
def uU{lt:α->α->Bool}{a:Nat}{l:List α}(c:a<=b)(d:b<=l.length):(bP lt a b l).length=l.length:=by unfold bP;simp[oS];omega
def qbj{lt:α->α->Bool}{l:List α}(h:dY lt key l)(a:cA key l):dp lt l=l:=(pL h a (bA.refl l)).symm
def O0{lt:α->α->Bool}{a:Nat}{l:List α}(c:a<=b)(d:b<=l.length)(e:dY lt key l):bA key l (bP lt a b l):=by obtain⟨p,s,q,rfl,f,i,_⟩:=Px c d;rw[uS f (by simp;omega)];have h:=(oT (l:=s) (e.sub λz g=>ua6 _ (ubk _ g))).2;exact(bA.refl p).app (h.app (bA.refl q))
def eL(lt:α->α->Bool)(d:α)(a m b:Nat)(l:List α):Nat:=
 cM (λc=>!lt (l.getD ((a+b)/2+m-1-c) d) (l.getD c d)) ((if (a+b)/2<m then (a+b)/2 else m)-(if (a+b)/2<m then (a+b)/2+m-b else a)) (if (a+b)/2<m then (a+b)/2+m-b else a) (if (a+b)/2<m then (a+b)/2 else m)
def dE(d:α)(m b a:Nat)(l:List α):List α:=if b<m/\m<a then sg d b m a l else l
def sx(lt:α->α->Bool)(d:α)(a m b:Nat)(l:List α):List α:=
 if m-a=1 then qx d (cM (λh=>lt (l.getD h d) (l.getD a d)) (b-m) m b-1-a) a l
 else if b-m=1 then pJ d (m-cM (λh=>!lt (l.getD m d) (l.getD h d)) (m-a) a m) m l
 else
  let c:=eL lt d a m b l
  let bc:=(a+b)/2
  let e:=bc+m-c
  let f:=dE d m c e l
  let g:=if a<c/\c<bc then bP lt a bc f else f
  if bc<e/\e<b then bP lt bc b g else g
def rH{l:List α}{j:Nat}(c:cA key l)(b:i<=j)(a:j<l.length):key (l.getD i d)<=key (l.getD j d):=by
 rcases ueq i j with h|h
 have:=uan.1 c i j (by omega) a h;simpa[uah,uaq a,uaq (show i<l.length by omega)]using this;have:i=j:=by omega
 subst this;exact ufc _
def eT{l:List α}(h:i<l.length):l.getD i d∈l:=by simp[uah,uaq h]
def ru{l:List α}{x:α}(h:x∈l):∃ i,i<l.length/\l.getD i d=x:=by obtain⟨i,a,rfl⟩:=List.getElem_of_mem h;exact⟨i,a,by simp[uah,uaq a]⟩
def qch{lt:α->α->Bool}{a:Nat}{p A B q:List α}(hp:p.length=a)(hA:A.length=m-a)(hB:B.length=b-m)(h1:a<m)(h2:m<b)(hl:dY lt key (A++B))(F:cA key A)(G:cA key B):
  ∃ w H z K,A=w++H/\B=z++K/\a+w.length=eL lt d a m b (p++(A++(B++q)))/\m+z.length+eL lt d a m b (p++(A++(B++q)))=(a+b)/2+m /\
   (∀ x∈w,∀ y∈K,key x<=key y)/\(∀ y∈z,∀ x∈H,key y<key x):=by
 have N:∀ i,i<A.length->(p++(A++(B++q))).getD (a+i) d=A.getD i d:=λi k=>by rw[<- hp];exact Ge k
 have O:∀ i,i<B.length->(p++(A++(B++q))).getD (m+i) d=B.getD i d:=λi k=>by rw[show p++(A++(B++q))=(p++A)++(B++q) by simp,show m=(p++A).length by simp;omega];exact Ge k
 generalize hL:p++(A++(B++q))=L at N O |-;have t:∀ c,a<=c->c<m->m<=(a+b)/2+m-1-c->(a+b)/2+m-1-c<b ->
   (!lt (L.getD ((a+b)/2+m-1-c) d) (L.getD c d))=J (key (A.getD (c-a) d)<=key (B.getD ((a+b)/2+m-1-c-m) d)):=λc c1 M c3 c4=>by
  have l:=N (c-a) (by omega);have n:=O ((a+b)/2+m-1-c-m) (by omega);rw[show a+(c-a)=c by omega]at l;rw[show m+((a+b)/2+m-1-c-m)=(a+b)/2+m-1-c by omega]at n;rw[l,n,hl _ (ua6 _ (eT (by omega))) _ (ubk _ (eT (by omega)))];rw[udy];simp
 generalize s:(if (a+b)/2<m then (a+b)/2+m-b else a)=g;generalize r:(if (a+b)/2<m then (a+b)/2 else m)=f;have W:a<=g/\g<=f/\f<=m/\f<=(a+b)/2/\(a+b)/2+m<=b+g/\(g=a\/g+b=(a+b)/2+m)/\(f=m\/f=(a+b)/2):=by subst s r;split<;>omega
 obtain⟨c1,M,c3,c4,c5,c6,c7⟩:=W;obtain⟨r1,r2,S,T⟩:=Ax (Q:=λc=>!lt (L.getD ((a+b)/2+m-1-c) d) (L.getD c d)) (f-g) g f (ufb _) M (λu v hu huv hv h=>by rw[t v (by omega) (by omega) (by omega) (by omega)]at h;rw[t u (by omega) (by omega) (by omega) (by omega)];simp only[ucu]at h |-;have P:=rH (d:=d) F (i:=u-a) (j:=v-a) (by omega) (by omega);have R:=rH (d:=d) G (i:=(a+b)/2+m-1-v-m) (j:=(a+b)/2+m-1-u-m) (by omega) (by omega);omega)
 have hS:eL lt d a m b L=cM (λc=>!lt (L.getD ((a+b)/2+m-1-c) d) (L.getD c d)) (f-g) g f:=by unfold eL;rw[s,r]
 rw[hS];generalize cM (λc=>!lt (L.getD ((a+b)/2+m-1-c) d) (L.getD c d)) (f-g) g f=e at r1 r2 S T |-;refine⟨A.take (e-a),A.drop (e-a),B.take ((a+b)/2-e),B.drop ((a+b)/2-e),by simp,by simp,?_,?_,?_,?_⟩;simp;omega;simp;omega;intro x D y E;obtain⟨i,k,rfl⟩:=ru (d:=d) D;obtain⟨j,C,rfl⟩:=ru (d:=d) E;simp at k C;have l:(A.take (e-a)).getD i d=A.getD i d:=by simp[uah,show i<e-a by omega]
 have n:(B.drop ((a+b)/2-e)).getD j d=B.getD ((a+b)/2-e+j) d:=by simp[uah]
 rw[l,n];have o:=S (e-1) (by omega) (by omega);rw[t (e-1) (by omega) (by omega) (by omega) (by omega)]at o;simp only[ucu]at o;have P:=rH (d:=d) F (i:=i) (j:=e-1-a) (by omega) (by omega);have R:=rH (d:=d) G (i:=(a+b)/2+m-1-(e-1)-m) (j:=(a+b)/2-e+j) (by omega) (by omega);omega;intro y E x D;obtain⟨i,k,rfl⟩:=ru (d:=d) D;obtain⟨j,C,rfl⟩:=ru (d:=d) E;simp at k C;have l:(A.drop (e-a)).getD i d=A.getD (e-a+i) d:=by simp[uah]
 have n:(B.take ((a+b)/2-e)).getD j d=B.getD j d:=by simp[uah,show j<(a+b)/2-e by omega]
 rw[l,n];have o:=T e (ufb _) (by omega);rw[t e (by omega) (by omega) (by omega) (by omega)]at o;simp only[uav]at o;have P:=rH (d:=d) F (i:=e-a) (j:=e-a+i) (by omega) (by omega);have R:=rH (d:=d) G (i:=j) (j:=(a+b)/2+m-1-e-m) (by omega) (by omega);omega
def zob{lt:α->α->Bool}{a c d b:List α}(k:dY lt key ((a++c)++(d++b)))(B:cA key (a++c))(C:cA key (d++b))(o:∀ x∈a,∀ y∈b,key x<=key y)(l:∀ y∈d,∀ x∈c,key y<key x):
  dp lt (a++d)++dp lt (c++b)=dp lt ((a++c)++(d++b)):=by
 have s:dY lt key (a++d):=k.sub λz g=>by simp at g |-;rcases g with h|h<;>simp[h]
 have t:dY lt key (c++b):=k.sub λz g=>by simp at g |-;rcases g with h|h<;>simp[h]
 obtain⟨w,p⟩:=oT s;obtain⟨A,r⟩:=oT t;have u:=ubp.1 B;have v:=ubp.1 C;refine pL k (ubp.2 ⟨w,A,λx e y f=>?_⟩) ?_;rw[zw]at e f;rcases udt.1 e with e|e<;>rcases udt.1 f with f|f
 exact u.2.2 x e y f;exact o x e y f;exact ueu (l x e y f);exact v.2.2 x e y f;have m:bA key (a++(c++d)++b) (a++(d++c)++b):=((bA.refl a).app (bA.swap λx e y f=>by have:=l y f x e;omega)).app (bA.refl b);have n:=p.app r;have i:bA key ((a++c)++(d++b)) ((a++d)++(c++b)):=by simpa using m
 exact i.trans n
def zps{lt:α->α->Bool}{a:Nat}{p A B q:List α}(P:p.length=a)(K:A.length=m-a)(L:B.length=b-m)(h1:a<m)(h2:m<b)(w:dY lt key (A++B))(W:cA key A)(sB:cA key B):sx lt d a m b (p++(A++(B++q)))=p++(dp lt (A++B)++q):=by
 unfold sx;split
 rename_i hm;cases A with
 |nil=>simp at K;omega
 |cons x A=>
  obtain rfl:A=[]:=by simp at K;exact uaz.1 (by omega)
  have gx:(p++([x]++(B++q))).getD a d=x:=by subst P;simp[uah]
  have gB:∀ i,i<B.length->(p++([x]++(B++q))).getD (m+i) d=B.getD i d:=λi hi=>by rw[show p++([x]++(B++q))=(p++[x])++(B++q) by simp,show m=(p++[x]).length by simp;omega];exact Ge hi
  have t:∀ k,m<=k->k<b->lt ((p++([x]++(B++q))).getD k d) ((p++([x]++(B++q))).getD a d)=J (key (B.getD (k-m) d)<key x):=λk k1 k2=>by have:=gB (k-m) (by omega);rw[show m+(k-m)=k by omega]at this;rw[this,gx];exact w _ (ua6 _ (eT (by omega))) _ (by simp)
  obtain⟨r1,r2,S,T⟩:=Ax (Q:=λh=>lt ((p++([x]++(B++q))).getD h d) ((p++([x]++(B++q))).getD a d)) (b-m) m b (ufb _) (by omega) (λu v C huv hv h=>by rw[t v (by omega) hv]at h;rw[t u C (by omega)];simp only[ucu]at h |-;have:=rH (d:=d) sB (i:=u-m) (j:=v-m) (by omega) (by omega);omega)
  generalize cM (λh=>lt ((p++([x]++(B++q))).getD h d) ((p++([x]++(B++q))).getD a d)) (b-m) m b=r at r1 r2 S T |-;obtain⟨c,g,rfl,hB1⟩:∃ c g,B=c++g/\c.length=r-m:=⟨B.take (r-m),B.drop (r-m),by simp,by simp;omega⟩;have hB':c.length+g.length=b-m:=by simpa using L
  have E:∀ y∈c,key y<key x:=λy l=>by
   obtain⟨j,O,rfl⟩:=ru (d:=d) l;have:=S (m+j) (by omega) (by omega);rw[t (m+j) (by omega) (by omega)]at this;simp only[ucu,uax]at this
   rwa [show(c++g).getD j d=c.getD j d by simp[uah,uaj O]]at this
  have F:∀ y∈g,key x<=key y:=λy l=>by
   obtain⟨j,O,rfl⟩:=ru (d:=d) l;have:=T (r+j) (by omega) (by omega);rw[t (r+j) (by omega) (by omega)]at this;simp only[uav]at this;rw[show(c++g).getD (r+j-m) d=g.getD j d by simp only[uah];rw[uae (by omega),show r+j-m-c.length=j by omega]]at this
   omega
  rw[show r-1-a=c.length by omega];have R:=qdk (d:=d) (x:=x) c p (g++q);rw[P]at R;have e0:p++([x]++(c++g++q))=p++(x::(c++(g++q))):=by simp
  rw[e0,R];have H:=ubp.1 sB;have hS:c++(x::g)=dp lt ([x]++(c++g)):=by
   refine pL w (ubp.2 ⟨H.1,uca.2 ⟨λy l=>F y l,H.2.1⟩,λy l z n=>?_⟩) ?_;rcases uej.1 n with rfl|n
   exact ueu (E y l);exact H.2.2 y l z n;have D:bA key (([x]++c)++g) ((c++[x])++g):=(bA.swap λu C y l=>by simp at C;subst C;have:=E y l;omega).app (bA.refl g);simpa using D
  rw[<- hS];simp
 split
 rename_i _ hm;cases B with
 |nil=>simp at L;omega
 |cons x B=>
  obtain rfl:B=[]:=by simp at L;exact uaz.1 (by omega)
  have gx:(p++(A++([x]++q))).getD m d=x:=by rw[show p++(A++([x]++q))=(p++A)++(x::q) by simp,show m=(p++A).length by simp;omega];simp only[uah];rw[uae (ufb _)];simp
  have gA:∀ i,i<A.length->(p++(A++([x]++q))).getD (a+i) d=A.getD i d:=λi hi=>by rw[<- P];exact Ge hi
  have t:∀ k,a<=k->k<m->(!lt ((p++(A++([x]++q))).getD m d) ((p++(A++([x]++q))).getD k d))=J (key (A.getD (k-a) d)<=key x):=λk k1 k2=>by have:=gA (k-a) (by omega);rw[show a+(k-a)=k by omega]at this;rw[this,gx,w _ (ua6 _ (by simp)) _ (ubk _ (eT (by omega))),udy];simp
  obtain⟨r1,r2,S,T⟩:=Ax (Q:=λh=>!lt ((p++(A++([x]++q))).getD m d) ((p++(A++([x]++q))).getD h d)) (m-a) a m (ufb _) (by omega) (λu v C huv hv h=>by rw[t v (by omega) hv]at h;rw[t u C (by omega)];simp only[ucu]at h |-;have:=rH (d:=d) W (i:=u-a) (j:=v-a) (by omega) (by omega);omega)
  generalize cM (λh=>!lt ((p++(A++([x]++q))).getD m d) ((p++(A++([x]++q))).getD h d)) (m-a) a m=r at r1 r2 S T |-;obtain⟨e,f,rfl,hA1⟩:∃ e f,A=e++f/\e.length=r-a:=⟨A.take (r-a),A.drop (r-a),by simp,by simp;omega⟩;have hA':e.length+f.length=m-a:=by simpa using K
  have E:∀ y∈e,key y<=key x:=λy l=>by
   obtain⟨j,O,rfl⟩:=ru (d:=d) l;have:=S (a+j) (by omega) (by omega);rw[t (a+j) (by omega) (by omega)]at this;simp only[ucu,uax]at this
   rwa [show(e++f).getD j d=e.getD j d by simp[uah,uaj O]]at this
  have F:∀ y∈f,key x<key y:=λy l=>by
   obtain⟨j,O,rfl⟩:=ru (d:=d) l;have:=T (r+j) (by omega) (by omega);rw[t (r+j) (by omega) (by omega)]at this;simp only[uav]at this;rw[show(e++f).getD (r+j-a) d=f.getD j d by simp only[uah];rw[uae (by omega),show r+j-a-e.length=j by omega]]at this
   omega
  have N:=TW (d:=d) (x:=x) f.length f (p++e) q rfl;have e0:p++(e++f++([x]++q))=(p++e)++(f++(x::q)):=by simp
  have D:m=(p++e).length+f.length:=by simp;omega
  rw[e0,show m-r=f.length by omega];rw[<- D]at N;rw[N];have G:=ubp.1 W;have hS:e++(x::f)=dp lt ((e++f)++[x]):=by
   refine pL w (ubp.2 ⟨G.1,uca.2 ⟨λy l=>ueu (F y l),G.2.1⟩,λy l z n=>?_⟩) ?_;rcases uej.1 n with rfl|n
   exact E y l;exact G.2.2 y l z n;have D:bA key (e++(f++[x])) (e++([x]++f)):=(bA.refl e).app (bA.swap λu C y l=>by simp at l;subst l;have:=F u C;omega);simpa using D
  rw[<- hS];simp
 obtain⟨e,f,c,g,rfl,rfl,D,e2,E,F⟩:=qch (d:=d) (q:=q) P K L h1 h2 w W sB;simp only;generalize eL lt d a m b (p++(e++f++(c++g++q)))=st at D e2 |-;simp only[ub6]at K L;have hen:(a+b)/2+m-st=m+c.length:=by omega
 rw[hen];have hR:dE d m st (m+c.length) (p++(e++f++(c++g++q)))=p++(e++c++(f++g++q)):=by unfold dE;split;rename_i hc;have:=qad (d:=d) (a:=st) (m:=m) (b:=m+c.length) (x:=f) (y:=c) (p:=p++e) (q:=g++q) (by omega) (by omega) (by simp;omega) (by omega) rfl;simpa using this;rename_i hc;by_cases M:c=[];subst M;simp;have:=ubz.2 M;have:f=[]:=uaz.1 (by omega);subst this;simp
 rw[hR];have l1:dY lt key (e++c):=w.sub λz n=>by simp at n |-;rcases n with h|h<;>simp[h]
 have l2:dY lt key (f++g):=w.sub λz n=>by simp at n |-;rcases n with h|h<;>simp[h]
 have G:=ubp.1 W;have H:=ubp.1 sB;have hmid:(a+b)/2=a+(e.length+c.length):=by omega
 have hL:(if a<st/\st<(a+b)/2 then bP lt a ((a+b)/2) (p++(e++c++(f++g++q)))else p++(e++c++(f++g++q)))=p++(dp lt (e++c)++(f++g++q)):=by
  split;exact uS P (by simp;omega);rename_i hc;have:dp lt (e++c)=e++c:=by refine qbj l1 ?_;by_cases o:e=[];subst o;simpa[cA]using H.1;have:=ubz.2 o;have:c=[]:=uaz.1 (by omega);subst this;simpa[cA]using G.1
  rw[this]
 rw[hL];have hRt:(if (a+b)/2<m+c.length/\m+c.length<b then bP lt ((a+b)/2) b (p++(dp lt (e++c)++(f++g++q)))else p++(dp lt (e++c)++(f++g++q)))=p++(dp lt (e++c)++(dp lt (f++g)++q)):=by
  split;have:=uS (lt:=lt) (a:=(a+b)/2) (b:=b) (p:=p++dp lt (e++c)) (s:=f++g) (q:=q) (by simp[oS];omega) (by simp[oS];omega);simpa using this;rename_i hc;have:dp lt (f++g)=f++g:=by refine qbj l2 ?_;by_cases o:f=[];subst o;simpa[cA]using H.2.1;have:=ubz.2 o;have:g=[]:=uaz.1 (by omega);subst this;simpa[cA]using G.2.1
  rw[this]
 rw[hRt,<- zob w W sB E F];simp
end
section
variable {α:Type} {key:α->Int}
def qa5{lt:α->α->Bool}{a d c:Nat}{l:List α}(e:c<=a)(f:a<=l.length):bz d c (bP lt a b l)=bz d c l:=by unfold bz bP;rw[List.take_append_of_le_length (by simp;omega),ud9,udq e]
def qa6{a:Nat}{l:List α}:(bz a b l).length=min b l.length-a:=by simp[bz]
def qa7{lt:α->α->Bool}{a:Nat}{l:List α}(c:a<=b)(d:b<=l.length):bz a b (bP lt a b l)=dp lt (bz a b l):=by unfold bP;exact vE (by simp;omega) (by rw[oS];simp;omega)
def TY{lt:α->α->Bool}{a:Nat}{l:List α}(h1:a<=b)(h2:b<=l.length)(h3:b<=c):(bP lt a b l).drop c=l.drop c:=by
 unfold bP;rw[<- ucr,List.drop_append,ua2 (by simp[oS];omega)];simp[oS];congr 1;omega
def HD{a:Nat}{l s:List α}(h:l.drop c=s.drop c)(d:c<=a):bz a b l=bz a b s:=by
 unfold bz;rw[List.drop_take,List.drop_take];have:∀ t:List α,t.drop a=(t.drop c).drop (a-c):=λt=>by rw[List.drop_drop];congr 1;omega
 rw[this l,this s,h]
def Aa(a:α->Int)(w:Nat)(l:List α):Prop:=∀ k,cA a (bz (k*w) (k*w+w) l)
def fx(lt:α->α->Bool)(w n:Nat):Nat->Nat->List α->Nat×List α
 |0,a,l=>(a,l)
 |f+1,a,l=>if a+w<=n then fx lt w n f (a+w) (bP lt a (a+w) l)else (a,l)
structure BlkW (key:α->Int) (w n:Nat) (l:List α) (r:Nat×List α):Prop where
 mul:∃ c,r.1=c*w
 le:r.1<=n
 lt:n<r.1+w
 len:r.2.length=n
 same:bA key l r.2
 drop:r.2.drop r.1=l.drop r.1
 done:∀ k,k*w+w<=r.1->cA key (bz (k*w) (k*w+w) r.2)
def Av{lt:α->α->Bool}{w:Nat}(y:0<w):(f a:Nat)->(l:List α)->n<f+a->a<=n->l.length=n->(∃ c,a=c*w)->dY lt key l->(∀ k,k*w+w<=a->cA key (bz (k*w) (k*w+w) l)) ->
  BlkW key w n l (fx lt w n f a l)
 |0,a,l,h,s,_,_,_,_=>by omega
 |f+1,a,l,h,s,v,⟨c,i⟩,m,t=>by
  simp only[fx];split;rename_i o;have d:=O0 (key:=key) (lt:=lt) (a:=a) (b:=a+w) (by omega) (by omega) m;have e:cA key (bz a (a+w) (bP lt a (a+w) l)):=by rw[qa7 (by omega) (by omega)];refine(oT (m.sub λz p=>?_)).1;exact ubq (ubr p)
  have r:=Av y f (a+w) (bP lt a (a+w) l) (by omega) o (by rw[uU (by omega) (by omega)];exact v) ⟨c+1,by rw[i,uex]⟩ (m.sub λz p=>d.mem.1 p) (λk u=>by
   rcases uct k c with h|h|h
   have g:(k+1)*w<=c*w:=ube _ h;rw[uex]at g;rw[qa5 (by omega) (by omega)];exact t k (by omega);subst h;rw[<- i];exact e;have g:(c+1)*w<=k*w:=ube _ h;rw[uex]at g;omega)
  refine⟨r.mul,r.le,r.lt,r.len,d.trans r.same,?_,r.done⟩;rw[r.drop];obtain⟨B,x⟩:=r.mul;have:a+w<=(fx lt w n f (a+w) (bP lt a (a+w) l)).1:=by
   have:∀ (f a:Nat) (l:List α),a<=(fx lt w n f a l).1:=by
    intro f
    induction f with
    |zero=>intro a l;exact ufb _
    |succ f A=>intro a l;simp only[fx];split;exact uep (by omega) (A _ _);exact ufb _
   exact this _ _ _
  exact TY (by omega) (by omega) this;exact⟨⟨c,i⟩,s,by omega,v,bA.refl _,rfl,λk u=>t k u⟩
def BlkW.last{lt:α->α->Bool}{w:Nat}{l:List α}{r:Nat×List α}(h:BlkW key w n l r)(m:dY lt key l):Aa key w (bP lt r.1 n r.2)/\bA key l (bP lt r.1 n r.2)/\(bP lt r.1 n r.2).length=n:=by
 have a:=h.len;have d:=m.sub λz g=>h.same.mem.1 g;refine⟨λk=>?_,h.same.trans (O0 h.le (by omega) d),by rw[uU h.le (by omega)];exact a⟩;obtain⟨c,i⟩:=h.mul;have o:=h.le;have p:=h.lt;rcases uct k c with b|b|b
 have f:(k+1)*w<=c*w:=ube _ b;rw[uex]at f;rw[qa5 (by omega) (by omega)];exact h.done k (by omega);subst b;rw[<- i];have:bz r.1 (r.1+w) (bP lt r.1 n r.2)=bz r.1 n (bP lt r.1 n r.2):=by have e:=uU (lt:=lt) h.le (Nat.le_of_eq a.symm);unfold bz;rw[ua3 (by omega),ua3 (by omega)]
 rw[this,qa7 h.le (by omega)];exact(oT (d.sub λz g=>ubq (ubr g))).1;have f:(c+1)*w<=k*w:=ube _ b;rw[uex]at f;have:bz (k*w) (k*w+w) (bP lt r.1 n r.2)=[]:=by have e:=uU (lt:=lt) h.le (Nat.le_of_eq a.symm);apply uab;rw[qa6];omega
 rw[this];exact List.Pairwise.nil
def nk(lt:α->α->Bool)(w n:Nat)(l:List α):List α:=
 let r:=fx lt (2*w) n (n+1) 0 l
 if r.1+w<n then bP lt r.1 n r.2 else r.2
def Zr{lt:α->α->Bool}{w:Nat}{l:List α}(p:0<w)(m:l.length=n)(e:dY lt key l)(h:Aa key w l):
  Aa key (2*w) (nk lt w n l)/\bA key l (nk lt w n l)/\(nk lt w n l).length=n:=by
 have r:=Av (w:=2*w) (by omega) (n+1) 0 l (by omega) (by omega) m ⟨0,by simp⟩ e (λk a=>by omega);unfold nk;generalize fx lt (2*w) n (n+1) 0 l=d at r |-;simp only;split;exact r.last e;rename_i o;refine⟨λk=>?_,r.same,r.len⟩;obtain⟨c,i⟩:=r.mul;have f:=r.len;rcases uct k c with a|a|a
 have b:(k+1)*(2*w)<=c*(2*w):=ube _ a;rw[uex]at b;exact r.done k (by omega);subst a;have b:k*(2*w)=(2*k)*w:=by rw[uew 2 k,ueo]
 have g:bz (k*(2*w)) (k*(2*w)+2*w) d.2=bz ((2*k)*w) ((2*k)*w+w) d.2:=by rw[<- b];unfold bz;rw[ua3 (by omega),ua3 (by omega)]
 rw[g,HD r.drop (by omega)];exact h (2*k);have b:(c+1)*(2*w)<=k*(2*w):=ube _ a;rw[uex]at b;have:bz (k*(2*w)) (k*(2*w)+2*w) d.2=[]:=by apply uab;rw[qa6];omega
 rw[this];exact List.Pairwise.nil
def gp(lt:α->α->Bool)(n:Nat):Nat->Nat->List α->List α
 |0,_,l=>l
 |f+1,w,l=>if w<n then gp lt n f (2*w) (nk lt w n l)else l
def Zs{lt:α->α->Bool}:(f w:Nat)->(l:List α)->0<w->n<=f+w->l.length=n->dY lt key l->Aa key w l->gp lt n f w l=dp lt l
 |0,w,l,g,k,e,a,b=>by simp only[gp];refine pL a ?_ (bA.refl l);have:=b 0;unfold bz at this;simpa[ua3 (show l.length<=w by omega)]using this
 |f+1,w,l,g,k,e,a,b=>by simp only[gp];split;obtain⟨h,c,i⟩:=Zr g e a b;rw[Zs f (2*w) _ (by omega) (by omega) i (a.sub λz d=>c.mem.1 d) h];obtain⟨m,o⟩:=oT (a.sub λz d=>c.mem.1 d);exact pL a m (c.trans o);refine pL a ?_ (bA.refl l);have:=b 0;unfold bz at this;simpa[ua3 (show l.length<=w by omega)]using this
def P0(lt:α->α->Bool)(l:List α):List α:=
 let r:=fx lt 20 l.length (l.length+1) 0 l
 gp lt l.length l.length 20 (bP lt r.1 l.length r.2)
def zoo{lt:α->α->Bool}{l:List α}(a:dY lt key l):P0 lt l=dp lt l:=by have r:=Av (w:=20) (by omega) (l.length+1) 0 l (by omega) (by omega) rfl ⟨0,by simp⟩ a (λk h=>by omega);unfold P0;obtain⟨d,b,e⟩:=r.last a;rw[Zs _ 20 _ (by omega) (by omega) e (a.sub λz c=>b.mem.1 c) d];obtain⟨f,g⟩:=oT (a.sub λz c=>b.mem.1 c);exact pL a f (b.trans g)
end
def Tr.jn(l:Nat):Tr->Tr
 |.leaf (.jump i) s=>if i=l then .leaf .normal s else .need False (.leaf .ret s)
 |.leaf .normal s=>.need False (.leaf .ret s)
 |.leaf e s=>.leaf e s
 |.br b x y=>.br b (x.jn l) (y.jn l)
 |.need p x=>.need p (x.jn l)
 |.two p x y=>.two p (x.jn l) (y.jn l)
def zV{l:Nat}{Q:XE->St->Prop}:{t:Tr}->(t.jn l).sat Q->t.sat λe s=>match e with
  |.jump i=>i=l/\Q .normal s
  |.normal=>False
  |e=>Q e s
 |.leaf e s,a=>by
  cases e with
  |normal=>exact a.1
  |exit i=>exact a
  |ret=>exact a
  |panic p=>exact a
  |val v=>exact a
  |jump i=>simp only[Tr.jn]at a;split at a;rename_i h;exact⟨h,a⟩;exact a.1.elim
 |.br b x y,a=>⟨λc=>zV (a.1 c),λc=>zV (a.2 c)⟩
 |.need p x,a=>⟨a.1,zV a.2⟩
 |.two p x y,a=>⟨λc=>zV (a.1 c),zV a.2⟩
def qej(P:Program)(E:Env)(l:Nat)(p:Pt)(Q:p.Out->Prop)(e:Exit)(a:Act)(w:World):Prop:=
 ∃ r,Q r/\match r with
  |.next m=>e=.goto l/\I P E (p.M.tpl p.n m) a w
  |.out y=>e=.exit p.id/\I P E (p.E.tpl p.n y) a w
  |.back z=>e=.ret/\I P E (p.R.tpl p.n z) a w
  |.pan v=>e=.panic [{ v:=v.val,recovered:=Y }]/\∃ s,s.n=p.n/\I P E s a w
def iU(P:Program)(l:Nat)(c:Code)(L:LS)(p:Pt)(f:L.X->Fr p.Out):Prop:=
 ∀ (E:Env) (a:Act) (w:World) (x:L.X) (Q:p.Out->Prop),I P E (L.tpl p.n x) a w->(f x).s7 Q->c.wp P (qej P E l p Q) a w
def qav(P:Program)(C:Cx)(a:Nat)(b:Nat->St->Option Tr)(l:Nat)(c:Code)(L:LS)(p:Pt)(x:L.X):Option (Fr p.Out):=
 match cQ P C a b c 0 (L.tpl p.n x)with
 |some t=>p.lp.rdOf C.Γ (t.jn l)
 |none=>V
def nI(P:Program)(E:Env)(c:Code)(run:St->Option Tr):Prop:=
 ∀ s t,run s=U t->∀ Q:XE->St->Prop,t.sat Q->∀ (a:Act) (w:World),I P E s a w->c.wp P (fR P E Q) a w
def vS(a b:St->Option Tr)(s:St):Option Tr:=
 match a s with
 |some t=>t.bind b
 |none=>V
def Pg(P:Program)(run:St->Option Tr)(a:Func)(b:List PT)(c:List Ty)(d:ap b):Option (Fr (aa c)):=
 if (a.name == "runtime.NumGoroutine")=Y/\b.length<=a.ntmps then match run (vL a.ntmps (gk b d))with
  |some t=>jR P a.results.toList c t
  |none=>V
 else V
section
variable {P:Program} {E:Env}
def iU.of_run{C:Cx}(r:CxOK P C){bs l:Nat}{Λ:Nat->St->Option Tr}{c:Code}{L:LS}{p:Pt}(A:p.M.low=Z)(z:p.E.low=Z)(B:p.R.low=Z)(s:∀ E,co P E Λ c 0){f:L.X->Fr p.Out}(G:∀ x,qav P C bs Λ l c L p x=U (f x)):iU P l c L p f:=by
 intro E a w x Q D F;have k:=G x;unfold qav at k;split at k<;>try trivial
 rename_i t H;have n:=zV (p.lp.rd_sat k F);refine wp_mono (iG r c 0 (s E) H n D) ?_;rintro e O S ⟨N,K,rfl,h,b⟩;cases N with
 |normal=>exact b.elim
 |exit i=>obtain⟨rfl,d,y,u,o,m,g⟩:=b;have:=lZ r.ct z h o m;rw[d]at this;exact⟨.out y,g,rfl,this⟩
 |ret=>obtain⟨d,y,u,o,m,g⟩:=b;have:=lZ r.ct B h o m;rw[d]at this;exact⟨.back y,g,rfl,this⟩
 |panic v=>exact⟨.pan v,b.2,rfl,K,b.1,h⟩
 |val _=>exact b.elim
 |jump _=>obtain⟨rfl,d,y,u,o,m,g⟩:=b;have:=lZ r.ct A h o m;rw[d]at this;exact⟨.next y,g,rfl,this⟩
def iU.scope {c rest:Code} {L N i R:LS} {id l:Nat} {f:L.X->Fr (Rd L.X i.X R.X)} (hf:findLabel c l=U rest) (h1:iU P l c L ⟨n,id,L,i,R⟩ f) (h2:iU P l rest L ⟨n,id,L,i,R⟩ f)
  {F:L.X->Fr (Rd N.X i.X R.X)} {inv:L.X->Prop} {μ:L.X->Nat}
  (u:∀ x,inv x->∀ Q:Rd N.X i.X R.X->Prop,(F x).s7 Q->(f x).s7 λ
   |.next b=>inv b/\μ b<μ x/\(F b).s7 Q
   |.out y=>Q (.out y)
   |.back z=>Q (.back z)
   |.pan p=>Q (.pan p)) (t:∀ x Q,(F x).s7 Q->inv x):af P (.scope c) L ⟨n,id,N,i,R⟩ F:=by
 intro E a w x Q hi hq;have A:∀ x a w (k:Code) (J:Nat->Act->World->Prop),(∀ a w (b:L.X),inv b->μ b<μ x->I P E (L.tpl n b) a w->(F b).s7 Q->∃ m,m<μ x/\J m a w)->iU P l k L ⟨n,id,L,i,R⟩ f->inv x->I P E (L.tpl n x) a w->(F x).s7 Q ->
   k.wp P (Exit.jump l (λa w=>∃ m,m<μ x/\J m a w) (DG P E ⟨n,id,N,i,R⟩ Q)) a w:=by
  intro x a w k J M h hx S K;refine wp_mono (h E a w x _ S (u x hx Q K)) ?_;rintro e a' w' ⟨r,s,o⟩;cases r with
  |next b=>obtain⟨rfl,d⟩:=o;exact⟨rfl,M a' w' b s.1 s.2.1 d s.2.2⟩
  |out y=>obtain⟨rfl,d⟩:=o;exact⟨.out y,s,rfl,d⟩
  |back z=>obtain⟨rfl,d⟩:=o;exact⟨.back z,s,rfl,d⟩
  |pan v=>obtain⟨rfl,d⟩:=o;exact⟨.pan v,s,rfl,d⟩
 have g:∀ {J H:Act->World->Prop} {k:Code} {a:Act} {w:World},(∀ a w,J a w->H a w)->k.wp P (Exit.jump l J (DG P E ⟨n,id,N,i,R⟩ Q)) a w->k.wp P (Exit.jump l H (DG P E ⟨n,id,N,i,R⟩ Q)) a w:=by
  intro J H k a w M h;refine wp_mono h λe a' w' O=>?_;cases e with
  |goto l'=>exact⟨O.1,M _ _ O.2⟩
  |_=>exact O
 refine wp_scope_jumps l (λa w=>∃ m,∃ x,inv x/\μ x=m/\I P E (L.tpl n x) a w/\(F x).s7 Q) (λa w=>yd λm=>∃ x,inv x/\μ x=m/\I P E (L.tpl n x) a w/\(F x).s7 Q) hf ?_ ?_;exact g (λa w ⟨m,_,h⟩=>⟨m,h⟩) (A x a w c (λm a w=>∃ x,inv x/\μ x=m/\I P E (L.tpl n x) a w/\(F x).s7 Q) (λa w b B C D G=>⟨μ b,C,b,B,rfl,D,G⟩) h1 (t x Q hq) hi hq);rintro a w ⟨m,o⟩;obtain⟨⟨b,B,C,D,G⟩,_⟩:=ye (p:=λm=>∃ x,inv x/\μ x=m/\I P E (L.tpl n x) a w/\(F x).s7 Q) ⟨m,o⟩;refine g (λa1 w1 ⟨T,r1,W⟩=>⟨⟨T,W⟩,?_⟩) (A b a w rest (λm a w=>∃ x,inv x/\μ x=m/\I P E (L.tpl n x) a w/\(F x).s7 Q) (λa w b B C D G=>⟨μ b,C,b,B,rfl,D,G⟩) h2 B D G);rw[<- C];exact ucd ((ye ⟨T,W⟩).2 T W) r1
def af.run{C:Cx}(D:CxOK P C){c:Code}{L:LS}{p:Pt}{F:L.X->Fr p.Out}(M:L.low=Z)(h:af P c L p F):nI P E c (p.han C.Γ L F):=by
 intro s t k Q O a w N;unfold Pt.han at k;split at k<;>try trivial
 rename_i A;split at k<;>try trivial
 rename_i x n S;cases k;obtain⟨o,u⟩:=lz _ O;have b:=lZ D.ct M N S o;rw[A]at b;refine wp_mono (h E a w x _ b (p.toTr_sat u)) ?_;rintro e K T ⟨r,i,f⟩;cases r with
 |next m=>obtain⟨rfl,b⟩:=f;exact⟨.normal,_,rfl,b,i⟩
 |out y=>obtain⟨rfl,b⟩:=f;exact⟨.exit p.id,_,rfl,b,i⟩
 |back z=>obtain⟨rfl,b⟩:=f;exact⟨.ret,_,rfl,b,i⟩
 |pan v=>
  obtain⟨rfl,W,l,b⟩:=f;have d:I P E ⟨p.n,λ_=>.dead,λ_=>V,λ_=>.dead⟩ K T:=by have:=lZ D.ct (L:=⟨[],[]⟩) rfl b rfl trivial;rw[l]at this;obtain⟨H,B,h⟩:=this;exact⟨H,B,h.n,h.df,h.step,h.mem,λt=>uT,λt g G v R=>(nomatch R),λt=>uT⟩
  exact⟨.panic v,_,rfl,d,i⟩
def xl{C:Cx}(e:CxOK P C){d:Nat}{b:Nat->St->Option Tr}{c:Code}(a:co P E b c 0):nI P E c (cQ P C d b c 0):=
 λ_ _ h _ g _ _ f=>iG e c 0 a h g f
def D6{x y:Code}{k m:St->Option Tr}(o:nI P E x k)(r:nI P E y m):nI P E (.seq x y) (vS k m):=by
 intro s t h Q A a w z;unfold vS at h;split at h<;>try trivial
 rename_i C g;refine wp_seq (wp_mono (o s C g _ (vX h A) a w z) ?_);rintro e n D ⟨F,d,rfl,b,c⟩;cases F with
 |normal=>obtain⟨u,B,f⟩:=c;exact r _ u B Q f n D b
 |exit i=>exact⟨.exit i,d,rfl,b,c⟩
 |ret=>exact⟨.ret,d,rfl,b,c⟩
 |panic p=>exact⟨.panic p,d,rfl,b,c⟩
 |val v=>exact⟨.val v,d,rfl,b,c⟩
 |jump l=>exact⟨.jump l,d,rfl,b,c⟩
def VA{fn:Func}{c:Code}{run:St->Option Tr}{ps:List PT}{rs:List Ty}{fr:ap ps->Fr (aa rs)}(x0:ap ps)(hf:P.funcs[f]?= U fn)(z:fn.body=U c)(W:∀ E,nI P E c run)(m:∀ xs,Pg P run fn ps rs xs=U (fr xs)):ag P f ⟨ps,rs,λxs=>(fr xs).get,λxs=>[(fr xs).ok]⟩:=by
 have K:=m x0;unfold Pg at K;split at K<;>try trivial
 rename_i hc;obtain⟨g,hn⟩:=hc;refine⟨enters hf z g,λw F xs o O hr T=>uff hf z ?_⟩;have i:=m xs;unfold Pg at i;rw[ufw ⟨g,hn⟩]at i;split at i<;>try trivial
 rename_i t ht;have hlen:o.length=ps.length:=by
  have:∀ {ps:List PT} {xs:ap ps} {o:List Value},dm P w F ps xs o->o.length=ps.length:=by
   intro ps
   induction ps with
   |nil=>intro xs o h;cases h;rfl
   |cons p r ih=>intro xs o h;obtain⟨v,vs',rfl,_,h3⟩:=h;simp[ih h3]
  exact this hr
 have k:=z9 (D:=[]) (n:=fn.ntmps) O (λR=>pK hr) (by omega);have hwp:=W _ _ t ht _ (ud i T) _ _ k;have hsz:(o.toArray).size=o.length:=by simp
 refine wp_mono hwp ?_;rintro e N L ⟨xe,s0,rfl,⟨F0,γ',C⟩,hxe,s,hs0,n,a,S⟩;obtain⟨F',B⟩:∃ F',InvG P _ s N L [] F' γ':=by
  rcases hs0 with rfl|rfl
  exact⟨F0,C⟩;exact Gd _ C
 have l:N.defers=[]/\∃ v,(results fn N.tmps).run P L=.ok v L/\iB w F rs (fr xs).get (.returned v) L:=by
  unfold eh at a;split at a<;>try trivial
  rename_i avs n' H;split at a<;>try trivial
  rename_i axs u hrs;split at a<;>try trivial
  rename_i y A;injection a with a
  obtain⟨Q,hy⟩:=yr a S;subst hy;obtain⟨us,G,x⟩:=qo B H Q;obtain⟨M,hs,hm',_,hxs⟩:=ke B.mem (eE B) (dM.of λ_ _ h=>h) hrs x;obtain⟨γ0,K⟩:=B.step;have d:=K.trans hs;refine⟨B.df,_,sf G,_,M,rfl,⟨d.os,d.tape,d.output,d.size,d.old⟩,d.hF,λb z=>⟨d.new b z,d.bd b z⟩,zk (nY A hxs)⟩
 rcases hxe with rfl|rfl
 exact l;exact l
end
end Go.Ab
