/-
  Parts of the proof, one behind the other.
-/
import Derived.Test.YtdokapnnagbehaaGreatMc
import Derived.Laws.Sem
import Derived.KernelRfl
import Derived.Recover
import Derived.Carry
import Derived.ChangeSame
import Derived.ProofKit
import Derived.OpenShut
import Derived.ChangeCalls
import Derived.IntWalk
set_option linter.all false
set_option maxRecDepth 100000
set_option maxHeartbeats 4000000
open Option renaming some->U,none->V
open Bool renaming true->Z,false->Y
open Decidable renaming decide->J
open Go Go.RowKit
variable {T α σ ρ β:Type} {P:Program} {ad:Addr} {arr cs cur:Array Value} {f:FuncId} {x a y day:Int} {k:IntKind} {l:List Int} {xs vs news:List Value} {off i n b c d j B m len:Nat} {F F' K:Nat->Prop} {R g R':Nat->Value->Prop} {o:Oper} {p:Prop} {e ety t ty el:TypeId} {v u vx:Value} {w w' W' W:World}
namespace Go.Ab
open Go Go.RowKit
inductive Fr (α:Type) where
 |val (x:α)
 |br (b:Bool) (x y:Fr α)
 |need (p:Prop) (x:Fr α)
def Fr.needL(a:List Prop)(x:Fr α):Fr α:=a.foldr (λp t=>.need p t) x
def Fr.get:Fr α->α
 |.val x=>x
 |.br b x y=>if b=Z then x.get else y.get
 |.need _ x=>x.get
def Fr.ok:Fr α->Prop
 |.val _=>True
 |.br b x y=>(b=Z->x.ok)/\(b=Y->y.ok)
 |.need p x=>p/\x.ok
def dh(P:Program)(a:List ResultVar)(rs:List Ty)(s:St):Option (Fr (aa rs)):=
 match gv P s a with
 |some (vs,n)=>match dK s.mem vs with
  |some (xs,_)=>match g9 rs xs with
   |some y=>U (Fr.needL n (.val y))
   |none=>V
  |none=>V
 |none=>V
def gm(P:Program)(a:List ResultVar)(rs:List Ty)(s:St):Option (Fr (aa rs)):=match dh P a rs s with
 |some t=>U t
 |none=>dh P a rs (xW s)
def ib(P:Program)(a:List ResultVar)(rs:List Ty):Tr->Option (Fr (aa rs))
 |.leaf .ret s=>gm P a rs s
 |.leaf .normal s=>gm P a rs s
 |.leaf _ _=>V
 |.br b x y=>match ib P a rs x,ib P a rs y with
  |some c,U d=>U (.br b c d)
  |_,_=>V
 |.need p x=>match ib P a rs x with
  |some c=>U (.need p c)
  |none=>V
 |.two p x y=>match ib P a rs x,ib P a rs y with
  |some c,U d=>U (.need (p->c.ok/\c.get=d.get) d)
  |_,_=>V
def eI:(ps:List PT)->ag ps->List AV
 |[],_=>[]
 |p::r,x=>H4 p x.1::eI r x.2
def KA(P:Program)(C:Cx)(Λ:Nat->St->Option Tr)(c:Code)(n:Nat)(a:List ResultVar)(ps:List PT)(rs:List Ty)(xs:ag ps):Option (Fr (aa rs)):=
 match cr P C 0 Λ c 0 (sj n (eI ps xs))with
 |some t=>ib P a rs t
 |none=>V
section
variable {P:Program} {B:Nat} {w w':World} {E:Env} {F F':Nat->Prop} {bs:Nat} {γ γ' γ0:Nat->Value} {Γ:Gm} {M m:aT} {R:Nat->Value->Prop}
def D0(tmps:Array Value):ResultVar->Sem Value
 |.tmp t=>pure (tmps.getD t undef)
 |.cell a t=>do loadVar t (<- asAddr (tmps.getD a undef))
def Dw(P:Program)(tmps:Array Value)(w:World):List ResultVar->List Value->Prop
 |[],[]=>True
 |r::rs,v::vs=>(D0 tmps r).run P w=.ok v w/\Dw P tmps w rs vs
 |_,_=>False
def SL{tmps:Array Value}:(l:List ResultVar)->(a:List Value)->Dw P tmps w l a->(l.mapM (m:=Sem) (D0 tmps)).run P w=.ok a w
 |[],[],_=>by simp
 |r::rs,v::vs,h=>by
  rw[List.mapM_cons];simp only[ues,h.1,Result.andThen,SL rs vs h.2,ueu]
def vI:List Value->Value
 |[v]=>v
 |vs=>.tuple vs.toArray
def pz{fn:Func}{tmps:Array Value}(h:Dw P tmps w fn.results.toList vs):(results fn tmps).run P w=.ok (vI vs) w:=by
 have a:results fn tmps=(do
   let vs <- fn.results.mapM (D0 tmps)
   pure (if h:vs.size=1 then vs[0]else .tuple vs)):=by
  congr 1
 rw[a,Array.mapM_eq_mapM_toList];simp only[ues,map_eq_pure_bind,ueu,SL _ _ h];cases vs with
 |nil=>simp[vI]
 |cons v vs=>
  cases vs with
  |nil=>simp[vI]
  |cons b vs=>simp[vI]
def vH:{ts:List Ty} -> {x:aa ts} -> {vs:List Value}->dM w F ts x vs->gT w F ts x (vI vs)
 |[],_,_,h=>by
  cases h;exact⟨#[],rfl,rfl⟩
 |[t],x,vs,h=>by
  obtain⟨v,b,rfl,c,a⟩:=h;cases a;exact c
 |t::e::r,x,vs,h=>by
  obtain⟨v,b,rfl,c,a⟩:=id h;obtain⟨f,d,rfl,_,_⟩:=id a;exact⟨_,rfl,by simpa using h⟩
def mO:{ps:List PT} -> {xs:ag ps} -> {vs:List Value}->cJ P w F ps xs vs->bj P w F R (eI ps xs) vs
 |[],_,_,h=>by cases h;trivial
 |_::_,_,_,⟨v,d,a,b,c⟩=>by subst a;exact⟨P4 b,mO c⟩
def ny:{xs:List AV} -> {vs:List Value}->bj P w F R xs vs->∀ i:Nat,aE P w F R (xs.getD i .dead) (vs.getD i undef)
 |[],[],_,i=>trivial
 |x::xs,v::vs,h,0=>h.1
 |x::xs,v::vs,h,i+1=>by
  have:=ny h.2 i;simpa using this
def vV{D:List Deferred}{xs:List AV}(k:∀ b,F b->b<w.heap.size)(h:∀ R,bj P w F R xs vs)(p:vs.length<=n):I P ⟨w,F,λ_=>undef,D,w.heap.size,ue9 _⟩ (sj n xs) { tmps:=vs.toArray++Array.replicate (n-vs.length) undef,defers:=D } w:=by
 refine⟨F,λ_=>undef,?_,rfl,⟨λ_=>undef,Step.refl k⟩,⟨λid o e=>(nomatch e),λi j q r b _ e=>(nomatch e)⟩,λt=>?_,λt g c v m=>?_,λ_=>uT⟩;show _=n;simp;omega;have l:(vs.toArray++Array.replicate (n-vs.length) undef).getD t undef=vs.getD t undef:=by
  simp;rcases uep t vs.length with d|a
  rw[uai (by simpa using d)];simp;rw[uad (by simpa using a),ua4 a];simp only[uas];split<;>rfl
 rw[l];exact vG (ny (h _) t);exfalso;have:=ny (h λ_ _=>True) t;have f:xs.getD t .dead=.maybe g c v:=m;rw[f]at this;exact this
def uM{x:Fr α}:(a:List Prop)->(Fr.needL a x).ok->av a/\x.ok
 |[],h=>⟨uT,h⟩
 |p::a,h=>by
  have b:=h;obtain⟨c,d⟩:=uM a b.2;exact⟨je.2 ⟨b.1,c⟩,d⟩
def uK{x:Fr α}:(a:List Prop)->(Fr.needL a x).get=x.get
 |[]=>rfl
 |_::a=>uK a
def qX{g:List ResultVar}{rs:List Ty}:{t:Tr} -> {f:Fr (aa rs)}->ib P g rs t=U f->f.ok->t.sat λe s=>(e=.ret\/e=.normal)/\∃ d,(d=s\/d=xW s)/\∃ n,dh P g rs d=U (Fr.needL n (.val f.get))/\av n
 |.leaf e s,f,h,a=>by
  have c:∀ s,dh P g rs s=U f->∃ n,dh P g rs s=U (Fr.needL n (.val f.get))/\av n:=λs h=>by
   have q:=h;unfold dh at h;split at h<;>try trivial
   split at h<;>try trivial
   split at h<;>try trivial
   cases h;refine⟨_,?_,(uM _ a).1⟩;rw[uK];exact q
  have key:gm P g rs s=U f->∃ d,(d=s\/d=xW s)/\∃ n,dh P g rs d=U (Fr.needL n (.val f.get))/\av n:=λh=>by
   unfold gm at h;split at h;rename_i t u;cases h;exact⟨s,.inl rfl,c s u⟩;exact⟨xW s,.inr rfl,c _ h⟩
  cases e with
  |exit i=>simp[ib]at h
  |panic i=>simp[ib]at h
  |val i=>simp[ib]at h
  |jump i=>simp[ib]at h
  |normal=>exact⟨.inr rfl,key h⟩
  |ret=>exact⟨.inl rfl,key h⟩
 |.br b x y,f,h,a=>by
  simp only[ib]at h;split at h<;>try trivial
  rename_i o v k l;cases h;refine⟨λj=>?_,λj=>?_⟩;have:=qX k (a.1 j);simpa only[Fr.get,j,if_true]using this;have:=qX l (a.2 j);simpa only[Fr.get,j,ub3,ufs]using this
 |.need p x,f,h,a=>by
  simp only[ib]at h;split at h<;>try trivial
  rename_i o k;cases h;have:=qX k a.2;exact⟨a.1,this⟩
 |.two p x y,f,h,a=>by
  simp only[ib]at h;split at h<;>try trivial
  rename_i o v k l;cases h;have r:=qX l a.2;refine⟨λm=>?_,r⟩;have:=qX k (a.1 m).1
  rwa [(a.1 m).2]at this
def nz{s:St}{a:Act}(hi:InvG P E s a w [] F γ):{l:List ResultVar} -> {vs:List AV} -> {n:List Prop}->gv P s l=U (vs,n)->av n->∃ f,Dw P a.tmps w l f/\bj P w F (ap s.mem γ) vs f
 |[],vs,n,h,g=>by
  obtain⟨rfl,rfl⟩:=h;exact⟨[],uT,uT⟩
 |r::l,vs,n,h,g=>by
  simp only[gv]at h;split at h<;>try trivial
  rename_i v B A C c q;cases h;obtain⟨f,m,o⟩:=nz hi q (jd.1 g).2;have i:=(jd.1 g).1;cases r with
  |tmp t=>
   obtain⟨rfl,_⟩:=c;exact⟨a.tmps.getD t undef::f,⟨by simp[D0],m⟩,rm hi t,o⟩
  |cell ad t=>
   simp only[U1]at c;split at c<;>try trivial
   rename_i id off y;split at c<;>try trivial
   rename_i e x;cases c;have j:=rm hi ad;rw[y]at j;obtain⟨_,u,p,k⟩:=S2 hi.mem (λ_ _ h=>h) x i j;obtain⟨_,b,_,z⟩:=j;refine⟨u::f,⟨?_,m⟩,k,o⟩;have d:=z;rw[d]at p;show(do loadVar t (<- asAddr (a.tmps.getD ad undef)):Sem Value).run P w=_;rw[d];exact p
def uL{x y:α}:{g f:List Prop}->Fr.needL g (.val x)=Fr.needL f (.val y)->av f->av g/\x=y
 |[],[],h,_=>by
  have e:=h;injection e with e
  exact⟨uT,e⟩
 |[],_::_,h,_=>nomatch (show Fr.val x=Fr.need _ _ from h)
 |_::_,[],h,_=>nomatch (show Fr.need _ _=Fr.val y from h)
 |p::g,q::f,h,k=>by
  have e:=h;injection e with i j
  subst i;obtain⟨a,b⟩:=je.1 k;obtain⟨c,d⟩:=uL j b;exact⟨je.2 ⟨a,c⟩,d⟩
def ql9{C:Cx}(hC:CxOK P C){Λ:Nat->St->Option Tr}{fn:Func}{c:Code}{ps:List PT}{rs:List Ty}{fr:ag ps->Fr (aa rs)}(hf:P.funcs[f]?= U fn)(z:fn.body=U c)(hc:∀ args w,(callFunc f args).run P w=.ok (.enter f args) w)(hn:ps.length<=fn.ntmps)(hΛ:∀ E,bP P E Λ c 0)(x:∀ xs,KA P C Λ c fn.ntmps fn.results.toList ps rs xs=U (fr xs)):af P f ⟨ps,rs,λxs=>(fr xs).get,λxs=>[(fr xs).ok]⟩:=by
 refine⟨hc,λw F xs vs B T K=>ufd hf z ?_⟩;have j:=x xs;unfold KA at j;split at j<;>try trivial
 rename_i t ht;have S:vs.length=ps.length:=by
  have:∀ {ps:List PT} {xs:ag ps} {vs:List Value},cJ P w F ps xs vs->vs.length=ps.length:=by
   intro ps
   induction ps with
   |nil=>intro xs vs h;cases h;rfl
   |cons p r ih=>
    intro xs vs h;obtain⟨v,vs',rfl,_,h3⟩:=h;simp[ih h3]
  exact this T
 have g:=vV (D:=[]) (n:=fn.ntmps) B (λR=>mO T) (by omega);have N:=fR hC c 0 (hΛ _) ht (qX j K) g;have hsz:(vs.toArray).size=vs.length:=by simp
 refine wp_mono N ?_;rintro e A w' ⟨xe,s0,rfl,⟨W,γ',m⟩,O,s,M,n,a,H⟩;obtain⟨F',hi⟩:∃ F',InvG P _ s A w' [] F' γ':=by
  rcases M with rfl|rfl
  exact⟨W,m⟩;exact Cd _ m
 have i:A.defers=[]/\∃ v,(results fn A.tmps).run P w'=.ok v w'/\fJ w F rs (fr xs).get (.returned v) w':=by
  unfold dh at a;split at a<;>try trivial
  rename_i avs n' q;split at a<;>try trivial
  rename_i axs u L;split at a<;>try trivial
  rename_i y l;injection a with a
  obtain⟨G,hy⟩:=uL a H;subst hy;obtain⟨us,o,k⟩:=nz hi q G;obtain⟨F'',hs,hm',_,Q⟩:=iy hi.mem (dv hi) (cX.of λ_ _ h=>h) L k;obtain⟨γ0,h0⟩:=hi.step;have d:=h0.trans hs;refine⟨hi.df,_,pz o,_,F'',rfl,⟨d.os,d.tape,d.output,d.size,d.old⟩,d.hF,λb z=>⟨d.new b z,d.bd b z⟩,vH (lC l Q)⟩
 rcases O with rfl|rfl
 exact i;exact i
def conv{a:Ct}(h:af P f a)(g:ag a.ps->aa a.rs)(ok:ag a.ps->List Prop)(j:∀ w F xs vs,cJ P w F a.ps xs vs->av (ok xs)->av (a.ok xs)/\a.f xs=g xs):af P f ⟨a.ps,a.rs,g,ok⟩:=by
 refine⟨h.1,λw F xs vs i c b=>?_⟩;obtain⟨d,e⟩:=j w F xs vs c b;have:=h.2 w F xs vs i c d;rw[e]at this;exact this
def enters{fn:Func}{c:Code}(d:P.funcs[f]?= U fn)(b:fn.body=U c)(e:(fn.name == "runtime.NumGoroutine")=Y)(args:Array Value)(w:World):(callFunc f args).run P w=.ok (.enter f args) w:=by
 have a:¬ fn.name = "runtime.NumGoroutine" := by simpa using e
 simp[callFunc,d,b,a]
def mf(P:Program)(C:Cx)(Λ:Nat->St->Option Tr)(fn:Func)(ps:List PT)(rs:List Ty)(xs:ag ps):Option (Fr (aa rs)):=
 match fn.body with
 |some c=>if (fn.name == "runtime.NumGoroutine")=Y/\ps.length<=fn.ntmps then KA P C Λ c fn.ntmps fn.results.toList ps rs xs else V
 |none=>V
def cf{C:Cx}(h:CxOK P C){Λ:Nat->St->Option Tr}{fn:Func}{ps:List PT}{rs:List Ty}{fr:ag ps->Fr (aa rs)}(i:ag ps)(g:P.funcs[f]?= U fn)(hΛ:∀ c E,fn.body=U c->bP P E Λ c 0)(a:∀ xs,mf P C Λ fn ps rs xs=U (fr xs)):af P f ⟨ps,rs,λxs=>(fr xs).get,λxs=>[(fr xs).ok]⟩:=by
 have d:=a i;unfold mf at d;split at d<;>try trivial
 rename_i c b;split at d<;>try trivial
 rename_i e;refine ql9 h g b (enters g b e.1) e.2 (λE=>hΛ c E b) λxs=>?_;have:=a xs;unfold mf at this;simp only[b,e,if_true]at this;exact this
def Vy{s:St}{a:Act}{xs:List AV}(hi:InvG P E s a w [] F γ)(h:bj P w F (ap s.mem γ) xs vs)(k:vs.length<=n):
  I P ⟨E.w0,E.F0,eZ a E,[],E.B,E.hB⟩ ⟨n,λi=>xs.getD i .dead,s.mem,s.at⟩ { tmps:=vs.toArray++Array.replicate (n-vs.length) undef,defers:=[] } w:=by
 refine⟨F,γ,?_,rfl,hi.step,hi.mem,λt=>?_,λt g c v j=>?_,λt=>RP hi t⟩;show _=n;simp;omega;have f:(vs.toArray++Array.replicate (n-vs.length) undef).getD t undef=vs.getD t undef:=by
  simp;rcases uep t vs.length with d|b
  rw[uai (by simpa using d)];simp;rw[uad (by simpa using b),ua4 b];simp only[uas];split<;>rfl
 rw[f];exact vG (ny h t);exfalso;have:=ny h t;have e:xs.getD t .dead=.maybe g c v:=j;rw[e]at this;exact this
def Cv{s b:St}{a l:Act}(hi:InvG P E s a w [] F γ)(h:InvG P ⟨E.w0,E.F0,eZ a E,[],E.B,E.hB⟩ b l w' [] F' γ'):InvG P E (b.back s.n) a w' [] F' γ':=by
 refine⟨hi.n,hi.df,h.step,h.mem,λt=>?_,λt g f v j=>?_,λt=>?_⟩;show dP P w' F' _ _ (if t<10000 then b.gs t else .dead) _;split;rename_i j;have:=h.gh t;have i:eZ a E t=a.tmps.getD t undef:=by unfold eZ;rw[ufv j]
 have c:aE P w' F' (ap b.mem γ') (b.gs t) (eZ a E t):=this;rw[i]at c;exact vG c;trivial;exfalso;have d:(if t<10000 then b.gs t else .dead)=.maybe g f v:=j;split at d;have:=h.gh t;rw[d]at this;exact this;cases d;have m:∀ k,aE P w' F' (ap b.mem γ') (b.gs k) (eZ a E k):=λk=>h.gh k;have e:∀ k,k=t+10000->aE P w' F' (ap b.mem γ') (b.gs k) (E.G t):=λk o=>by
  have c:=m k;unfold eZ at c;rw[ufw (by omega)]at c;have i:k-10000=t:=by omega
  rw[i]at c;exact c
 exact e _ rfl
def U2:{xs:List AV} -> {vs:List Value}->bj P w F R xs vs->aE P w F R (rX xs) (vI vs)
 |[],[],_=>⟨#[],rfl,rfl,uT⟩
 |[_],[_],h=>h.1
 |x::y::r,v::u::s,h=>by
  refine⟨_,rfl,?_,?_⟩;have:∀ {xs:List AV} {vs:List Value},bj P w F R xs vs->vs.length=xs.length:=λh=>h.length;simpa using this h;have:∀ (xs:List AV) (vs:List Value),bj P w F R xs vs->ln P w F R xs (λj u=>vs[j]?= U u):=by
   intro xs
   induction xs with
   |nil=>intros;trivial
   |cons x xs a=>
    intro vs h;cases vs with
    |nil=>exact h.elim
    |cons v vs=>exact⟨⟨v,rfl,h.1⟩,by simpa using a vs h.2⟩
  simpa using this _ _ h
 |[],_::_,h=>h.elim
 |_::_,[],h=>h.elim
 |[_],_::_::_,h=>h.2.elim
 |_::_::_,[_],h=>h.2.elim
def qR{m:List ResultVar}{Q:XE->St->Prop}:{t d:Tr}->gn P m n t=U d->d.sat Q->t.sat λe s=>match e with
  |.panic p=>Q (.panic p) (s.back n)
  |.ret=>∃ vs c,gv P s m=U (vs,c)/\av c/\Q (.val (rX vs)) (s.back n)
  |.normal=>∃ vs c,gv P s m=U (vs,c)/\av c/\Q (.val (rX vs)) (s.back n)
  |_=>False
 |.leaf e s,d,h,a=>by
  cases e with
  |panic p=>
   simp only[gn,ucl]at h;subst h;exact a
  |ret=>
   simp only[gn]at h;split at h<;>try trivial
   rename_i vs c k;cases h;obtain⟨i,j⟩:=jm _ a;exact⟨vs,c,k,i,j⟩
  |normal=>
   simp only[gn]at h;split at h<;>try trivial
   rename_i vs c k;cases h;obtain⟨i,j⟩:=jm _ a;exact⟨vs,c,k,i,j⟩
  |exit _=>simp[gn]at h
  |val _=>simp[gn]at h
  |jump _=>simp[gn]at h
 |.br b x y,d,h,a=>by
  simp only[gn]at h;split at h<;>try trivial
  rename_i o q g l;cases h;exact⟨λf=>qR g (a.1 f),λf=>qR l (a.2 f)⟩
 |.need p x,d,h,a=>by
  simp only[gn]at h;split at h<;>try trivial
  rename_i o g;cases h;exact⟨a.1,qR g a.2⟩
 |.two p x y,d,h,a=>by
  simp only[gn]at h;split at h<;>try trivial
  rename_i o q g l;cases h;exact⟨λf=>qR g (a.1 f),qR l a.2⟩
def gG{C:Cx}(M:CxOK P C){B:FuncId->Option (Func×(Nat->St->Option Tr))}(N:∀ f fn Λ,B f=U (fn,Λ)->P.funcs[f]?= U fn/\∀ c E,fn.body=U c->bP P E Λ c 0):gQ P (fU P C B):=by
 intro d f args s t h;unfold fU at h;split at h<;>try trivial
 rename_i fn Λ z;split at h<;>try trivial
 rename_i c b;split at h<;>try trivial
 rename_i O;split at h<;>try trivial
 rename_i W x;obtain⟨G,hΛ⟩:=N f fn Λ z;refine⟨enters G b O.2,λE a w F γ vs Q hi K R=>ufd G b ?_⟩;have H:=K.length;have i:=Vy (n:=fn.ntmps) hi K (by omega);have q:=qR h R;have y:=fR M c 0 (hΛ c _ b) x q i;have S:(vs.toArray).size=vs.length:=by simp
 refine wp_mono y ?_;rintro e D w' ⟨T,L,rfl,⟨F',γ',g⟩,l⟩;have j:(∃ vs A,gv P L fn.results.toList=U (vs,A)/\av A/\Q (.val (rX vs)) (L.back s.n))->D.defers=[]/\∃ v,(results fn D.tmps).run P w'=.ok v w'/\Fb P E a Q (.returned v) w':=by
  rintro⟨vs,A,o,r,u⟩;obtain⟨us,m,k⟩:=nz g o r;exact⟨g.df,_,pz m,_,_,F',γ',u,Cv hi g,_,rfl,U2 k⟩
 cases T with
 |panic p=>exact⟨g.df,.panic p,_,F',γ',l,Cv hi g,rfl⟩
 |ret=>exact j l
 |normal=>exact j l
 |exit _=>exact l.elim
 |val _=>exact l.elim
 |jump _=>exact l.elim
end
def Ss{p:Nat->Prop}(h:∃ n,p n):∃ n,p n/\∀ m,p m->n<=m:=by
 obtain⟨n,e⟩:=h
 induction n using Nat.strongRecOn with
 |_ n f=>
  by_cases b:∃ m,m<n/\p m;obtain⟨m,c,d⟩:=b;exact f m c d;refine⟨n,e,λm a=>?_⟩;rcases uep m n with h|h
  exact absurd ⟨m,h,a⟩ b;exact h
noncomputable def u9(p:Nat->Prop):Nat:=open Classical in if h:∃ n,p n then (Ss h).choose else 0
def uA{p:Nat->Prop}(h:∃ n,p n):p (u9 p)/\∀ m,p m->u9 p<=m:=by
 unfold u9;rw[dif_pos h];exact(Ss h).choose_spec
def zdd{c:Code}{Q:Exit->Act->World->Prop}{a:Act}(l:Nat->Act->World->Prop)(g:∃ m,l m a w)(round:∀ m a w,l m a w->c.wp P (Exit.then (λd w'=>∃ m',m'<m/\l m' d w') Q) a w):(Code.loop c).wp P Q a w:=by
 refine wp_loop (λa w=>∃ m,l m a w) (λa w=>u9 λm=>l m a w) g λa w h=>?_;obtain⟨i,k⟩:=uA h;refine wp_mono (round _ a w i) λe d w' f=>?_;cases e with
 |normal=>
  obtain⟨m',j,b⟩:=f;exact⟨⟨m',b⟩,ucd ((uA ⟨m',b⟩).2 m' b) j⟩
 |_=>exact f
def Fr.satP(Q:α->Prop):Fr α->Prop
 |.val x=>Q x
 |.br b x y=>(b=Z->x.satP Q)/\(b=Y->y.satP Q)
 |.need p x=>p/\x.satP Q
def nL{Q:α->Prop}:{f:Fr α}->f.ok->Q f.get->f.satP Q
 |.val _,_,h=>h
 |.br b x y,h,c=>by
  refine⟨λa=>nL (h.1 a) ?_,λa=>nL (h.2 a) ?_⟩;simpa only[Fr.get,a,if_true]using c;simpa only[Fr.get,a,ub3,ufs]using c
 |.need p x,h,c=>⟨h.1,nL h.2 c⟩
def cO{Q:α->Prop}:{f:Fr α}->f.satP Q->f.ok/\Q f.get
 |.val _,h=>⟨uT,h⟩
 |.br b x y,h=>by
  cases b with
  |true=>
   have:=cO (h.1 rfl);exact⟨⟨λ_=>this.1,λa=>by cases a⟩,this.2⟩
  |false=>
   have:=cO (h.2 rfl);exact⟨⟨λa=>(by cases a),λ_=>this.1⟩,this.2⟩
 |.need p x,h=>⟨⟨h.1,(cO h.2).1⟩,(cO h.2).2⟩
def E4{Q:α->Prop}{x:Fr α}:{a:List Prop}->(Fr.needL a x).satP Q->av a/\x.satP Q
 |[],h=>⟨uT,h⟩
 |p::a,h=>by
  have b:=h;obtain⟨c,d⟩:=E4 b.2;exact⟨je.2 ⟨b.1,c⟩,d⟩
inductive Rd (X Y Z:Type) where
 |next (x:X)
 |out (y:Y)
 |back (z:Z)
 |pan (p:PV)
structure Lp where
 n:Nat
 id:Nat
 L:LS
 E:LS
 R:LS
abbrev Lp.In(l:Lp):Type:=l.L.X
abbrev Lp.Out(l:Lp):Type:=Rd Unit l.E.X l.R.X
abbrev Lp.Round(l:Lp):Type:=Rd l.L.X l.E.X l.R.X
def Lp.rdOf(Γ:Gm)(l:Lp):Tr->Option (Fr l.Round)
 |.leaf .normal s=>if s.n=l.n then match l.L.ext Γ s with
   |some (x,n)=>U (Fr.needL n (.val (.next x)))
   |none=>V
  else V
 |.leaf (.exit i) s=>if i=l.id/\s.n=l.n then match l.E.ext Γ s with
   |some (x,n)=>U (Fr.needL n (.val (.out x)))
   |none=>V
  else V
 |.leaf .ret s=>if s.n=l.n then match l.R.ext Γ s with
   |some (x,n)=>U (Fr.needL n (.val (.back x)))
   |none=>V
  else V
 |.leaf (.panic p) s=>if s.n=l.n then U (.val (.pan p))else V
 |.leaf (.val _) _=>V
 |.leaf (.jump _) _=>V
 |.br b x y=>match l.rdOf Γ x,l.rdOf Γ y with
  |some a,U c=>U (.br b a c)
  |_,_=>V
 |.need p x=>match l.rdOf Γ x with
  |some a=>U (.need p a)
  |none=>V
 |.two p x y=>match l.rdOf Γ x,l.rdOf Γ y with
  |some a,U c=>U (.need (p->a.ok/\a.get=c.get) c)
  |_,_=>V
def Lp.round(P:Program)(C:Cx)(bs:Nat)(Λ:Nat->St->Option Tr)(c:Code)(l:Lp)(x:l.In):Option (Fr l.Round):=
 match cr P C bs Λ c 0 (l.L.tpl l.n x)with
 |some t=>l.rdOf C.Γ t
 |none=>V
def Lp.toTr(l:Lp):Fr l.Out->Tr
 |.val (.next _)=>.need False (.leaf .ret ⟨0,λ_=>.dead,λ_=>V,λ_=>.dead⟩)
 |.val (.out y)=>.leaf (.exit l.id) (l.E.tpl l.n y)
 |.val (.back z)=>.leaf .ret (l.R.tpl l.n z)
 |.val (.pan p)=>.leaf (.panic p) ⟨l.n,λ_=>.dead,λ_=>V,λ_=>.dead⟩
 |.br b x y=>.br b (l.toTr x) (l.toTr y)
 |.need p x=>.need p (l.toTr x)
def Lp.han(Γ:Gm)(l:Lp)(F:l.In->Fr l.Out)(s:St):Option Tr:=
 if s.n=l.n then match l.L.ext Γ s with
  |some (x,n)=>U (needL n (l.toTr (F x)))
  |none=>V
 else V
section
variable {P:Program} {B:Nat} {w w':World} {E:Env} {bs:Nat} {Γ:Gm}
def Lp.toTr_sat(l:Lp){Q:XE->St->Prop}:{f:Fr l.Out}->(l.toTr f).sat Q->f.satP λ
  |.next _=>False
  |.out y=>Q (.exit l.id) (l.E.tpl l.n y)
  |.back z=>Q .ret (l.R.tpl l.n z)
  |.pan p=>Q (.panic p) ⟨l.n,λ_=>.dead,λ_=>V,λ_=>.dead⟩
 |.val (.next _),h=>h.1
 |.val (.out _y),h=>h
 |.val (.back _z),h=>h
 |.val (.pan _),h=>h
 |.br _b _x _y,h=>⟨λa=>l.toTr_sat (h.1 a),λa=>l.toTr_sat (h.2 a)⟩
 |.need _p _x,h=>⟨h.1,l.toTr_sat h.2⟩
def Lp.rd_sat(l:Lp){Q:l.Round->Prop}:{t:Tr} -> {f:Fr l.Round}->l.rdOf Γ t=U f->f.satP Q->t.sat λe s=>match e with
  |.normal=>s.n=l.n/\∃ x n,l.L.ext Γ s=U (x,n)/\av n/\Q (.next x)
  |.exit i=>i=l.id/\s.n=l.n/\∃ x n,l.E.ext Γ s=U (x,n)/\av n/\Q (.out x)
  |.ret=>s.n=l.n/\∃ x n,l.R.ext Γ s=U (x,n)/\av n/\Q (.back x)
  |.panic p=>s.n=l.n/\Q (.pan p)
  |.val _=>False
  |.jump _=>False
 |.leaf .normal s,f,h,a=>by
  simp only[Lp.rdOf]at h;split at h<;>try trivial
  rename_i d;split at h<;>try trivial
  rename_i x n c;cases h;obtain⟨g,j⟩:=E4 a;exact⟨d,x,n,c,g,j⟩
 |.leaf (.exit i) s,f,h,a=>by
  simp only[Lp.rdOf]at h;split at h<;>try trivial
  rename_i d;split at h<;>try trivial
  rename_i x n c;cases h;obtain⟨g,j⟩:=E4 a;exact⟨d.1,d.2,x,n,c,g,j⟩
 |.leaf .ret s,f,h,a=>by
  simp only[Lp.rdOf]at h;split at h<;>try trivial
  rename_i d;split at h<;>try trivial
  rename_i x n c;cases h;obtain⟨g,j⟩:=E4 a;exact⟨d,x,n,c,g,j⟩
 |.leaf (.panic p) s,f,h,a=>by
  simp only[Lp.rdOf]at h;split at h<;>try trivial
  rename_i d;cases h;exact⟨d,a⟩
 |.leaf (.val _) s,f,h,a=>by simp[Lp.rdOf]at h
 |.leaf (.jump _) s,f,h,a=>by simp[Lp.rdOf]at h
 |.br b x y,f,h,a=>by
  simp only[Lp.rdOf]at h;split at h<;>try trivial
  rename_i q r c m;cases h;exact⟨λk=>l.rd_sat c (a.1 k),λk=>l.rd_sat m (a.2 k)⟩
 |.need p x,f,h,a=>by
  simp only[Lp.rdOf]at h;split at h<;>try trivial
  rename_i q c;cases h;have:=l.rd_sat c a.2;exact⟨a.1,this⟩
 |.two p x y,f,h,a=>by
  simp only[Lp.rdOf]at h;split at h<;>try trivial
  rename_i q r c m;cases h;refine⟨λo=>l.rd_sat c (nL (a.1 o).1 ?_),l.rd_sat m a.2⟩;rw[(a.1 o).2];exact(cO a.2).2
end
inductive Oc (α:Type) where
 |ok (x:α)
 |pan (p:PV)
def Pp:(ts:List Ty)->aa ts
 |[]=>()
 |t::r=>(t.dflt,Pp r)
def Oc.bad:Oc α->Bool
 |.ok _=>Y
 |.pan _=>Z
def Oc.pv:Oc α->PV
 |.ok _=>⟨0,.i64,0⟩
 |.pan p=>p
def Oc.val{ts:List Ty}:Oc (aa ts)->aa ts
 |.ok x=>x
 |.pan _=>Pp ts
def Bp(P:Program)(a:List ResultVar)(rs:List Ty)(s:St):Option (Fr (Oc (aa rs))):=
 match gv P s a with
 |some (vs,n)=>match dK s.mem vs with
  |some (xs,_)=>match g9 rs xs with
   |some y=>U (Fr.needL n (.val (.ok y)))
   |none=>V
  |none=>V
 |none=>V
def iL(P:Program)(a:List ResultVar)(rs:List Ty):Tr->Option (Fr (Oc (aa rs)))
 |.leaf .ret s=>Bp P a rs s
 |.leaf .normal s=>Bp P a rs s
 |.leaf (.panic p) _=>U (.val (.pan p))
 |.leaf _ _=>V
 |.br b x y=>match iL P a rs x,iL P a rs y with
  |some c,U d=>U (.br b c d)
  |_,_=>V
 |.need p x=>match iL P a rs x with
  |some c=>U (.need p c)
  |none=>V
 |.two p x y=>match iL P a rs x,iL P a rs y with
  |some c,U d=>U (.need (p->c.ok/\c.get=d.get) d)
  |_,_=>V
def KB(P:Program)(C:Cx)(Λ:Nat->St->Option Tr)(fn:Func)(ps:List PT)(rs:List Ty)(xs:ag ps):Option (Fr (Oc (aa rs))):=
 match fn.body with
 |some c=>if (fn.name == "runtime.NumGoroutine")=Y/\ps.length<=fn.ntmps then match cr P C 0 Λ c 0 (sj fn.ntmps (eI ps xs))with
   |some t=>iL P fn.results.toList rs t
   |none=>V
  else V
 |none=>V
section
variable {P:Program} {w w':World} {E:Env} {F F':Nat->Prop} {γ γ':Nat->Value}
def ua{j:List ResultVar}{rs:List Ty}:{t:Tr} -> {f:Fr (Oc (aa rs))}->iL P j rs t=U f->f.ok->t.sat λe s=>match e with
  |.panic p=>f.get=.pan p
  |.ret=>∃ vs n xs u y,gv P s j=U (vs,n)/\av n/\dK s.mem vs=U (xs,u)/\g9 rs xs=U y/\f.get=.ok y
  |.normal=>∃ vs n xs u y,gv P s j=U (vs,n)/\av n/\dK s.mem vs=U (xs,u)/\g9 rs xs=U y/\f.get=.ok y
  |_=>False
 |.leaf e s,f,h,a=>by
  have key:Bp P j rs s=U f->∃ vs n xs u y,gv P s j=U (vs,n)/\av n/\dK s.mem vs=U (xs,u)/\g9 rs xs=U y/\f.get=.ok y:=λh=>by
   unfold Bp at h;split at h<;>try trivial
   rename_i vs n o;split at h<;>try trivial
   rename_i xs u c;split at h<;>try trivial
   rename_i y g;cases h;exact⟨vs,n,xs,u,y,o,(uM _ a).1,c,g,uK _⟩
  cases e with
  |exit i=>simp[iL]at h
  |panic p=>
   simp only[iL,ucl]at h;subst h;rfl
  |val v=>simp[iL]at h
  |jump v=>simp[iL]at h
  |normal=>exact key h
  |ret=>exact key h
 |.br b x y,f,h,a=>by
  simp only[iL]at h;split at h<;>try trivial
  rename_i l q c g;cases h;refine⟨λd=>?_,λd=>?_⟩;have:=ua c (a.1 d);simpa only[Fr.get,d,if_true]using this;have:=ua g (a.2 d);simpa only[Fr.get,d,ub3,ufs]using this
 |.need p x,f,h,a=>by
  simp only[iL]at h;split at h<;>try trivial
  rename_i l c;cases h;have:=ua c a.2;exact⟨a.1,this⟩
 |.two p x y,f,h,a=>by
  simp only[iL]at h;split at h<;>try trivial
  rename_i l q c g;cases h;have m:=ua g a.2;refine⟨λk=>?_,m⟩;have:=ua c (a.1 k).1
  rwa [(a.1 k).2]at this
def rV:{ps:List PT} -> {xs:ag ps} -> {vs:List Value}->cJ P w F ps xs vs->vs.length=ps.length
 |[],_,_,h=>by cases h;rfl
 |_::_,_,_,⟨_,_,a,_,b⟩=>by subst a;simp[rV b]
def Q0{C:Cx}(W:CxOK P C){Λ:Nat->St->Option Tr}{fn:Func}{ps:List PT}{rs:List Ty}{fr:ag ps->Fr (Oc (aa rs))}(x0:ag ps)(Q:P.funcs[f]?= U fn)(hΛ:∀ c E,fn.body=U c->bP P E Λ c 0)(l:∀ xs,KB P C Λ fn ps rs xs=U (fr xs)):
  jz P f ⟨ps,rs,λxs=>(fr xs).get.val,λxs=>(fr xs).get.bad,λxs=>(fr xs).get.pv,λxs=>[(fr xs).ok]⟩:=by
 have d:=l x0;unfold KB at d;split at d<;>try trivial
 rename_i c m;split at d<;>try trivial
 rename_i O;refine⟨enters Q m O.1,λw F xs vs G T H=>ufd Q m ?_⟩;have g:=l xs;unfold KB at g;simp only[m,O,ufr,if_true]at g;split at g<;>try trivial
 rename_i t ht;have S:vs.length=ps.length:=rV T;have i:=vV (D:=[]) (n:=fn.ntmps) G (λR=>mO T) (by omega);have L:=fR W c 0 (hΛ c _ m) ht (ua g H) i;have hsz:(vs.toArray).size=vs.length:=by simp
 refine wp_mono L ?_;rintro e N w' ⟨xe,s,rfl,⟨F',γ',hi⟩,r⟩;obtain⟨γ0,d⟩:=hi.step;have j:(∃ vs n q u y,gv P s fn.results.toList=U (vs,n)/\av n/\dK s.mem vs=U (q,u)/\g9 rs q=U y/\(fr xs).get=.ok y) ->
   N.defers=[]/\∃ v,(results fn N.tmps).run P w'=.ok v w'/\(((fr xs).get.bad=Y/\fJ w F rs (fr xs).get.val (.returned v) w')\/((fr xs).get.bad=Z/\Ending.returned v=.panicked [{ v:=(fr xs).get.pv.val,recovered:=Y }]/\Below w.heap.size w w')):=by
  rintro⟨vs,n,q,u,y,A,hn,K,x,k⟩;obtain⟨us,z,o⟩:=nz hi A hn;obtain⟨F'',hs,hm',_,M⟩:=iy hi.mem (dv hi) (cX.of λ_ _ h=>h) K o;have a:=d.trans hs;refine⟨hi.df,_,pz z,.inl ⟨by rw[k];rfl,_,F'',rfl,⟨a.os,a.tape,a.output,a.size,a.old⟩,a.hF,λb m=>⟨a.new b m,a.bd b m⟩,?_⟩⟩;rw[k];exact vH (lC x M)
 cases xe with
 |normal=>exact j r
 |ret=>exact j r
 |panic p=>
  have B:=r;refine⟨hi.df,.inr ⟨?_,?_,⟨d.os,d.tape,d.output,d.size,d.old⟩⟩⟩;show(fr xs).get.bad=Z;rw[B];rfl;show Ending.panicked _=Ending.panicked [{ v:=(fr xs).get.pv.val,recovered:=Y }];rw[B];rfl
 |exit _=>exact r.elim
 |val _=>exact r.elim
 |jump _=>exact r.elim
def OP{a:Pc}(h:jz P f a)(g:ag a.ps->aa a.rs)(bad:ag a.ps->Bool)(pv:ag a.ps->PV)(ok:ag a.ps->List Prop)(q:∀ w F xs vs,cJ P w F a.ps xs vs->av (ok xs)->av (a.ok xs)/\a.bad xs=bad xs/\(bad xs=Y->a.f xs=g xs)/\(bad xs=Z->a.pv xs=pv xs)):jz P f ⟨a.ps,a.rs,g,bad,pv,ok⟩:=by
 refine⟨h.1,λw F xs vs o k i=>?_⟩;obtain⟨l,j,m,n⟩:=q w F xs vs k i;refine(h.2 w F xs vs o k l).mono λe w' p=>?_;rcases p with ⟨b,r⟩|⟨b,rfl,d⟩
 have c:=j ▸ b;refine .inl ⟨c,?_⟩;show fJ w F a.rs (g xs) e w';rw[<- m c];exact r;have c:=j ▸ b;refine .inr ⟨c,?_,d⟩;rw[n c]
end
structure Pt where
 n:Nat
 id:Nat
 M:LS
 E:LS
 R:LS
def Pt.lp(p:Pt):Lp:=⟨p.n,p.id,p.M,p.E,p.R⟩
abbrev Pt.Out(p:Pt):Type:=Rd p.M.X p.E.X p.R.X
def zI(P:Program)(E:Env)(p:Pt)(Q:p.Out->Prop)(e:Exit)(a:Act)(w:World):Prop:=
 ∃ r,Q r/\match r with
  |.next m=>e=.normal/\I P E (p.M.tpl p.n m) a w
  |.out y=>e=.exit p.id/\I P E (p.E.tpl p.n y) a w
  |.back z=>e=.ret/\I P E (p.R.tpl p.n z) a w
  |.pan v=>e=.panic [{ v:=v.val,recovered:=Y }]/\∃ s,s.n=p.n/\I P E s a w
def ae(P:Program)(c:Code)(L:LS)(p:Pt)(f:L.X->Fr p.Out):Prop:=
 ∀ (E:Env) (a:Act) (w:World) (x:L.X) (Q:p.Out->Prop),I P E (L.tpl p.n x) a w->(f x).satP Q->c.wp P (zI P E p Q) a w
def nB(P:Program)(C:Cx)(bs:Nat)(Λ:Nat->St->Option Tr)(c:Code)(L:LS)(p:Pt)(x:L.X):Option (Fr p.Out):=
 match cr P C bs Λ c 0 (L.tpl p.n x)with
 |some t=>p.lp.rdOf C.Γ t
 |none=>V
def Fr.bindR{X a c W:Type}(k:X->Fr (Rd W a c)):Fr (Rd X a c)->Fr (Rd W a c)
 |.val (.next m)=>k m
 |.val (.out y)=>.val (.out y)
 |.val (.back z)=>.val (.back z)
 |.val (.pan p)=>.val (.pan p)
 |.br b x y=>.br b (x.bindR k) (y.bindR k)
 |.need p x=>.need p (x.bindR k)
def Fr.outR{a c W:Type}:Fr (Rd a a c)->Fr (Rd a W c)
 |.val (.next m)=>.val (.next m)
 |.val (.out y)=>.val (.next y)
 |.val (.back z)=>.val (.back z)
 |.val (.pan p)=>.val (.pan p)
 |.br b x y=>.br b x.outR y.outR
 |.need p x=>.need p x.outR
section
variable {P:Program} {E:Env}
def Fr.bindR_sat{X b c W:Type}{k:X->Fr (Rd W b c)}{Q:Rd W b c->Prop}:{f:Fr (Rd X b c)}->(f.bindR k).satP Q->f.satP λ
  |.next m=>(k m).satP Q
  |.out y=>Q (.out y)
  |.back z=>Q (.back z)
  |.pan p=>Q (.pan p)
 |.val (.next _),h=>h
 |.val (.out _),h=>h
 |.val (.back _),h=>h
 |.val (.pan _),h=>h
 |.br _b _x _y,h=>⟨λa=>bindR_sat (h.1 a),λa=>bindR_sat (h.2 a)⟩
 |.need _p _x,h=>⟨h.1,bindR_sat h.2⟩
def Fr.outR_sat{b c W:Type}{Q:Rd b W c->Prop}:{f:Fr (Rd b b c)}->f.outR.satP Q->f.satP λ
  |.next m=>Q (.next m)
  |.out y=>Q (.next y)
  |.back z=>Q (.back z)
  |.pan p=>Q (.pan p)
 |.val (.next _),h=>h
 |.val (.out _),h=>h
 |.val (.back _),h=>h
 |.val (.pan _),h=>h
 |.br _b _x _y,h=>⟨λa=>outR_sat (h.1 a),λa=>outR_sat (h.2 a)⟩
 |.need _p _x,h=>⟨h.1,outR_sat h.2⟩
def Fr.satP_mono{Q c:α->Prop}(h:∀ x,Q x->c x):{f:Fr α}->f.satP Q->f.satP c
 |.val _,a=>h _ a
 |.br _ _ _,a=>⟨λb=>satP_mono h (a.1 b),λb=>satP_mono h (a.2 b)⟩
 |.need _ _,a=>⟨a.1,satP_mono h a.2⟩
def ae.of_run{C:Cx}(n:CxOK P C){bs:Nat}{Λ:Nat->St->Option Tr}{c:Code}{L:LS}{p:Pt}(r:p.M.low=Z)(q:p.E.low=Z)(s:p.R.low=Z)(hΛ:∀ E,bP P E Λ c 0){f:L.X->Fr p.Out}(z:∀ x,nB P C bs Λ c L p x=U (f x)):ae P c L p f:=by
 intro E a w x Q hi u;have j:=z x;unfold nB at j;split at j<;>try trivial
 rename_i t A;have l:=p.lp.rd_sat j u;refine wp_mono (fR n c 0 (hΛ E) A l hi) ?_;rintro e F w' ⟨D,B,rfl,h,b⟩;cases D with
 |normal=>
  obtain⟨d,y,o,m,k,g⟩:=b;have:=jG n.ct r h m k;rw[d]at this;exact⟨.next y,g,rfl,this⟩
 |exit i=>
  obtain⟨rfl,d,y,o,m,k,g⟩:=b;have:=jG n.ct q h m k;rw[d]at this;exact⟨.out y,g,rfl,this⟩
 |ret=>
  obtain⟨d,y,o,m,k,g⟩:=b;have:=jG n.ct s h m k;rw[d]at this;exact⟨.back y,g,rfl,this⟩
 |panic v=>exact⟨.pan v,b.2,rfl,B,b.1,h⟩
 |val _=>exact b.elim
 |jump _=>exact b.elim
def ae.conv{c:Code}{L:LS}{p:Pt}{f g:L.X->Fr p.Out}(h:ae P c L p f)(b:∀ x Q,(g x).satP Q->(f x).satP Q):ae P c L p g:=
 λE a w x Q hi d=>h E a w x Q hi (b x Q d)
def ae.seq{a b:Code}{L M N Eo R:LS}{id:Nat}{f:L.X->Fr (Rd M.X Eo.X R.X)}{g:M.X->Fr (Rd N.X Eo.X R.X)}(k:ae P a L ⟨n,id,M,Eo,R⟩ f)(l:ae P b M ⟨n,id,N,Eo,R⟩ g):
  ae P (.seq a b) L ⟨n,id,N,Eo,R⟩ λx=>(f x).bindR g:=by
 intro E j w x Q hi o;refine wp_seq (wp_mono (k E j w x _ hi (Fr.bindR_sat o)) ?_);rintro e i w' ⟨r,h,d⟩;cases r with
 |next m=>
  obtain⟨rfl,c⟩:=d;exact l E i w' m Q c h
 |out y=>
  obtain⟨rfl,c⟩:=d;exact⟨.out y,h,rfl,c⟩
 |back z=>
  obtain⟨rfl,c⟩:=d;exact⟨.back z,h,rfl,c⟩
 |pan v=>
  obtain⟨rfl,c⟩:=d;exact⟨.pan v,h,rfl,c⟩
def ae.block{c:Code}{L M Eo R:LS}{id g:Nat}{f:L.X->Fr (Rd M.X M.X R.X)}(h:ae P c L ⟨n,id,M,M,R⟩ f):ae P (.block id c) L ⟨n,g,M,Eo,R⟩ λx=>(f x).outR:=by
 intro E i w x Q hi j;refine wp_block (wp_mono (h E i w x _ hi (Fr.outR_sat j)) ?_);rintro e k w' ⟨r,d,b⟩;cases r with
 |next m=>
  obtain⟨rfl,a⟩:=b;exact⟨.next m,d,rfl,a⟩
 |out y=>
  obtain⟨rfl,a⟩:=b;unfold Exit.inBlock;simp;exact⟨.next y,d,rfl,a⟩
 |back z=>
  obtain⟨rfl,a⟩:=b;exact⟨.back z,d,rfl,a⟩
 |pan v=>
  obtain⟨rfl,a⟩:=b;exact⟨.pan v,d,rfl,a⟩
def ae.loop {c:Code} {L N Eo R:LS} {id:Nat} {f:L.X->Fr (Rd L.X Eo.X R.X)} (h:ae P c L ⟨n,id,L,Eo,R⟩ f) {F:L.X->Fr (Rd N.X Eo.X R.X)} {inv:L.X->Prop} {μ:L.X->Nat}
  (j:∀ x,inv x->∀ Q:Rd N.X Eo.X R.X->Prop,(F x).satP Q->(f x).satP λ
   |.next g=>inv g/\μ g<μ x/\(F g).satP Q
   |.out y=>Q (.out y)
   |.back z=>Q (.back z)
   |.pan p=>Q (.pan p)) (i:∀ x Q,(F x).satP Q->inv x):ae P (.loop c) L ⟨n,id,N,Eo,R⟩ F:=by
 intro E a w x Q hi q;refine zdd (λm a w=>∃ x,inv x/\μ x=m/\I P E (L.tpl n x) a w/\(F x).satP Q) ⟨μ x,x,i x Q q,rfl,hi,q⟩ ?_;rintro m a w ⟨x,s,rfl,o,l⟩;refine wp_mono (h E a w x _ o (j x s Q l)) ?_;rintro e t w' ⟨r,d,k⟩;cases r with
 |next g=>
  obtain⟨rfl,b⟩:=k;exact⟨μ g,d.2.1,g,d.1,rfl,b,d.2.2⟩
 |out y=>
  obtain⟨rfl,b⟩:=k;exact⟨.out y,d,rfl,b⟩
 |back z=>
  obtain⟨rfl,b⟩:=k;exact⟨.back z,d,rfl,b⟩
 |pan v=>
  obtain⟨rfl,b⟩:=k;exact⟨.pan v,d,rfl,b⟩
def Pt.toTr(p:Pt):Fr p.Out->Tr
 |.val (.next m)=>.leaf .normal (p.M.tpl p.n m)
 |.val (.out y)=>.leaf (.exit p.id) (p.E.tpl p.n y)
 |.val (.back z)=>.leaf .ret (p.R.tpl p.n z)
 |.val (.pan v)=>.leaf (.panic v) ⟨p.n,λ_=>.dead,λ_=>V,λ_=>.dead⟩
 |.br b x y=>.br b (p.toTr x) (p.toTr y)
 |.need q x=>.need q (p.toTr x)
def Pt.han(Γ:Gm)(L:LS)(p:Pt)(F:L.X->Fr p.Out)(s:St):Option Tr:=
 if s.n=p.n then match L.ext Γ s with
  |some (x,n)=>U (needL n (p.toTr (F x)))
  |none=>V
 else V
def Pt.toTr_sat(p:Pt){Q:XE->St->Prop}:{f:Fr p.Out}->(p.toTr f).sat Q->f.satP λ
  |.next m=>Q .normal (p.M.tpl p.n m)
  |.out y=>Q (.exit p.id) (p.E.tpl p.n y)
  |.back z=>Q .ret (p.R.tpl p.n z)
  |.pan v=>Q (.panic v) ⟨p.n,λ_=>.dead,λ_=>V,λ_=>.dead⟩
 |.val (.next _),h=>h
 |.val (.out _),h=>h
 |.val (.back _),h=>h
 |.val (.pan _),h=>h
 |.br _b _x _y,h=>⟨λa=>p.toTr_sat (h.1 a),λa=>p.toTr_sat (h.2 a)⟩
 |.need _q _x,h=>⟨h.1,p.toTr_sat h.2⟩
def ae.han{C:Cx}(u:CxOK P C){c:Code}{L:LS}{p:Pt}{F:L.X->Fr p.Out}(D:L.low=Z)(h:ae P (.loop c) L p F):i5 P E c (p.han C.Γ L F):=by
 intro s t j Q G a w hi;unfold Pt.han at j;split at j<;>try trivial
 rename_i q;split at j<;>try trivial
 rename_i x n K;cases j;obtain⟨l,o⟩:=jm _ G;have b:=jG u.ct D hi K l;rw[q]at b;refine wp_mono (h E a w x _ b (p.toTr_sat o)) ?_;rintro e B w' ⟨r,i,f⟩;cases r with
 |next m=>
  obtain⟨rfl,b⟩:=f;exact⟨.normal,_,rfl,b,i⟩
 |out y=>
  obtain⟨rfl,b⟩:=f;exact⟨.exit p.id,_,rfl,b,i⟩
 |back z=>
  obtain⟨rfl,b⟩:=f;exact⟨.ret,_,rfl,b,i⟩
 |pan v=>
  obtain⟨rfl,M,k,b⟩:=f;have d:I P E ⟨p.n,λ_=>.dead,λ_=>V,λ_=>.dead⟩ B w':=by
   have:=jG u.ct (L:=⟨[],[]⟩) rfl b rfl trivial;rw[k]at this;obtain⟨F',γ',h⟩:=this;exact⟨F',γ',h.n,h.df,h.step,h.mem,λt=>uT,λt g A v H=>(nomatch H),λt=>uT⟩
  exact⟨.panic v,_,rfl,d,i⟩
end
def Bk:(ts:List Ty)->aa ts
 |[]=>()
 |t::r=>(t.dflt,Bk r)
def aW:(ps:List PT)->ag ps
 |[]=>()
 |.d t::r=>(t.dflt,aW r)
 |.ptr t::r=>(t.dflt,aW r)
 |.fn _ rs::r=>(λ_=>Bk rs,aW r)
 |.pf _ rs::r=>((λ_=>Bk rs,λ_=>False),aW r)
 |.pfn _ rs::r=>(λ_=>Bk rs,aW r)
 |.pk _::r=>((),aW r)
def H0:(a:List YF)->jD a
 |[]=>()
 |(U _,_)::r=>([],H0 r)
 |(V,t)::r=>(t.dflt,H0 r)
def bN:(b:List MI)->cR b
 |[]=>()
 |.o _ _ _::r=>([],bN r)
 |.x _ _ ty::r=>(ty.dflt,bN r)
 |.r _ _ _::r=>bN (r)
 |.y _ _ a::r=>(H0 a,bN r)
 |.g _ _ _::r=>bN (r)
 |.al _ _::r=>bN (r)
def cu:List (FuncId×α)->FuncId->Option α
 |[],_=>V
 |(g,c)::r,f=>if f=g then U c else cu r f
def iz(P:Program):List (FuncId×Ct)->Prop
 |[]=>True
 |(f,c)::r=>af P f c/\iz P r
def zmh(P:Program):List (FuncId×Pc)->Prop
 |[]=>True
 |(f,c)::r=>jz P f c/\zmh P r
def iz.get:{l:List (FuncId×Ct)}->iz P l->∀ f c,cu l f=U c->af P f c
 |[],_,f,c,h=>by simp[cu]at h
 |(g,d)::r,b,f,c,h=>by
  unfold cu at h;split at h;rename_i a;injection h with h
  subst h a;exact b.1;exact iz.get b.2 f c h
def zmh.get:{l:List (FuncId×Pc)}->zmh P l->∀ f c,cu l f=U c->jz P f c
 |[],_,f,c,h=>by simp[cu]at h
 |(g,d)::r,b,f,c,h=>by
  unfold cu at h;split at h;rename_i a;injection h with h
  subst h a;exact b.1;exact zmh.get b.2 f c h
def cx(cs:List (FuncId×Ct))(ps:List (FuncId×Pc)):Cx:=⟨cu cs,cu ps,λ_ _ _ _=>V⟩
def cW(cs:List (FuncId×Ct))(ps:List (FuncId×Pc))(K:Nat->FuncId->List AV->St->Option Tr):Cx:=⟨cu cs,cu ps,K⟩
def aP(a:P.follows .mixedOrders=Z){cs:List (FuncId×Ct)}{ps:List (FuncId×Pc)}(h:iz P cs)(k:zmh P ps):CxOK P (cx cs ps):=
 ⟨a,⟨h.get,λ_ _ h=>(nomatch h)⟩,k.get,λ_ _ _ _ _ h=>(nomatch h)⟩
def cZ(b:P.follows .mixedOrders=Z){cs:List (FuncId×Ct)}{ps:List (FuncId×Pc)}{K:Nat->FuncId->List AV->St->Option Tr}(h:iz P cs)(k:zmh P ps)(a:gQ P K):CxOK P (cW cs ps K):=
 ⟨b,⟨h.get,λ_ _ h=>(nomatch h)⟩,k.get,a⟩
def ws(P:Program):List (FuncId×Row)->Prop
 |[]=>True
 |(f,r)::l=>zZ P f r/\ws P l
def ws.get:{l:List (FuncId×Row)}->ws P l->∀ f c,cu l f=U c->zZ P f c
 |[],_,f,c,h=>by simp[cu]at h
 |(g,d)::r,a,f,c,h=>by
  simp only[cu]at h;split at h;rename_i b;subst b;cases h;exact a.1;exact ws.get a.2 f c h
def l8(cs:List (FuncId×Ct))(ps:List (FuncId×Pc))(rs:List (FuncId×Row))(K:Nat->FuncId->List AV->St->Option Tr):Cx:=⟨⟨cu cs,cu rs⟩,cu ps,K⟩
def mI(b:P.follows .mixedOrders=Z){cs:List (FuncId×Ct)}{ps:List (FuncId×Pc)}{rs:List (FuncId×Row)}{K:Nat->FuncId->List AV->St->Option Tr}(h:iz P cs)(k:zmh P ps)(l:ws P rs)(a:gQ P K):CxOK P (l8 cs ps rs K):=
 ⟨b,⟨h.get,l.get⟩,k.get,a⟩
def bw:Nat->St->Option Tr:=λ_ _=>V
def aY{E:Env}:(c:Code)->(k:Nat)->bP P E bw c k
 |.seq a b,k=>⟨aY a k,aY b _⟩
 |.cond _ a b,k=>⟨aY a k,aY b _⟩
 |.block _ c,k=>aY c k
 |.scope c,k=>aY c k
 |.loop _,_=>λ_ _ h=>nomatch h
 |.skip,_=>trivial
 |.ret,_=>trivial
 |.exit _,_=>trivial
 |.region _ _ _,_=>trivial
 |.label _,_=>trivial
 |.goto _,_=>trivial
 |.rangeFunc _ _ _ _,_=>trivial
 |.refuse _,_=>trivial
def loopB:Code->Nat->Option Code
 |.loop c,0=>U c
 |.seq a b,k=>if k<ce a then loopB a k else loopB b (k-ce a)
 |.cond _ a b,k=>if k<ce a then loopB a k else loopB b (k-ce a)
 |.block _ c,k=>loopB c k
 |.scope c,k=>loopB c k
 |_,_=>V
def au(f:Func)(k:Nat):Code:=(f.body.bind (loopB · k)).getD .skip
def loopB_lt:{c:Code} -> {k:Nat} -> {b:Code}->loopB c k=U b->k<ce c
 |.loop _,0,_,_=>udu
 |.loop _,_+1,_,h=>by simp[loopB]at h
 |.seq x y,k,b,h=>by
  simp only[loopB]at h;simp only[ce];split at h;omega;have:=loopB_lt h;omega
 |.cond _ x y,k,b,h=>by
  simp only[loopB]at h;simp only[ce];split at h;omega;have:=loopB_lt h;omega
 |.block _ c,k,b,h=>loopB_lt (c:=c) h
 |.scope c,k,b,h=>loopB_lt (c:=c) h
 |.skip,_,_,h=>by simp[loopB]at h
 |.region _ _ _,_,_,h=>by simp[loopB]at h
 |.ret,_,_,h=>by simp[loopB]at h
 |.exit _,_,_,h=>by simp[loopB]at h
 |.label _,_,_,h=>by simp[loopB]at h
 |.goto _,_,_,h=>by simp[loopB]at h
 |.rangeFunc _ _ _ _,_,_,h=>by simp[loopB]at h
 |.refuse _,_,_,h=>by simp[loopB]at h
def jJ{E:Env}{Λ:Nat->St->Option Tr}:(c:Code)->(k:Nat)->(∀ i b,loopB c i=U b->i5 P E b (Λ (k+i)))->bP P E Λ c k
 |.loop b,k,h=>h 0 b rfl
 |.seq x y,k,h=>⟨jJ x k λi b a=>h i b (by simp only[loopB];rw[ufv (loopB_lt a)];exact a),jJ y _ λi b a=>by
   have:=h (ce x+i) b (by simp only[loopB];rw[ufw (by omega),uax];exact a)
   rwa [<- ueh]at this⟩
 |.cond _ x y,k,h=>⟨jJ x k λi b a=>h i b (by simp only[loopB];rw[ufv (loopB_lt a)];exact a),jJ y _ λi b a=>by
   have:=h (ce x+i) b (by simp only[loopB];rw[ufw (by omega),uax];exact a)
   rwa [<- ueh]at this⟩
 |.block _ c,k,h=>jJ c k h
 |.scope c,k,h=>jJ c k h
 |.skip,_,_=>trivial
 |.ret,_,_=>trivial
 |.exit _,_,_=>trivial
 |.region _ _ _,_,_=>trivial
 |.label _,_,_=>trivial
 |.goto _,_,_=>trivial
 |.rangeFunc _ _ _ _,_,_=>trivial
 |.refuse _,_,_=>trivial
def kP{E:Env}{Λ:Nat->St->Option Tr}{c b:Code}(g:ce c=1)(d:loopB c 0=U b)(h:i5 P E b (Λ 0)):bP P E Λ c 0:=by
 refine jJ c 0 λi e a=>?_;have f:=loopB_lt a;have hi:i=0:=by omega
 subst hi;rw[d]at a;cases a;exact h
def zlp{E:Env}{Λ:Nat->St->Option Tr}{fn:Func}{c b:Code}(e:fn.body=U c)(d:(fn.body.map ce)=U 1)(a:fn.body.bind (loopB · 0)=U b)(h:i5 P E b (Λ 0)):bP P E Λ c 0:=by
 rw[e]at d a;exact kP (by simpa using d) (by simpa using a) h
def C8{E:Env}{Λ:Nat->St->Option Tr}{fn:Func}{c b0 b1:Code}(h:fn.body=U c)(e:(fn.body.map ce)=U 2)(b:fn.body.bind (loopB · 0)=U b0)(d:fn.body.bind (loopB · 1)=U b1)(f:i5 P E b0 (Λ 0))(g:i5 P E b1 (Λ 1)):bP P E Λ c 0:=by
 rw[h]at e b d;simp at e;simp at b d;refine jJ c 0 λi k a=>?_;have j:=loopB_lt a;have hi:i=0\/i=1:=by omega
 rcases hi with rfl|rfl
 rw[b]at a;cases a;exact f;rw[d]at a;cases a;exact g
def flat{C:Cx}(b:CxOK P C){fn:Func}{ps:List PT}{rs:List Ty}{fr:ag ps->Fr (aa rs)}(h:ag ps)(d:P.funcs[f]?= U fn)(a:∀ xs,mf P C bw fn ps rs xs=U (fr xs))(g:ag ps->aa rs)(ok:ag ps->List Prop)(e:∀ w F xs vs,cJ P w F ps xs vs->av (ok xs)->(fr xs).ok/\(fr xs).get=g xs):af P f ⟨ps,rs,g,ok⟩:=
 conv (cf b h d (λc _E _=>aY c 0) a) g ok e
def IK(P:Program)(Γ:Gm)(f:FuncId)(fn:Func)(L:LS)(p:Pt)(F:L.X->Fr p.Out)(_d:Nat)(g:FuncId)(args:List AV)(s:St):Option Tr:=
 if g=f/\args.length<=fn.ntmps/\p.n=fn.ntmps then
  match L.ext Γ ⟨fn.ntmps,λi=>args.getD i .dead,s.mem,s.at⟩with
  |some (x,n)=>match gn P fn.results.toList s.n (p.toTr (F x))with
   |some t=>U (needL n t)
   |none=>V
  |none=>V
 else V
def qnb{C:Cx}(hC:CxOK P C){fn:Func}{c:Code}(hf:P.funcs[f]?= U fn)(hb:fn.body=U c)(hn:(fn.name == "runtime.NumGoroutine")=Y){L:LS}(hL:L.low=Z){p:Pt}{F:L.X->Fr p.Out}(h:ae P c L p F):
  gQ P (IK P C.Γ f fn L p F):=by
 intro d g args s t A;unfold IK at A;split at A<;>try trivial
 rename_i o;obtain⟨rfl,O,W⟩:=o;split at A<;>try trivial
 rename_i x n hx;split at A<;>try trivial
 rename_i t1 ht1;cases A;refine⟨enters hf hb hn,λE a w F0 γ vs Q hi hr hq=>ufd hf hb ?_⟩;have hlen:=hr.length;have k:=Vy (n:=fn.ntmps) hi hr (by omega);obtain⟨hq1,hq2⟩:=jm _ hq;have b:=jG hC.ct hL k hx hq1;have H:=qR ht1 hq2;have hsz:(vs.toArray).size=vs.length:=by simp
 have N:I P ⟨E.w0,E.F0,eZ a E,[],E.B,E.hB⟩ (L.tpl p.n x) { tmps:=vs.toArray++Array.replicate (fn.ntmps-vs.length) undef,defers:=[] } w:=by
  rw[W];exact b
 refine wp_mono (h _ _ w x _ N (p.toTr_sat H)) ?_;rintro e M w' ⟨r,j,R⟩;have l:∀ K:St,I P ⟨E.w0,E.F0,eZ a E,[],E.B,E.hB⟩ K M w'->(∃ vs ns,gv P K fn.results.toList=U (vs,ns)/\av ns/\Q (.val (rX vs)) (K.back s.n))->M.defers=[]/\∃ v,(results fn M.tmps).run P w'=.ok v w'/\Fb P E a Q (.returned v) w':=by
  rintro K ⟨F',γ',b⟩ ⟨vs,ns,G,T,hqv⟩;obtain⟨us,D,u⟩:=nz b G T;exact⟨b.df,_,pz D,_,_,F',γ',hqv,Cv hi b,_,rfl,U2 u⟩
 cases r with
 |next m=>
  obtain⟨rfl,i⟩:=R;exact l _ i j
 |out y=>exact j.elim
 |back z=>
  obtain⟨rfl,i⟩:=R;exact l _ i j
 |pan v=>
  obtain⟨rfl,K,S,i⟩:=R;have q:I P ⟨E.w0,E.F0,eZ a E,[],E.B,E.hB⟩ ⟨p.n,λ_=>.dead,λ_=>V,λ_=>.dead⟩ M w':=by
   have:=jG hC.ct (L:=⟨[],[]⟩) rfl i rfl trivial;rw[S]at this;obtain⟨F',γ',h⟩:=this;exact⟨F',γ',h.n,h.df,h.step,h.mem,λt=>uT,λt g want v A=>(nomatch A),λt=>uT⟩
  obtain⟨F',γ',h4⟩:=q;exact⟨h4.df,.panic v,_,F',γ',j,Cv hi h4,rfl⟩
def iS(K a:Nat->FuncId->List AV->St->Option Tr)(d:Nat)(f:FuncId)(args:List AV)(s:St):Option Tr:=
 match K d f args s with
 |some t=>U t
 |none=>a d f args s
def jN{K b:Nat->FuncId->List AV->St->Option Tr}(h:gQ P K)(c:gQ P b):gQ P (iS K b):=by
 intro d f args s t a;unfold iS at a;split at a;rename_i g e;cases a;exact h d f args s _ e;exact c d f args s t a
def qo9{E:Env}{Λ:Nat->St->Option Tr}{fn:Func}{c b0 b1 f:Code}(l:fn.body=U c)(g:(fn.body.map ce)=U 3)(b:fn.body.bind (loopB · 0)=U b0)(d:fn.body.bind (loopB · 1)=U b1)(e:fn.body.bind (loopB · 2)=U f)(h:i5 P E b0 (Λ 0))(j:i5 P E b1 (Λ 1))(k:i5 P E f (Λ 2)):bP P E Λ c 0:=by
 rw[l]at g b d e;simp at g;simp at b d e;refine jJ c 0 λi n a=>?_;have m:=loopB_lt a;have hi:i=0\/i=1\/i=2:=by omega
 rcases hi with rfl|rfl|rfl
 rw[b]at a;cases a;exact h;rw[d]at a;cases a;exact j;rw[e]at a;cases a;exact k
def dn{C:Cx}(a:CxOK P C){c:Code}{L:LS}{p:Pt}{f:L.X->Fr p.Out}(g:∀ x,nB P C 0 bw c L p x=U (f x):=by intro x;kernel_rfl)(d:p.M.low=true:=by rfl)(b:p.E.low=true:=by rfl)(e:p.R.low=true:=by rfl):ae P c L p f:=
 ae.of_run a d b e (λ_=>aY _ 0) g
abbrev bg(ps:List PT)(rs:List Ty)(fr:ag ps->Fr (aa rs)):Ct:=⟨ps,rs,λxs=>(fr xs).get,λxs=>[(fr xs).ok]⟩
def aS{C:Cx}(a:CxOK P C)(fn:Func){ps:List PT}{rs:List Ty}{fr:ag ps->Fr (aa rs)}(b:P.funcs[f]?= U fn:=by kernel_rfl)(h:∀ xs,mf P C bw fn ps rs xs=U (fr xs):=by intro x;kernel_rfl):af P f (bg ps rs fr):=
 cf a (aW ps) b (λc _ _=>aY c 0) h
section
variable {P:Program} {C:Cx} {fn:Func} {L1 L2 L3:LS} {p1 p2 p3:Pt} {F1:L1.X->Fr p1.Out} {F2:L2.X->Fr p2.Out} {F3:L3.X->Fr p3.Out} {f:FuncId} {ps:List PT} {rs:List Ty} {fr:ag ps->Fr (aa rs)}
def cS(a:CxOK P C)(b:ae P (.loop (au fn 0)) L1 p1 F1)(g:P.funcs[f]?= U fn:=by kernel_rfl)(i:fn.body.map ce=U 1:=by kernel_rfl)(d:fn.body.bind (loopB · 0)=U (au fn 0):=by kernel_rfl)(c:L1.low=true:=by rfl)(h:∀ xs,mf P C (λ_=>p1.han C.Γ L1 F1) fn ps rs xs=U (fr xs):=by intro x;kernel_rfl):af P f (bg ps rs fr):=
 cf a (aW ps) g (λ_ _ e=>zlp e i d (ae.han a c b)) h
def oP(a:CxOK P C)(d:ae P (.loop (au fn 0)) L1 p1 F1)(e:ae P (.loop (au fn 1)) L2 p2 F2)(l:P.funcs[f]?= U fn:=by kernel_rfl)(m:fn.body.map ce=U 2:=by kernel_rfl)(i:fn.body.bind (loopB · 0)=U (au fn 0):=by kernel_rfl)(c:fn.body.bind (loopB · 1)=U (au fn 1):=by kernel_rfl)(g:L1.low=true:=by rfl)(b:L2.low=true:=by rfl)(h:∀ xs,mf P C (λk=>if k=0 then p1.han C.Γ L1 F1 else p2.han C.Γ L2 F2) fn ps rs xs=U (fr xs):=by intro x;kernel_rfl):af P f (bg ps rs fr):=
 cf a (aW ps) l (λ_ _ j=>C8 j m i c (ae.han a g d) (ae.han a b e)) h
def Qy(a:CxOK P C)(g:ae P (.loop (au fn 0)) L1 p1 F1)(i:ae P (.loop (au fn 1)) L2 p2 F2)(j:ae P (.loop (au fn 2)) L3 p3 F3)(o:P.funcs[f]?= U fn:=by kernel_rfl)(p:fn.body.map ce=U 3:=by kernel_rfl)(m:fn.body.bind (loopB · 0)=U (au fn 0):=by kernel_rfl)(d:fn.body.bind (loopB · 1)=U (au fn 1):=by kernel_rfl)(e:fn.body.bind (loopB · 2)=U (au fn 2):=by kernel_rfl)(l:L1.low=true:=by rfl)(b:L2.low=true:=by rfl)(c:L3.low=true:=by rfl)(h:∀ xs,mf P C (λk=>if k=0 then p1.han C.Γ L1 F1 else if k=1 then p2.han C.Γ L2 F2 else p3.han C.Γ L3 F3) fn ps rs xs=U (fr xs):=by intro x;kernel_rfl):af P f (bg ps rs fr):=
 cf a (aW ps) o (λ_ _ n=>qo9 n p m d e (ae.han a l g) (ae.han a b i) (ae.han a c j)) h
end
structure TolOK (P:Program) (g:FuncId) (T:TypeId) (k:IntKind):Prop where
 enter:∀ args w,(callFunc g args).run P w=.ok (.enter g args) w
 idle:∀ (p:Addr) (w:World),CallsD P g #[.pointer (some p)] .returning w λe u' w'=>(∃ v,e=.returned v)/\u'=.returning/\w'=w
 told:∀ (b:Nat) (ty:TypeId) (old:Value) (n:Int) (w:World),w.heap[b]?= some (.cells #[old] ty (0,0)) ->
  CallsD P g #[.pointer (some ⟨b,0,none⟩)] (.panicking [{ v:=.iface T (.int k n),recovered:=false }]) w λe u' w'=>
   (∃ v,e=.returned v)/\u'=.panicking [{ v:=.iface T (.int k n),recovered:=true }]/\w'=w.setRow b #[.int k n]
def Em(T:TypeId)(k:IntKind)(p:PV)(s:St):Option St:=
 match s.gs 0 with
 |.c (.ptr id 0)=>match s.mem id with
  |some (.box e [_])=>if p.ty=T/\p.k=k/\T<1000000 then U ⟨s.n,s.sl,upd s.mem id (.box e [.int k p.n]),s.gs⟩else V
  |_=>V
 |_=>V
def ia(P:Program)(T:TypeId)(k:IntKind)(a:List ResultVar)(rs:List Ty):Tr->Option (Fr (aa rs))
 |.leaf .ret s=>dh P a rs s
 |.leaf .normal s=>dh P a rs s
 |.leaf (.panic p) s=>match Em T k p s with
  |some e=>match dh P a rs e with
   |some f=>U (.need (inR k p.n) f)
   |none=>V
  |none=>V
 |.leaf _ _=>V
 |.br b x y=>match ia P T k a rs x,ia P T k a rs y with
  |some c,U d=>U (.br b c d)
  |_,_=>V
 |.need p x=>match ia P T k a rs x with
  |some c=>U (.need p c)
  |none=>V
 |.two p x y=>match ia P T k a rs x,ia P T k a rs y with
  |some c,U d=>U (.need (p->c.ok/\c.get=d.get) d)
  |_,_=>V
def K7(P:Program)(C:Cx)(Λ:Nat->St->Option Tr)(g:FuncId)(T:TypeId)(k:IntKind)(fn:Func)(ps:List PT)(rs:List Ty)(xs:ag ps):Option (Fr (aa rs)):=
 match fn.body with
 |some (.seq A (.seq (.region _ ops Y) c))=>if (fn.name == "runtime.NumGoroutine")=Y/\ps.length<=fn.ntmps then
   match ops.toList with
   |[⟨V,.defer ⟨.value (.func f),args,_⟩,_,_,_,V⟩]=>match args.toList with
    |[.tmp tp]=>if f=g then
      match cr P C 0 Λ A 0 (sj fn.ntmps (eI ps xs))with
      |some (.leaf .normal s1)=>match s1.sl tp with
       |.c (.ptr id 0)=>match cr P C 0 Λ c (ce A) ⟨s1.n,s1.sl,s1.mem,λt=>if t=0 then .c (.ptr id 0)else .dead⟩with
        |some t=>ia P T k fn.results.toList rs t
        |none=>V
       |_=>V
      |_=>V
     else V
    |_=>V
   |_=>V
  else V
 |_=>V
section
variable {P:Program} {w w':World} {E:Env} {F F':Nat->Prop} {γ γ':Nat->Value}
def tO{b:List ResultVar}{rs:List Ty}{s:St}{f:Fr (aa rs)}(h:dh P b rs s=U f)(a:f.ok):∃ n,dh P b rs s=U (Fr.needL n (.val f.get))/\av n:=by
 have c:=h;unfold dh at h;split at h<;>try trivial
 split at h<;>try trivial
 split at h<;>try trivial
 cases h;refine⟨_,?_,(uM _ a).1⟩;rw[uK];exact c
def qW{T:TypeId}{g:List ResultVar}{rs:List Ty}:{t:Tr} -> {f:Fr (aa rs)}->ia P T k g rs t=U f->f.ok->t.sat λe s=>match e with
  |.ret=>∃ n,dh P g rs s=U (Fr.needL n (.val f.get))/\av n
  |.normal=>∃ n,dh P g rs s=U (Fr.needL n (.val f.get))/\av n
  |.panic p=>∃ j n,Em T k p s=U j/\inR k p.n/\dh P g rs j=U (Fr.needL n (.val f.get))/\av n
  |_=>False
 |.leaf e s,f,h,a=>by
  cases e with
  |exit i=>simp[ia]at h
  |val i=>simp[ia]at h
  |jump i=>simp[ia]at h
  |normal=>exact tO h a
  |ret=>exact tO h a
  |panic p=>
   simp only[ia]at h;split at h<;>try trivial
   rename_i j o;split at h<;>try trivial
   rename_i z m;cases h;obtain⟨n,v,l⟩:=tO m a.2;exact⟨j,n,o,a.1,v,l⟩
 |.br b x y,f,h,a=>by
  simp only[ia]at h;split at h<;>try trivial
  rename_i u w d q;cases h;refine⟨λc=>?_,λc=>?_⟩;have:=qW d (a.1 c);simpa only[Fr.get,c,if_true]using this;have:=qW q (a.2 c);simpa only[Fr.get,c,ub3,ufs]using this
 |.need p x,f,h,a=>by
  simp only[ia]at h;split at h<;>try trivial
  rename_i u d;cases h;have:=qW d a.2;exact⟨a.1,this⟩
 |.two p x y,f,h,a=>by
  simp only[ia]at h;split at h<;>try trivial
  rename_i u w d q;cases h;have l:=qW q a.2;refine⟨λr=>?_,l⟩;have:=qW d (a.1 r).1
  rwa [(a.1 r).2]at this
def tP{fn:Func}{rs:List Ty}{s:St}{a:Act}{y:aa rs}{n:List Prop}(hi:InvG P E s a w [] F γ)(i:E.B=E.w0.heap.size)(h:dh P fn.results.toList rs s=U (Fr.needL n (.val y)))(x:av n):
  ∃ v,(results fn a.tmps).run P w=.ok v w/\fJ E.w0 E.F0 rs y (.returned v) w:=by
 unfold dh at h;split at h<;>try trivial
 rename_i q A g;split at h<;>try trivial
 rename_i r u k;split at h<;>try trivial
 rename_i D e;injection h with h
 obtain⟨j,z⟩:=uL h x;subst z;obtain⟨C,f,d⟩:=nz hi g j;obtain⟨F'',p,t,_,l⟩:=iy hi.mem (dv hi) (cX.of λ_ _ h=>h) k d;obtain⟨γ0,m⟩:=hi.step;rw[i]at p m;have c:=m.trans p;exact⟨_,pz f,_,F'',rfl,⟨c.os,c.tape,c.output,c.size,c.old⟩,c.hF,λb o=>⟨c.new b o,c.bd b o⟩,vH (lC e l)⟩
def JO(h:arr.size=1):∃ v,arr = #[v]:=by
 refine⟨arr[0]'(by omega),?_⟩;apply ufn;simp[h];intro i a b;have:i=0:=by omega
 subst this;rfl
def VY{T:TypeId}{p:PV}{s m:St}{a:Act}(hi:InvG P E s a w [] F γ)(h:Em T k p s=U m)(y:inR k p.n):
  p.ty=T/\p.k=k/\T<1000000/\∃ b ty c,E.G 0=.pointer (U ⟨b,0,V⟩)/\w.heap[b]?= U (.cells #[c] ty (0,0))/\InvG P E m a (w.setRow b #[.int k p.n]) [] F γ:=by
 unfold Em at h;split at h<;>try trivial
 rename_i id d;split at h<;>try trivial
 rename_i e A j;split at h<;>try trivial
 rename_i g;cases h;have l:=hi.gh 0;rw[d]at l;obtain⟨b,arr,o,q,i,r,u,v,B⟩:=lw hi.mem j l.2;obtain⟨c,rfl⟩:=JO (by simpa using v);have f:cF #[c] 0 [.int k p.n] = #[.int k p.n]:=by simp[cF]
 obtain⟨s1,z⟩:=pJ (off:=0) (cs':=[.int k p.n]) (vs:=[.int k p.n]) hi.mem (dv hi) j o i r u (by simp) rfl ⟨⟨.int k p.n,by rw[f];rfl,rfl,rfl,y⟩,uT⟩;refine⟨g.1,g.2.1,g.2.2,b,e,c,q,i,⟨hi.n,hi.df,?_,z,λt=>(hi.sl t).mono s1.hF s1.hw s1.hR,hi.hg,λt=>s1.repA (hi.gh t)⟩⟩;obtain⟨γ0,x⟩:=hi.step;exact⟨γ0,x.trans s1⟩
def qfa{C:Cx}(hC:CxOK P C){Λ:Nat->St->Option Tr}{g:FuncId}{T:TypeId}{fn:Func}{ps:List PT}{rs:List Ty}{fr:ag ps->Fr (aa rs)}(x0:ag ps)(hf:P.funcs[f]?= some fn)(hT:TolOK P g T k)(hΛ:∀ c E,fn.body=some c->bP P E Λ c 0)(hrun:∀ xs,K7 P C Λ g T k fn ps rs xs=some (fr xs)):af P f ⟨ps,rs,λxs=>(fr xs).get,λxs=>[(fr xs).ok]⟩:=by
 have h0:=hrun x0;unfold K7 at h0;split at h0<;>try trivial
 rename_i A rid ops c hb;split at h0<;>try trivial
 rename_i hc;refine⟨enters hf hb hc.1,λw F xs vs hbd hr hok=>uce hf hb ?_⟩;have hr':=hrun xs;unfold K7 at hr';simp only[hb,hc,ufr,if_true]at hr';split at hr'<;>try trivial
 rename_i f0 args ats ty pos aft hops;split at hr'<;>try trivial
 rename_i tp hargs;split at hr'<;>try trivial
 rename_i hfg;subst hfg;split at hr'<;>try trivial
 rename_i s1 ht1;split at hr'<;>try trivial
 rename_i id hsl;split at hr'<;>try trivial
 rename_i t ht2;have hlam:=λE=>hΛ _ E hb;have hlen:vs.length=ps.length:=rV hr;have hstart:=vV (D:=[]) (n:=fn.ntmps) hbd (λR=>mO hr) (by omega);have hsz:(vs.toArray).size=vs.length:=by simp
 refine wp_seq (wp_mono (fR hC A 0 (hlam _).1 ht1 (Q:=λe s=>e=.normal/\s=s1) ⟨rfl,rfl⟩ hstart) ?_);rintro e a1 w1 ⟨xe,s,rfl,⟨F1,γ1,hi⟩,rfl,rfl⟩;obtain⟨ol⟩:=ops;subst hops;have hv0:=rm hi tp;rw[hsl]at hv0;obtain⟨_,b0,hR0,hv0⟩:=hv0;refine wp_seq (ufp ?_);have hargs':args = #[.tmp tp]:=by
  obtain⟨l⟩:=args;simp only at hargs;rw[hargs]
 subst hargs';have hev:a1.eval (.tmp tp)=.pointer (some ⟨b0,0,none⟩):=hv0;have hexec:(execOp a1.eval ⟨none,.defer ⟨.value (.func f0),#[.tmp tp],ats⟩,ty,pos,aft,none⟩).run P w1=.ok (.defer { target:=.fn (.func f0) #[],args:=#[.pointer (some ⟨b0,0,none⟩)] }) w1:=by
  have hef:a1.eval (.func f0)=.func (.func f0) #[] #[]:=rfl;simp[execOp,resolve,hev,hef,Deferred.ofValue]
 have hrange:List.range (#[(⟨none,.defer ⟨.value (.func f0),#[.tmp tp],ats⟩,ty,pos,aft,none⟩:Oper)]:Array Oper).size=[0]:=rfl;unfold wpOps;simp;have hw:Region.wanted (⟨none,.defer ⟨.value (.func f0),#[.tmp tp],ats⟩,ty,pos,aft,none⟩:Oper) (yielded #[(⟨none,.defer ⟨.value (.func f0),#[.tmp tp],ats⟩,ty,pos,aft,none⟩:Oper)] a1.tmps)=true:=rfl;refine .inl ?_;unfold Oper.wp;rw[hexec];have hi':InvG P ⟨w,F,λ_=>.pointer (some ⟨b0,0,none⟩),[{ target:=.fn (.func f0) #[],args:=#[.pointer (some ⟨b0,0,none⟩)] }],w.heap.size,ue9 _⟩ ⟨s.n,s.sl,s.mem,λt=>if t=0 then .c (.ptr id 0)else .dead⟩ { a1 with defers:={ target:=.fn (.func f0) #[],args:=#[.pointer (some ⟨b0,0,none⟩)] }::a1.defers } w1 [] F1 γ1:=by
  refine⟨hi.n,?_,hi.step,hi.mem,hi.sl,hi.hg,λt=>?_⟩
  ·show _::a1.defers=[_];rw[hi.df]
  ·show aE P w1 F1 _ (if t=0 then .c (.ptr id 0)else .dead) _;split
   ·exact⟨rfl,b0,hR0,rfl⟩
   ·trivial
 have hwp:=fR hC c (ce A) (by have:=(hlam ⟨w,F,λ_=>.pointer (some ⟨b0,0,none⟩),[{ target:=.fn (.func f0) #[],args:=#[.pointer (some ⟨b0,0,none⟩)] }],w.heap.size,ue9 _⟩).2.2;simpa[ce]using this) ht2 (qW hr' hok) ⟨F1,γ1,hi'⟩;refine wp_mono hwp ?_;rintro e a2 w2 ⟨xe,s2,rfl,⟨F2,γ2,hi2⟩,hx⟩;have hinv:∀ W,(invoke (.fn (.func f0) #[]) #[.pointer (some ⟨b0,0,none⟩)]).run P W=.ok (.enter f0 #[.pointer (some ⟨b0,0,none⟩)]) W:=λW=>by
  have:=hT.enter #[.pointer (some ⟨b0,0,none⟩)] W;simp[invoke,this]
 have hfin:(∃ n,dh P fn.results.toList rs s2=some (Fr.needL n (.val (fr xs).get))/\av n)->Leaves P fn a2.tmps (fJ w F rs (fr xs).get) a2.defers .returning w2:=by
  rintro⟨n,hend,hn⟩;rw[hi2.df];refine ufe (by simp) (hinv w2) ((hT.idle _ w2).mono ?_);rintro e u' w' ⟨⟨v,rfl⟩,rfl,rfl⟩;exact tP hi2 rfl hend hn
 cases xe with
 |normal=>exact hfin hx
 |ret=>exact hfin hx
 |exit _=>exact hx.elim
 |val _=>exact hx.elim
 |jump _=>exact hx.elim
 |panic p=>
  obtain⟨s',n,hs',hin,hend,hn⟩:=hx;obtain⟨hty,hk,hlow,b,tyb,old,hG,hheap,hi3⟩:=VY hi2 hs' hin;have hG':=hG;simp at hG';subst hG';show Leaves P fn a2.tmps _ a2.defers (.panicking [{ v:=p.val,recovered:=false }]) w2;rw[WG (by rw[hty];exact hlow),hi2.df,hty,hk];refine ufe (by simp) (hinv w2) ((hT.told b0 tyb old p.n w2 hheap).mono ?_);rintro e u' w' ⟨⟨v,rfl⟩,rfl,rfl⟩;exact tP hi3 rfl hend hn
end
section
open Go.WideShapes Go.ChangeShapes
def fw(r:TypeId->Ty->Bool):List Field->Ty->Nat->Bool
 |[],.unit,_=>Z
 |f::c,.pair a b,off=>(f.offset==off)&&(r f.type a&&fw r c b (off+a.size))
 |_,_,_=>Y
def fu(r:Ty->Bool):Nat->Ty->Bool
 |0,.unit=>Z
 |k+1,.pair a b=>r a&&fu r k b
 |_,_=>Y
def fZ(P:Program):Nat->TypeId->Ty->Bool
 |0,_,_=>Y
 |n+1,t,ty=>(P.cellsOf t==ty.size)&&match P.underlying t,ty with
  |some .bool,.bool=>Z
  |some (.int k),.int b=>J (k=b)
  |some .string,.str=>Z
  |some (.slice e),.sl te=>J (0<te.size)&&fZ P n e te
  |some (.struct a),ty=>ty.wide&&fw (fZ P n) a.toList ty 0
  |some (.array k e),ty=>ty.wide&&fu (fZ P n e) k ty
  |_,_=>Y
section
variable {H:Type} {enc:TypeId×Value->H} {P:Program} {w:World} {sp:Nat->Bool} {held:Bool}
def qaf(a:Addr)(k j:Nat):(a.add k).add j=a.add (k+j):=by
 unfold Addr.add;by_cases c:k=0;subst c;simp;by_cases b:j=0;subst b;simp;have:¬ k+j=0:=by omega
 simp[c,b,ueh]
def S0{Q:Nat->α->Prop}:(n:Nat)->(∀ i,i<n->∃ y,Q i y)->∃ l:List α,l.length=n/\∀ (i:Nat) (y:α),l[i]?= U y->Q i y
 |0,_=>⟨[],rfl,λi y h=>by simp at h⟩
 |n+1,h=>by
  obtain⟨l,c,d⟩:=S0 n (λi hi=>h i (by omega));obtain⟨y,e⟩:=h n (by omega);refine⟨l++[y],by simp[c],λi z a=>?_⟩;rcases uep i l.length with hi|hi
  rw[uaj hi]at a;exact d i z a;rw[uae hi]at a;have:i-l.length=0:=by
   rcases ub5 (i-l.length)with b|b
   exact b;rw[ua4 (by simp;omega)]at a;cases a
  rw[this]at a;simp at a;subst a;have:i=n:=by omega
  subst this;exact e
def qc8{a:Addr}{cs:List Value}(h:w.cells? 0 a n=U cs):cs.length=n/\∀ j,j<n->w.cell? (a.add j)=cs[j]? := by
 unfold World.cells? at h;refine⟨by simpa using mapM_some_length h,λj b=>?_⟩;exact mapM_some_get h j j (by simp[b])
def qc7{a:Addr}(h:w.cell? a=U v):a.block<w.heap.size:=by
 unfold World.cell? at h;split at h;rename_i b;exact(uaf.1 b).1;cases h
def zc7{n:Int}(h:(Lit.int k n).wf=Z):inR k n:=by
 simpa[Lit.wf,inR]using h
abbrev np(w:World):Nat->Prop:=λb=>b<w.heap.size
def Tk{c:Nat}(m:∀ (t:TypeId) (ty:Ty) (c:Nat) (cs:List Value) (x:DataW H×List MemPlace),fZ P n t ty=Z->DataW.trod enc P w 0 sp held c t cs=U x->cs.length=ty.size/\∃ y,aA w (np w) ty y (λj u=>cs[j]?= U u)){cs:List Value}:(l:List Field)->(ty:Ty)->(off:Nat)->fw (fZ P n) l ty off=Z->(∀ f∈l,∃ x,DataW.trod enc P w 0 sp held c f.type ((cs.drop f.offset).take (P.cellsOf f.type))=U x)->∃ y,aA w (np w) ty y (λj u=>cs[off+j]?= U u)
 |[],.unit,_,_,_=>⟨(),uT⟩
 |f::o,.pair a b,off,h,k=>by
  simp only[fw,udc,ufh]at h;obtain⟨p,q,r⟩:=h;obtain⟨x,e⟩:=k f (by simp);obtain⟨B,y,z⟩:=m _ _ _ _ _ q e;obtain⟨A,i⟩:=Tk m o b (off+a.size) r (λg s=>k g (by simp[s]));refine⟨(y,A),aA.mono (λ_ h=>h) (λ_ _=>rfl) (λj u v d=>?_) z,aA.mono (λ_ h=>h) (λ_ _=>rfl) (λj u v d=>?_) i⟩;rw[ub2]at d;split at d;rw[ub1,p]at d;exact d;cases d;rw[ueh]at d;exact d
 |[],.int _,_,h,_=>by simp[fw]at h
 |[],.bool,_,h,_=>by simp[fw]at h
 |[],.str,_,h,_=>by simp[fw]at h
 |[],.sl _,_,h,_=>by simp[fw]at h
 |[],.pair _ _,_,h,_=>by simp[fw]at h
 |[],.fm _,_,h,_=>by simp[fw]at h
 |_::_,.fm _,_,h,_=>by simp[fw]at h
 |[],.ic _ _,_,h,_=>by simp[fw]at h
 |_::_,.ic _ _,_,h,_=>by simp[fw]at h
 |[],.fc _,_,h,_=>by simp[fw]at h
 |_::_,.fc _,_,h,_=>by simp[fw]at h
 |_::_,.int _,_,h,_=>by simp[fw]at h
 |_::_,.bool,_,h,_=>by simp[fw]at h
 |_::_,.str,_,h,_=>by simp[fw]at h
 |_::_,.sl _,_,h,_=>by simp[fw]at h
 |_::_,.unit,_,h,_=>by simp[fw]at h
def Tj{c:Nat}(p:∀ (t:TypeId) (ty:Ty) (c:Nat) (cs:List Value) (x:DataW H×List MemPlace),fZ P n t ty=Z->DataW.trod enc P w 0 sp held c t cs=U x->cs.length=ty.size/\∃ y,aA w (np w) ty y (λj u=>cs[j]?= U u)){cs:List Value}:(k:Nat)->(ty:Ty)->(i0:Nat)->fu (fZ P n e) k ty=Z->(∀ i,i<k->∃ x,DataW.trod enc P w 0 sp held c e ((cs.drop ((i0+i)*P.cellsOf e)).take (P.cellsOf e))=U x)->∃ y,aA w (np w) ty y (λj u=>cs[i0*P.cellsOf e+j]?= U u)
 |0,.unit,_,_,_=>⟨(),uT⟩
 |k+1,.pair a b,i0,h,o=>by
  simp only[fu,udc]at h;obtain⟨g,q⟩:=h;obtain⟨x,l⟩:=o 0 (by omega);obtain⟨z,y,s⟩:=p _ _ _ _ _ g l;have f:P.cellsOf e=a.size:=by
   cases n with
   |zero=>simp[fZ]at g
   |succ n=>
    simp only[fZ,udc,ufh]at g;exact g.1
  obtain⟨v,m⟩:=Tj p k b (i0+1) q (λi hi=>by
   have:=o (i+1) (by omega)
   rwa [show i0+1+i=i0+(i+1) by omega])
  refine⟨(y,v),aA.mono (λ_ h=>h) (λ_ _=>rfl) (λj u r d=>?_) s,aA.mono (λ_ h=>h) (λ_ _=>rfl) (λj u r d=>?_) m⟩;rw[ub2]at d;split at d;rw[ub1]at d;simpa using d;cases d;rw[ufb,Nat.one_mul,f,ueh]at d;rw[f];exact d
 |0,.int _,_,h,_=>by simp[fu]at h
 |0,.bool,_,h,_=>by simp[fu]at h
 |0,.str,_,h,_=>by simp[fu]at h
 |0,.sl _,_,h,_=>by simp[fu]at h
 |0,.pair _ _,_,h,_=>by simp[fu]at h
 |0,.fm _,_,h,_=>by simp[fu]at h
 |_+1,.fm _,_,h,_=>by simp[fu]at h
 |0,.ic _ _,_,h,_=>by simp[fu]at h
 |_+1,.ic _ _,_,h,_=>by simp[fu]at h
 |0,.fc _,_,h,_=>by simp[fu]at h
 |_+1,.fc _,_,h,_=>by simp[fu]at h
 |_+1,.int _,_,h,_=>by simp[fu]at h
 |_+1,.bool,_,h,_=>by simp[fu]at h
 |_+1,.str,_,h,_=>by simp[fu]at h
 |_+1,.sl _,_,h,_=>by simp[fu]at h
 |_+1,.unit,_,h,_=>by simp[fu]at h
def zb9{k a:Nat}{cs:List Value}{x:DataW H×List MemPlace}(j:P.underlying t=U (.array k e))(h:DataW.trod enc P w 0 sp held a t cs=U x):
  ∃ n,∀ i,i<k->∃ y,DataW.trod enc P w 0 sp held n e ((cs.drop (i*P.cellsOf e)).take (P.cellsOf e))=U y:=by
 cases a with
 |zero=>simp[DataW.trod]at h
 |succ n=>
  unfold DataW.trod at h;split at h<;>simp_all
  obtain⟨g,xs,c,f⟩:=h;refine⟨n,λi hi=>?_⟩;have b:=mapM_some_get c i i (by simp[hi]);have d:=mapM_some_length c;rw[uaq (by simp at d;omega)]at b;exact⟨_,_,b⟩
def Ep:(n:Nat)->(t:TypeId)->(ty:Ty)->(c:Nat)->(cs:List Value)->(x:DataW H×List MemPlace)->fZ P n t ty=Z->DataW.trod enc P w 0 sp held c t cs=U x->cs.length=ty.size/\∃ y,aA w (np w) ty y (λj u=>cs[j]?= U u)
 |0,t,ty,c,cs,x,h,_=>by simp[fZ]at h
 |n+1,t,ty,c,cs,x,h,p=>by
  simp only[fZ,udc,ufh]at h;obtain⟨hsz,h⟩:=h;split at h;rename_i g;obtain⟨b,rfl,_⟩:=DataW.trod_bool g p;exact⟨rfl,b,rfl⟩;rename_i k k' g;have hk:k=k':=by simpa using h
  subst hk;obtain⟨m,rfl,_,hw⟩:=DataW.trod_int g p;exact⟨rfl,m,rfl,zc7 hw⟩;rename_i g;obtain⟨s,rfl,_,hs⟩:=DataW.trod_string g p;exact⟨rfl,s,rfl,hs⟩;rename_i e te g;simp at h;obtain⟨C,o⟩:=h;have L:P.cellsOf e=te.size:=by
   cases n with
   |zero=>simp[fZ]at o
   |succ n=>
    simp only[fZ,udc,ufh]at o;exact o.1
  rcases DataW.trod_slice g p with ⟨rfl,_⟩|⟨a,len,E,F,rest,m,rfl,rfl,_,_,W,h2,hel,d,_⟩
  exact⟨rfl,[],V,0,rfl,ue9 _,by simp,λi y r=>by simp at r⟩;have v:∀ i,i<len->∃ y,aA w (np w) te y (λj u=>w.cell? (a.add (i*te.size+j))=U u)/\a.block<w.heap.size:=λi hi=>by
   have q:=d i hi;rw[uaq (by omega)]at q;rw[Option.bind_eq_some_iff]at q;obtain⟨O,z,M⟩:=q;rw[L]at z;obtain⟨D,y,r⟩:=Ep n e te m O _ o M;obtain⟨hcl,G⟩:=qc8 z;have S:∀ j,j<te.size->w.cell? (a.add (i*te.size+j))=O[j]? := λj K=>by
    rw[<- qaf];exact G j K
   refine⟨y,aA.mono (λ_ h=>h) (λ_ _=>rfl) (λj u K hu=>(S j K).trans hu) r,?_⟩;have R:=S 0 C;rw[uaq (by omega)]at R;have B:=qc7 R;have:(a.add (i*te.size+0)).block=a.block:=by unfold Addr.add;split<;>rfl
   rwa [this]at B
  obtain⟨l,D,T⟩:=S0 len v;subst D;exact⟨rfl,l,U a,E,rfl,W,h2,λi y r=>⟨a,rfl,(T i y r).2,(T i y r).1⟩⟩;rename_i N Q g;simp at h;obtain⟨xs,m,rfl,rfl,D,hxl,d⟩:=DataW.trod_struct g p;refine⟨by omega,?_⟩;have:=Tk (λt ty c cs x=>Ep n t ty c cs x) Q.toList _ 0 h.2 (λf hf=>by
   obtain⟨i,hi⟩:=ua9.1 hf;have A:Q[i]?= U f:=by simpa using hi
   have B:=(uaf.1 A).1;have q:=d i f A;rw[uaq (by omega)]at q;exact⟨_,q⟩)
  simpa using this;rename_i N k e g;simp at h;obtain⟨m,hm⟩:=zb9 g p;have D:cs.length=P.cellsOf t:=by
   cases c with
   |zero=>simp[DataW.trod]at p
   |succ m=>
    unfold DataW.trod at p;split at p<;>simp_all
  refine⟨by omega,?_⟩;have:=Tj (λt ty c cs x=>Ep n t ty c cs x) k _ 0 h.2 (λi hi=>by simpa using hm i hi);simpa using this;cases h
def qw4{ty:Ty}{d:DataW H}{ps:List MemPlace}{r:Reach}{g:Nat}(h:fZ P n t ty=Z)(a:Value.okWide P w r g t v)(m:DataW.Trod enc P w 0 sp held t v d ps):∃ y,bu w (np w) ty y v:=by
 obtain⟨i,o⟩:=m;obtain⟨p,y,s⟩:=Ep n t ty i _ _ h o;refine⟨y,by simpa using p,?_,aA.mono (λ_ h=>h) (λ_ _=>rfl) (λj u z q=>by simpa using q) s⟩;cases n with
 |zero=>simp[fZ]at h
 |succ n=>
  simp only[fZ,udc]at h;replace h:=h.2;unfold Value.okWide at a;split at h;rename_i c;simp only[Cell.okWide,c,Cell.ok]at a;refine⟨λf=>(by cases f),λ⟨cs,b⟩=>?_⟩;subst b;exact a.elim;rename_i k A c;simp only[Cell.okWide,c,Cell.ok]at a;refine⟨λf=>(by cases f),λ⟨cs,b⟩=>?_⟩;subst b;exact a.elim;rename_i c;simp only[Cell.okWide,c,Cell.ok]at a;refine⟨λf=>(by cases f),λ⟨cs,b⟩=>?_⟩;subst b;exact a.elim;rename_i e te c;simp only[Cell.okWide,c,Cell.ok]at a;refine⟨λf=>(by cases f),λ⟨cs,b⟩=>?_⟩;subst b;exact a.elim;rename_i l x c;rw[c]at a;simp at h;obtain⟨cs,b,_⟩:=a;exact⟨λ_=>⟨cs,b⟩,λ_=>h.1⟩;rename_i l k e c;rw[c]at a;simp at h;obtain⟨cs,b,_⟩:=a;exact⟨λ_=>⟨cs,b⟩,λ_=>h.1⟩;cases h
def kR(P:Program):List TypeId->List PT->Bool
 |[],[]=>Z
 |t::ts,.d ty::ps=>fZ P 12 t ty&&kR P ts ps
 |_,_=>Y
def Us{r:Reach}{c:Nat}:{ts:List TypeId} -> {ps:List PT} -> {vs:List Value} -> {f:List (DataW H)} -> {n:List MemPlace}->kR P ts ps=Z->DataW.TrodAll enc P w 0 sp held ts vs f n ->
  (∀ (j:Nat) t v,ts[j]?= U t->vs[j]?= U v->Value.okWide P w r c t v)->∃ xs,cJ P w (np w) ps xs vs
 |[],[],[],[],_,_,_,_=>⟨(),rfl⟩
 |t::ts,.d ty::ps,v::vs,d::f,_,h,l,g=>by
  simp only[kR,udc]at h;obtain⟨p,q,i,k,_⟩:=l;obtain⟨y,m⟩:=qw4 h.1 (g 0 t v rfl rfl) i;obtain⟨o,e⟩:=Us h.2 k (λj t v a b=>g (j+1) t v a b);exact⟨(y,o),v,vs,rfl,m,e⟩
 |[],_::_,_,_,_,h,_,_=>by simp[kR]at h
 |_::_,[],_,_,_,h,_,_=>by simp[kR]at h
 |_::_,.ptr _::_,_,_,_,h,_,_=>by simp[kR]at h
 |_::_,.fn _ _::_,_,_,_,h,_,_=>by simp[kR]at h
 |_::_,.pf _ _::_,_,_,_,h,_,_=>by simp[kR]at h
 |_::_,.pfn _ _::_,_,_,_,h,_,_=>by simp[kR]at h
 |_::_,.pk _::_,_,_,_,h,_,_=>by simp[kR]at h
 |[],[],_::_,_,_,_,h,_=>h.elim
 |[],[],[],_::_,_,_,h,_=>h.elim
 |_::_,.d _::_,[],_,_,_,h,_=>h.elim
 |_::_,.d _::_,_::_,[],_,_,h,_=>h.elim
def Ur(l:laidOutB P=Z){e:Nat->Bool}:{ts:List TypeId} -> {vs:List Value} -> {i:List (DataW H)} -> {g:List MemPlace}->(ts.all λt=>P.readableRec t&&J (t<P.types.size))=Z ->
  DataW.TrodAll enc P w 0 (λ_=>Z) Z ts vs i g->(∀ p∈g,w.sameAt W' p)->(∀ p∈g,e p.block=Z)->DataW.TrodAll enc P W' 0 e Z ts vs i g
 |[],[],[],_,_,h,_,_=>h
 |t::ts,v::vs,d::i,_,f,h,j,k=>by
  simp at f;obtain⟨p,q,a,b,rfl⟩:=h;exact⟨p,q,WideElems.Trod_stays l f.1.1 f.1.2 a (λx c=>j x (by simp[c])) (λx c=>k x (by simp[c])),Ur l (by simpa using f.2) b (λx c=>j x (by simp[c])) (λx c=>k x (by simp[c])),rfl⟩
 |[],_::_,_,_,_,h,_,_=>h.elim
 |[],[],_::_,_,_,h,_,_=>h.elim
 |_::_,[],_,_,_,h,_,_=>h.elim
 |_::_,_::_,[],_,_,h,_,_=>h.elim
def qwq{f:Func}{s:ChangeSpec}{c n d m:Bool}{args:Array Value}{o q:List (DataW H)}{a pa pv:List MemPlace}(x:DataW.Whole enc P f.params.toList s.vars c W args.toList o q a)(l:∀ (b:Nat) (sp:Nat->Bool) (B:Bool),DataW.TrodAll enc P W' b sp B f.resultTypes.toList (v.resultList f.resultTypes.size) (s.fn H (o++q)).results [])(e:∀ sp:Nat->Bool,(∀ p∈a,sp p.block=Z)->DataW.TrodAll enc P W' 0 sp Z f.params.toList args.toList (s.fn H (o++q)).args pa)(h:∀ sp:Nat->Bool,(∀ p∈a,sp p.block=Z)->DataW.TrodVars enc P W' sp s.vars (s.fn H (o++q)).vars pv)(i:a=pa++pv)(z:Below W.heap.size W W')(y:∀ (j:Nat) (t:TypeId) (r:Value),f.resultTypes[j]?= U t->(v.resultList f.resultTypes.size)[j]?= U r->Value.okWide P W' .any 0 t r):
  s.post enc P f c n d m W args v W':=by
 have w:=λp g=>x.lt p g;have k:∀ p∈a,(λb=>J (b<W.heap.size)) p.block=true:=λp g=>by simpa using w p g
 refine⟨o,q,a,[],pa,pv,x,l _ _ _,e _ k,h _ k,World.keptBut_mono (λp g=>⟨g,?_⟩) (z.frame (· ∈ a)),λ_=>?_⟩;rw[i,uds]at g;exact Or.inr g;obtain⟨_,_,_,_,_,D,C⟩:=x;refine⟨y,_,_,([]++pa)++pv,⟨[]++pa,pv,trodAll_append (e _ (λ_ _=>rfl)) (l _ _ _),h _ (λ_ _=>rfl),rfl,?_,?_⟩,?_⟩;intro b off g;have u:MemPlace.cell b off∈a:=by rw[i];simpa using g
 rw[z.frozen (w _ u)];exact D b off u;intro A;have:=C A;rw[i]at this;simpa using this;intro p g _;rw[i];simpa using g
def law_contract{u:FuncId}{f:Func}{s:ChangeSpec}{ps:List PT}{c n d l:Bool}{tb:TypeId}(hl:laidOutB P=Z)(hr:(f.params.toList.all λt=>P.readableRec t&&J (t<P.types.size))=Z)(G:kR P f.params.toList ps=Z)(g:s.vars=[])(z:f.resultTypes = #[tb])(A:P.underlying tb=U .bool)(hs:∀ m:List (DataW H),m.length=f.params.size->s.fn H m = { results:=[.lit (.bool Z)],args:=m })(S:af P u ⟨ps,[.bool],λ_=>(Z,()),λ_=>[]⟩)(W:World)(r:Nat)(args:Array Value)(m Q:List (DataW H))(h:List MemPlace)(B:∀ (j:Nat) t v,f.params[j]?= U t->args[j]?= U v->Value.okWide P W .any r t v)(O:DataW.Whole enc P f.params.toList s.vars c W args.toList m Q h):
  Calls P u args W λe W'=>∃ v,e=.returned v/\s.post enc P f c n d l W args v W':=by
 have w:=O;obtain⟨p,q,D,N,rfl,T,hnd⟩:=O;rw[g]at N;obtain⟨rfl,rfl⟩:=trodVars_none N;obtain⟨xs,M⟩:=Us G D (λj t v a b=>B j t v (by simpa using a) (by simpa using b));have i:=S.2 W (np W) xs args.toList (λb R=>R) M trivial;refine i.mono ?_;rintro e W' ⟨v,F',rfl,k,_,_,hv⟩;have K:aE P W' F' (λ_ _=>True) (dE .bool Z) v:=fT hv;have L:=K.2;subst L;refine⟨_,rfl,?_⟩;have y:(m++[]).length=f.params.size:=by
  have:=trodAll_length D;simp[this.2]
 have o:=hs (m++[]) y;have E:∀ x∈p,x.block<W.heap.size:=λx C=>w.lt x (by simp[C]);refine qwq (pa:=p) (pv:=[]) w (λb sp hd=>?_) (λsp F=>?_) (λsp _=>?_) (by simp) k (ok_one z rfl (okWide_bool_mk A Z));rw[z,o];exact trodAll_mk1 (shut_bool A Z);rw[o];simp;exact Ur hl hr D (λx C=>k.same (E x C)) (λx C=>F x (by simp[C]));rw[g,o];rfl
end
end
section
variable {P:Program} {B:Nat} {w w':World} {E:Env} {F F':Nat->Prop} {γ γ':Nat->Value} {m:aT}
structure Mt where
 e:TypeId
 T:Ty
 ps:List PT
 rs:List Ty
 f:List T.den->ag ps->List T.den×aa rs
 ok:List T.den->ag ps->List Prop
def Nx(w:World)(mt:Mt)(v:Value)(y:List mt.T.den×aa mt.rs)(e:Ending)(w':World):Prop:=
 ∃ u a,e=.returned u/\w.grownBy w' v.ownBlock/\w'.ownsRow 0 mt.e mt.T.size v y.1.length a/\bU w' (λ_=>False) mt.T y.1 a/\(∀ u∈a,u.oneCell'=Z)/\gT w' (λ_=>False) mt.rs y.2 u
structure SoundMt (P:Program) (f:FuncId) (mt:Mt):Prop where
 lt:mt.e<cj
 flat:mt.T.flat=true
 flats:mt.rs.all Ty.flat=true
 enters:∀ args w,(callFunc f args).run P w=.ok (.enter f args) w
 calls:∀ (w:World) (F:Nat->Prop) (l:List mt.T.den) (xs:ag mt.ps) (v:Value) (vs rows:List Value),(∀ b,F b->b<w.heap.size)->w.ownsRow 0 mt.e mt.T.size v l.length rows->(∀ g,v.ownBlock=some g->¬ F g) ->
  bU w F mt.T l rows->(∀ u∈rows,u.oneCell'=true)->v.oneCell'=true->cJ P w F mt.ps xs vs->av (mt.ok l xs)->Calls P f (v::vs).toArray w (Nx w mt v (mt.f l xs))
def fG(Γ:Gm)(f:FuncId)(mt:Mt)(_d:Nat)(g:FuncId)(args:List AV)(s:St):Option Tr:=
 if g=f then match args with
  |.c (.own id)::rest=>match dK s.mem rest with
   |some (xs,u)=>match ax s.mem u id with
    |some (.arr e t l)=>if h:t=mt.T then if e=mt.e then match jf Γ mt.ps xs with
      |some (x,n)=>U (needL (n++mt.ok (cA h l) x) (.leaf (.val (jg mt.rs (mt.f (cA h l) x).2)) ⟨s.n,s.sl,upd (ax s.mem u) id (.arr mt.e mt.T (mt.f (cA h l) x).1),s.gs⟩))
      |none=>V
     else V else V
    |_=>V
   |none=>V
  |_=>V
 else V
def gu{Γ:Gm}(hΓ:kN P Γ){mt:Mt}(h:SoundMt P f mt):gQ P (fG Γ f mt):=by
 intro d g args s t y;unfold fG at y;split at y<;>try trivial
 rename_i N;subst N;split at y<;>try trivial
 rename_i id rest;split at y<;>try trivial
 rename_i xs u hrs;split at y<;>try trivial
 rename_i e ty l r;split at y<;>try trivial
 rename_i hty;split at y<;>try trivial
 rename_i hee;split at y<;>try trivial
 rename_i x n L;cases y;subst hty;subst hee;refine⟨h.enters,λE a w F γ vs Q hi hr hq=>?_⟩;obtain⟨hn,hqv⟩:=jm _ hq;obtain⟨hn1,hn2⟩:=jd.1 hn;cases vs with
 |nil=>exact hr.elim
 |cons v vs=>
  obtain⟨⟨S,hv⟩,hr⟩:=hr;obtain⟨F1,s1,H,_,r1⟩:=iy hi.mem (dv hi) (cX.of λ_ _ h=>h) hrs hr;have hps:=mK hΓ L hn1 r1;have A:v=γ id:=by
   have h2:ap (ax s.mem u) γ id v:=s1.hR id v hv;simpa[ap,r]using h2
  obtain⟨rows,o1,W,o3,o4⟩:=gg.of (H.ob id _ r) h.lt;rw[<- A]at o1 W;have C:∀ g,v.ownBlock=U g->E.B<=g/\g<w.heap.size:=λg N=>o1.lt g N;have hc:=h.calls w F1 l x v vs rows s1.bd (rD o1 (λ_ _=>uff _)) W o3 o4 S hps hn2;refine hc.mono λen K hp=>?_;obtain⟨u2,G,rfl,q,p1,p2,p3,p4⟩:=hp;have m:∀ b,b<w.heap.size->v.ownBlock≠U b->K.heap[b]?= w.heap[b]? := λb k hne=>q.block b k (λh=>hne h.symm);have hBs:=nM hi;have hR:∀ i v',ap (ax s.mem u) γ i v'->ap (upd (ax s.mem u) id (.arr mt.e mt.T (mt.f l x).1)) γ i v':=λi v' z=>by
   unfold ap at z |-;by_cases c:i=id;subst c;rw[r]at z;simpa[upd]using z;simpa[upd,c]using z
  have s2:Step E.B w F1 γ (ax s.mem u) K F1 γ (upd (ax s.mem u) id (.arr mt.e mt.T (mt.f l x).1)):=
   ⟨λ_ h=>h,λb k=>m b (s1.bd b k) (λh=>W b h k),hR,λb k=>m b (by omega) (λh=>by have:=(C b h).1;omega),
    q.os,q.tape,q.output,q.size,λb k=>ucb (s1.bd b k) q.size,λb k=>.inl k⟩
  have R:∀ b,γ id ≠ .map (U b):=A ▸ nq o1;have D:∀ i o,i≠id->ax s.mem u i=U o->∀ b,bK w o (γ i) b->K.heap[b]?= w.heap[b]? := λi o c p b k=>
   m b (gZ (H.ob i o p) k).1 (λhvb=>H.apart i id o _ b c p r k (.inl (by rw[<- A];exact hvb)))
  have M:∀ i o,upd (ax s.mem u) id (.arr mt.e mt.T (mt.f l x).1) i=U o->∃ o0,ax s.mem u i=U o0/\∀ b,bK K o (γ i) b->bK w o0 (γ i) b:=λi o p=>by
   by_cases c:i=id;subst c;simp only[upd,if_true,ucl]at p;subst p;exact⟨_,r,λb k=>(lE h.lt R).2 ((lE h.lt R).1 k)⟩;simp only[upd,ufw c]at p;exact⟨o,p,λb k=>tU (D i o c p) k⟩
  have m2:MemOK P E.B K F1 γ (upd (ax s.mem u) id (.arr mt.e mt.T (mt.f l x).1)):=by
   refine⟨λi o p=>?_,λi j oi oj b hij hoi hoj k hb'=>?_⟩;by_cases c:i=id;subst c;simp only[upd,if_true,ucl]at p;subst p;rw[<- A];exact .inl ⟨h.lt,G,rD p1 (λg N=>(C g N).1),W,p2.flat h.flat,p3⟩;simp only[upd,ufw c]at p;refine(H.ob i o p).keep (λ_ h=>h) (λb k=>m b (s1.bd b k) (λh=>W b h k)) hR λb k=>?_;exact⟨D i o c p b k,(gZ (H.ob i o p) k).2.1⟩;obtain⟨oi0,a1,a2⟩:=M i oi hoi;obtain⟨oj0,b1,b2⟩:=M j oj hoj;exact H.apart i j oi0 oj0 b hij a1 b1 (a2 b k) (b2 b hb')
  have s3:=s1.trans s2;have O:InvG P E ⟨s.n,s.sl,upd (ax s.mem u) id (.arr mt.e mt.T (mt.f l x).1),s.gs⟩ a K [] F1 γ:=by
   refine⟨hi.n,hi.df,?_,m2,λt=>(hi.sl t).mono s3.hF s3.hw s3.hR,hi.hg,λt=>s3.repA (hi.gh t)⟩;obtain⟨γ0,h0⟩:=hi.step;exact⟨γ0,h0.trans s3⟩
  exact⟨.val (jg mt.rs (mt.f l x).2),_,F1,γ,hqv,O,u2,rfl,tN (p4.flat h.flats)⟩
def DG(n:Nat)(e:TypeId)(T:Ty)(l:List T.den)(args:List AV):St:=
 ⟨n,λi=>(AV.c (.own (ba 0))::args).getD i .dead,λi=>if i=ba 0 then U (.arr e T l)else V,λi=>if i=0 then .c (.own (ba 0))else .dead⟩
def qS(P:Program)(b:List ResultVar)(e:TypeId)(T:Ty)(rs:List Ty)(s:St):Option (Fr (List T.den×aa rs)):=
 match s.gs 0 with
 |.c (.own k)=>match s.mem k with
  |some (.arr a t l)=>if h:t=T then if a=e then match gv P s b with
    |some (vs,n)=>match dK s.mem vs with
     |some (xs,_)=>match g9 rs xs with
      |some y=>U (Fr.needL n (.val (cA h l,y)))
      |none=>V
     |none=>V
    |none=>V
   else V else V
  |_=>V
 |_=>V
def iK(P:Program)(a:List ResultVar)(e:TypeId)(T:Ty)(rs:List Ty):Tr->Option (Fr (List T.den×aa rs))
 |.leaf .ret s=>qS P a e T rs s
 |.leaf .normal s=>qS P a e T rs s
 |.leaf _ _=>V
 |.br b x y=>match iK P a e T rs x,iK P a e T rs y with
  |some c,U d=>U (.br b c d)
  |_,_=>V
 |.need p x=>match iK P a e T rs x with
  |some c=>U (.need p c)
  |none=>V
 |.two p x y=>match iK P a e T rs x,iK P a e T rs y with
  |some c,U d=>U (.need (p->c.ok/\c.get=d.get) d)
  |_,_=>V
def tZ{g:List ResultVar}{T:Ty}{rs:List Ty}:{t:Tr} -> {f:Fr (List T.den×aa rs)}->iK P g e T rs t=U f->f.ok->t.sat λx s=>(x=.ret\/x=.normal)/\∃ n,qS P g e T rs s=U (Fr.needL n (.val f.get))/\av n
 |.leaf x s,f,h,a=>by
  have key:qS P g e T rs s=U f->∃ n,qS P g e T rs s=U (Fr.needL n (.val f.get))/\av n:=λh=>by
   have m:=h;unfold qS at h;split at h<;>try trivial
   split at h<;>try trivial
   split at h<;>try trivial
   split at h<;>try trivial
   split at h<;>try trivial
   split at h<;>try trivial
   split at h<;>try trivial
   cases h;refine⟨_,?_,(uM _ a).1⟩;rw[uK];exact m
  cases x with
  |exit i=>simp[iK]at h
  |panic i=>simp[iK]at h
  |val i=>simp[iK]at h
  |jump i=>simp[iK]at h
  |normal=>exact⟨.inr rfl,key h⟩
  |ret=>exact⟨.inl rfl,key h⟩
 |.br b x y,f,h,a=>by
  simp only[iK]at h;split at h<;>try trivial
  rename_i l q d j;cases h;refine⟨λc=>?_,λc=>?_⟩;have:=tZ d (a.1 c);simpa only[Fr.get,c,if_true]using this;have:=tZ j (a.2 c);simpa only[Fr.get,c,ub3,ufs]using this
 |.need p x,f,h,a=>by
  simp only[iK]at h;split at h<;>try trivial
  rename_i l d;cases h;have:=tZ d a.2;exact⟨a.1,this⟩
 |.two p x y,f,h,a=>by
  simp only[iK]at h;split at h<;>try trivial
  rename_i l q d j;cases h;have o:=tZ j a.2;refine⟨λk=>?_,o⟩;have:=tZ d (a.1 k).1
  rwa [(a.1 k).2]at this
def yS(P:Program)(C:Cx)(Λ:Nat->St->Option Tr)(fn:Func)(e:TypeId)(T:Ty)(ps:List PT)(rs:List Ty)(l:List T.den)(xs:ag ps):Option (Fr (List T.den×aa rs)):=
 match fn.body with
 |some c=>if (fn.name == "runtime.NumGoroutine")=Y/\ps.length+1<=fn.ntmps then match cr P C 0 Λ c 0 (DG fn.ntmps e T l (eI ps xs))with
   |some t=>iK P fn.results.toList e T rs t
   |none=>V
  else V
 |none=>V
def iq{C:Cx}(hC:CxOK P C){Λ:Nat->St->Option Tr}{fn:Func}{T:Ty}{ps:List PT}{rs:List Ty}{fr:List T.den->ag ps->Fr (List T.den×aa rs)}(x0:ag ps)(hf:P.funcs[f]?= U fn)(hT:T.flat=Z)(M:rs.all Ty.flat=Z)(hΛ:∀ c E,fn.body=U c->bP P E Λ c 0)(A:∀ l xs,yS P C Λ fn e T ps rs l xs=U (fr l xs))(p:e<cj:=by decide):
  SoundMt P f ⟨e,T,ps,rs,λl xs=>(fr l xs).get,λl xs=>[(fr l xs).ok]⟩:=by
 have h0:=A [] x0;unfold yS at h0;split at h0<;>try trivial
 rename_i c d;split at h0<;>try trivial
 rename_i hc;refine⟨p,hT,M,enters hf d hc.1,λw F l xs v vs rows hbd hown hnF K D z hr hok=>ufd hf d ?_⟩;have q:=A l xs;unfold yS at q;simp only[d,hc,ufr,if_true]at q;split at q<;>try trivial
 rename_i t ht;have hlen:vs.length=ps.length:=rV hr;have hFb:∀ b,F b->(b<w.heap.size/\v.ownBlock≠U b):=λb d=>⟨hbd b d,λh=>hnF b h d⟩;have hps:cJ P w (λb=>b<w.heap.size/\v.ownBlock≠U b) ps xs vs:=cJ.mono hFb (λ_ _=>rfl) hr;have m:∀ R:Nat->Value->Prop,R (ba 0) v->bj P w (λb=>b<w.heap.size/\v.ownBlock≠U b) R (AV.c (.own (ba 0))::eI ps xs) (v::vs):=λR hR=>⟨⟨z,hR⟩,mO hps⟩;have r:I P ⟨w,λb=>b<w.heap.size/\v.ownBlock≠U b,λ_=>v,[],0,uff _⟩ (DG fn.ntmps e T l (eI ps xs)) { tmps:=(v::vs).toArray++Array.replicate (fn.ntmps-(v::vs).length) undef,defers:=[] } w:=by
  refine⟨_,λ_=>v,?_,rfl,⟨λ_=>undef,⟨λ_ h=>h,λ_ _=>rfl,λ_ _ h=>h.elim,λb d=>absurd d (Nat.not_lt_zero b),rfl,rfl,rfl,ue9 _,λb d=>d.1,λb d=>.inl d⟩⟩,⟨λid o ho=>?_,λi j oi oj b hij hi hj=>?_⟩,λt=>?_,λt g want v ht=>?_,λt=>?_⟩;show _=fn.ntmps;simp only[ucp,ucq,Array.size_replicate,uc9];omega;have G:(if id=ba 0 then U (Ob.arr e T l)else V)=U o:=ho;split at G;cases G;exact .inl ⟨p,rows,hown,λg hg h=>h.2 hg,K.flat hT,D⟩;cases G;have Q:(if i=ba 0 then U (Ob.arr e T l)else V)=U oi:=hi;have S:(if j=ba 0 then U (Ob.arr e T l)else V)=U oj:=hj;split at Q;split at S;rename_i B h2;exact absurd (B.trans h2.symm) hij;cases S;cases Q;have hg:((v::vs).toArray++Array.replicate (fn.ntmps-(v::vs).length) undef).getD t undef=(v::vs).getD t undef:=by
   simp only[uac,uah];rcases uep t (v::vs).length with p|O
   rw[uai (by simpa using p)];simp;rw[uad (by simpa using O),ua4 O];simp only[uas];split<;>rfl
  show dP P w _ _ _ ((AV.c (.own (ba 0))::eI ps xs).getD t .dead) (((v::vs).toArray++Array.replicate (fn.ntmps-(v::vs).length) undef).getD t undef);rw[hg];exact vG (ny (m _ (by simp[ap,DG])) t);exfalso;have:=ny (m (λ_ _=>True) trivial) t;have ht':(AV.c (.own (ba 0))::eI ps xs).getD t .dead=.maybe g want v:=ht;rw[ht']at this;exact this;show aE P w _ _ (if t=0 then .c (.own (ba 0))else .dead) v;split;exact⟨z,by simp[bc,ap,DG]⟩;trivial
 have hwp:=fR hC c 0 (hΛ c _ d) ht (tZ q hok) r;have hsz:((v::vs).toArray).size=(v::vs).length:=by simp
 rw[hsz];refine wp_mono hwp ?_;rintro ex a' w' ⟨xe,s,rfl,⟨F',γ',hi⟩,hxe,n,a,hnn⟩;have x:a'.defers=[]/\∃ u,(results fn a'.tmps).run P w'=.ok u w'/\Nx w ⟨e,T,ps,rs,λl xs=>(fr l xs).get,λl xs=>[(fr l xs).ok]⟩ v (fr l xs).get (.returned u) w':=by
  unfold qS at a;split at a<;>try trivial
  rename_i k hgs;split at a<;>try trivial
  rename_i e' t' l' W;split at a<;>try trivial
  rename_i hty;split at a<;>try trivial
  rename_i hee;split at a<;>try trivial
  rename_i avs n' hres;split at a<;>try trivial
  rename_i axs u hrs;split at a<;>try trivial
  rename_i y N;injection a with a
  obtain⟨hn',hy⟩:=uL a hnn;subst hty;subst hee;obtain⟨us,hran,H⟩:=nz hi hres hn';obtain⟨F'',hs,hm',_,hxs⟩:=iy hi.mem (dv hi) (cX.of λ_ _ h=>h) hrs H;obtain⟨γ0,B⟩:=hi.step;have hgv:v=γ' k:=by
   have h2:=hi.gh 0;rw[hgs]at h2;have h3:ap s.mem γ' k v:=h2.2;simpa[ap,W]using h3
  obtain⟨L,q1,q2,q3,q4⟩:=gg.of (hi.mem.ob k _ W) p;rw[<- hgv]at q1;refine⟨hi.df,_,pz hran,_,L,rfl,⟨B.os,B.tape,B.output,B.size,λb d hne=>B.hw b ⟨d,λh=>hne h.symm⟩⟩,?_,?_,q4,?_⟩;rw[<- hy];exact q1;rw[<- hy];exact q3.flat hT;rw[<- hy];exact(vH (lC N hxs)).flat M
 rcases hxe with rfl|rfl
 exact x;exact x
def UH{t:Ty}{l:List t.den}(h:bU w F t l xs):∀ x∈l,Wf t x:=λx a=>by
 obtain⟨i,hi,rfl⟩:=List.mem_iff_getElem.1 a;exact aA.wf (h i _ (uaq hi))
def TP{size:Nat}(h:w.ownsRow B e size v n xs):n<=maxLen:=by
 rcases h.2 with ⟨_,rfl⟩|⟨g,a,cur,_,_,_,b,c,_⟩
 exact uff _;exact ueo b c
def gW{mt:Mt}(h:SoundMt P f mt)(g:List mt.T.den->ag mt.ps->List mt.T.den×aa mt.rs)(ok:List mt.T.den->ag mt.ps->List Prop)(p:∀ w F l xs vs,cJ P w F mt.ps xs vs->l.length<=maxLen->(∀ x∈l,Wf mt.T x)->av (ok l xs)->av (mt.ok l xs)/\mt.f l xs=g l xs):SoundMt P f ⟨mt.e,mt.T,mt.ps,mt.rs,g,ok⟩:=by
 refine⟨h.lt,h.flat,h.flats,h.enters,λw F l xs v vs a n c q i o j d b=>?_⟩;obtain⟨k,m⟩:=p w F l xs vs d (TP c) (UH i) b;have:=h.calls w F l xs v vs a n c q i o j d k;rw[m]at this;exact this
end
def dt(step:T->σ->Fr (σ ⊕ ρ)):List T->σ->σ ⊕ ρ
 |[],s=>.inl s
 |x::r,s=>match (step x s).get with
  |.inl a=>dt step r a
  |.inr y=>.inr y
def jo(step:T->σ->Fr (σ ⊕ ρ)):List T->σ->Prop
 |[],_=>True
 |x::r,s=>(step x s).ok/\match (step x s).get with
  |.inl a=>jo step r a
  |.inr _=>True
def kJ(step:T->σ->Fr σ):List T->σ->σ
 |[],s=>s
 |x::r,s=>kJ step r (step x s).get
def pg(step:T->σ->Fr σ):List T->σ->Prop
 |[],_=>True
 |x::r,s=>(step x s).ok/\pg step r (step x s).get
def dF:σ ⊕ ρ->Bool
 |.inl _=>Z
 |.inr _=>Y
def dO(d:σ):σ ⊕ ρ->σ
 |.inl s=>s
 |.inr _=>d
def zej(d:ρ):σ ⊕ ρ->ρ
 |.inl _=>d
 |.inr y=>y
def Rd.up{X a b:Type}:Rd Empty a b->Rd X a b
 |.next x=>nomatch x
 |.out y=>.out y
 |.back z=>.back z
 |.pan p=>.pan p
section
variable {P:Program} {c:Code} {L Eo R:LS} {n id:Nat} {T σ ρ:Type}
structure InL (good:Prop) (u:Int×List T×σ):Prop where
 good:good
 lo:0<=u.1
 hi:u.1<=u.2.1.length
 big:(u.2.1.length:Int)<=9223372036854775807
def FL(step:T->σ->Fr (σ ⊕ ρ))(a:L.X->Int×List T×σ)(b:L.X->Prop)(ca:σ->Eo.X)(outR:ρ->Rd Empty Eo.X R.X)(d:σ)(c:ρ)(x:L.X):Fr (Rd L.X Eo.X R.X):=
 Fr.need (InL (b x) (a x)) (Fr.need (jo step ((a x).2.1.drop (a x).1.toNat) (a x).2.2)
  (Fr.br (dF (dt step ((a x).2.1.drop (a x).1.toNat) (a x).2.2)) (Fr.val (Rd.out (ca (dO d (dt step ((a x).2.1.drop (a x).1.toNat) (a x).2.2)))))
   (Fr.val (Rd.up (outR (zej c (dt step ((a x).2.1.drop (a x).1.toNat) (a x).2.2)))))))
def zdk {fr:L.X->Fr (Rd L.X Eo.X R.X)} (h:ae P c L ⟨n,id,L,Eo,R⟩ fr) (step:T->σ->Fr (σ ⊕ ρ)) (a:L.X->Int×List T×σ) (b:L.X->Prop) (ca:σ->Eo.X) (outR:ρ->Rd Empty Eo.X R.X) (d:σ) (K:ρ)
  (j:∀ x,b x->0<=(a x).1->(a x).1<(a x).2.1.length->((a x).2.1.length:Int)<=9223372036854775807->∀ e,(a x).2.1[(a x).1.toNat]?= U e->∀ Q:Rd L.X Eo.X R.X->Prop,
   (step e (a x).2.2).satP (λ
    |.inl G=>∀ k,a k=((a x).1+1,(a x).2.1,G)->b k->Q (.next k)
    |.inr y=>Q (Rd.up (outR y)))->(fr x).satP Q)
  (t:∀ x,b x->¬ (a x).1<(a x).2.1.length->∀ Q:Rd L.X Eo.X R.X->Prop,Q (.out (ca (a x).2.2))->(fr x).satP Q) :
  ae P (.loop c) L ⟨n,id,L,Eo,R⟩ (FL step a b ca outR d K):=by
 refine ae.loop (n:=n) (id:=id) h (inv:=λx=>InL (b x) (a x)) (μ:=λx=>(((a x).2.1.length:Int)-(a x).1).toNat) ?_ (λx Q F=>F.1);intro x v Q F;obtain⟨_,i,f,g⟩:=F;by_cases hi:(a x).1<(a x).2.1.length
 ·have D:=v.lo;have l:=v.big;have w:(a x).1.toNat<(a x).2.1.length:=by omega
  have M:(a x).2.1.drop (a x).1.toNat=(a x).2.1[(a x).1.toNat]::(a x).2.1.drop ((a x).1.toNat+1):=ual w;have E:((a x).1+1).toNat=(a x).1.toNat+1:=by omega
  rw[M]at i f g;generalize N:(a x).2.1[(a x).1.toNat]=e at i f g;have B:(a x).2.1[(a x).1.toNat]?= U e:=by rw[uaq w,N]
  refine j x v.good D hi l e B _ (nL i.1 ?_);have m:=i.2;simp only[dt]at f g;cases H:(step e (a x).2.2).get with
  |inl G=>
   simp only[H]at m f g;intro k o C;have q:(a k).1=(a x).1+1:=by rw[o]
   have r:(a k).2.1=(a x).2.1:=by rw[o]
   have A:(a k).2.2=G:=by rw[o]
   have u:InL (b k) (a k):=⟨C,by rw[q];omega,by rw[q,r];omega,by rw[r];exact l⟩;refine⟨u,by rw[q,r];omega,u,?_,?_,?_⟩;rw[q,r,A,E];exact m;rw[q,r,A,E];exact f;rw[q,r,A,E];exact g
  |inr y=>
   simp only[H]at f g;have:=g rfl;simp only[zej]at this;cases s:outR y with
   |next x=>exact nomatch x
   |out O=>rw[s]at this;simp only[s,Rd.up];exact this
   |back z=>rw[s]at this;simp only[s,Rd.up];exact this
   |pan p=>rw[s]at this;simp only[s,Rd.up];exact this
 have w:(a x).2.1.drop (a x).1.toNat=[]:=ua2 (by have:=v.lo;omega);rw[w]at f;exact t x v.good hi _ (f rfl)
def FF(step:T->σ->Fr σ)(a:L.X->Int×List T×σ)(b:L.X->Prop)(ca:σ->Eo.X)(x:L.X):Fr (Rd L.X Eo.X R.X):=
 Fr.need (InL (b x) (a x)) (Fr.need (pg step ((a x).2.1.drop (a x).1.toNat) (a x).2.2)
  (Fr.val (Rd.out (ca (kJ step ((a x).2.1.drop (a x).1.toNat) (a x).2.2)))))
def zdj {fr:L.X->Fr (Rd L.X Eo.X R.X)} (h:ae P c L ⟨n,id,L,Eo,R⟩ fr) (step:T->σ->Fr σ) (a:L.X->Int×List T×σ) (b:L.X->Prop) (ca:σ->Eo.X)
  (g:∀ x,b x->0<=(a x).1->(a x).1<(a x).2.1.length->((a x).2.1.length:Int)<=9223372036854775807->∀ e,(a x).2.1[(a x).1.toNat]?= U e->∀ Q:Rd L.X Eo.X R.X->Prop,
   (step e (a x).2.2).satP (λB=>∀ i,a i=((a x).1+1,(a x).2.1,B)->b i->Q (.next i))->(fr x).satP Q)
  (o:∀ x,b x->¬ (a x).1<(a x).2.1.length->∀ Q:Rd L.X Eo.X R.X->Prop,Q (.out (ca (a x).2.2))->(fr x).satP Q) :
  ae P (.loop c) L ⟨n,id,L,Eo,R⟩ (FF step a b ca):=by
 refine ae.loop (n:=n) (id:=id) h (inv:=λx=>InL (b x) (a x)) (μ:=λx=>(((a x).2.1.length:Int)-(a x).1).toNat) ?_ (λx Q v=>v.1);intro x q Q v;obtain⟨_,f,d⟩:=v;by_cases hi:(a x).1<(a x).2.1.length;have u:=q.lo;have j:=q.big;have r:(a x).1.toNat<(a x).2.1.length:=by omega
 have z:(a x).2.1.drop (a x).1.toNat=(a x).2.1[(a x).1.toNat]::(a x).2.1.drop ((a x).1.toNat+1):=ual r;have y:((a x).1+1).toNat=(a x).1.toNat+1:=by omega
 rw[z]at f d;generalize A:(a x).2.1[(a x).1.toNat]=e at f d;have s:(a x).2.1[(a x).1.toNat]?= U e:=by rw[uaq r,A]
 refine g x q.good u hi j e s _ (nL f.1 ?_);intro i k t;have l:(a i).1=(a x).1+1:=by rw[k]
 have m:(a i).2.1=(a x).2.1:=by rw[k]
 have w:(a i).2.2=(step e (a x).2.2).get:=by rw[k]
 have p:InL (b i) (a i):=⟨t,by rw[l];omega,by rw[l,m];omega,by rw[m];exact j⟩;refine⟨p,by rw[l,m];omega,p,?_,?_⟩;rw[l,m,w,y];exact f.2;rw[l,m,w,y];exact d;have r:(a x).2.1.drop (a x).1.toNat=[]:=ua2 (by have:=q.lo;omega);rw[r]at d;exact o x q.good hi _ d
def Fr.mapR(f:α->β):Fr α->Fr β
 |.val x=>.val (f x)
 |.br b x y=>.br b (x.mapR f) (y.mapR f)
 |.need p x=>.need p (x.mapR f)
def su{f:α->β}{Q:β->Prop}:{t:Fr α}->t.satP (λx=>Q (f x))->(t.mapR f).satP Q
 |.val _,h=>h
 |.br _ _ _,h=>⟨λa=>su (h.1 a),λa=>su (h.2 a)⟩
 |.need _ _,h=>⟨h.1,su h.2⟩
inductive Nd|o|n (m:Nd)|z (m:Nd)|g (c v:Bool) (m:Nd)|h (c v:Bool) (m:Nd)|r (m:Nd)|d (m m2:Nd)
def Nd.ins(b z:Prop):Nd->Fr α->Fr α
 |.n m,t=>.need b (m.ins b z t)
 |.z m,t=>.need z (m.ins b z t)
 |.g c v m,t=>.need (c=v->b) (m.ins b z t)
 |.h c v m,t=>.need (c=v->z) (m.ins b z t)
 |.r m,.need p t=>.need p (m.ins b z t)
 |.d m a,.br c x y=>.br c (m.ins b z x) (a.ins b z y)
 |_,t=>t
def Nd.ins_sat{b z:Prop}{Q:α->Prop}(a:b)(c:z):(m:Nd)->(t:Fr α)->t.satP Q->(m.ins b z t).satP Q
 |.n m,_,q=>⟨a,m.ins_sat a c _ q⟩
 |.z m,_,q=>⟨c,m.ins_sat a c _ q⟩
 |.g _ _ m,_,q=>⟨λ_=>a,m.ins_sat a c _ q⟩
 |.h _ _ m,_,q=>⟨λ_=>c,m.ins_sat a c _ q⟩
 |.r m,.need _ _,q=>⟨q.1,m.ins_sat a c _ q.2⟩
 |.r _,.br _ _ _,q=>q
 |.r _,.val _,q=>q
 |.d m f,.br _ _ _,q=>⟨λe=>m.ins_sat a c _ (q.1 e),λe=>f.ins_sat a c _ (q.2 e)⟩
 |.d _ _,.need _ _,q=>q
 |.d _ _,.val _,q=>q
 |.o,_,q=>q
inductive AllQ (K:α->Prop):Fr α->Prop
 |val (x:α):K x->AllQ K (.val x)
 |br (c:Bool) (x y:Fr α):AllQ K x->AllQ K y->AllQ K (.br c x y)
 |need (p:Prop) (x:Fr α):AllQ K x->AllQ K (.need p x)
def AllQ.sat{K Q:α->Prop}:{t:Fr α}->AllQ K t->t.satP Q->t.satP (λr=>K r/\Q r)
 |.val _,.val _ h,q=>⟨h,q⟩
 |.br _ _ _,.br _ _ _ a b,q=>⟨λe=>a.sat (q.1 e),λe=>b.sat (q.2 e)⟩
 |.need _ _,.need _ _ h,q=>⟨q.1,h.sat q.2⟩
def Wq(b:L.X->Int×List T×σ)(a:L.X->Prop)(up:L.X->σ->L.X)(x:L.X)(s:σ):Prop:=b (up x s)=(I6.wrap ((b x).1+1),(b x).2.1,s)/\a (up x s)
def L5(b:L.X->Int×List T×σ)(a:L.X->Prop)(up:L.X->σ->L.X)(x:L.X):σ ⊕ ρ->Prop
 |.inl s=>Wq b a up x s
 |.inr _=>True
def JK(up:σ->L.X)(outR:ρ->Rd Empty Eo.X R.X):σ ⊕ ρ->Rd L.X Eo.X R.X
 |.inl s=>.next (up s)
 |.inr y=>Rd.up (outR y)
def WC {C:Cx} (D:CxOK P C) {Λ:Nat->St->Option Tr} (hΛ:∀ E,bP P E Λ c 0) (step:T->σ->Fr (σ ⊕ ρ)) (f:L.X->Int×List T×σ) (a:L.X->Prop) (ca:σ->Eo.X) (outR:ρ->Rd Empty Eo.X R.X) (d:σ) (q:ρ) (nd:T->σ->Nd) (p:L.X->Int) (el:L.X->T) (b z:L.X->Prop) (up:L.X->σ->L.X)
  (l:∀ x,a x->0<=(f x).1->(f x).1<(f x).2.1.length->p x=((f x).2.1.length:Int)/\(f x).2.1[(f x).1.toNat]?= U (el x)/\b x/\z x)
  (m:∀ x,a x->¬ (f x).1<(f x).2.1.length->¬ (f x).1<p x)
  (g:∀ x,nB P C 0 Λ c L ⟨n,id,L,Eo,R⟩ x=U (Fr.br (J ((f x).1<p x)) (((nd (el x) (f x).2.2).ins (b x) (z x) (step (el x) (f x).2.2)).mapR (JK (up x) outR)) (Fr.val (Rd.out (ca (f x).2.2)))))
  (o:∀ x,a x->AllQ (L5 (ρ:=ρ) f a up x) (step (el x) (f x).2.2):=by intro _ h;repeat' first|exact And.intro rfl h|exact trivial|constructor)
  (G:L.low=true:=by rfl) (F:Eo.low=true:=by rfl) (H:R.low=true:=by rfl) :
  ae P (.loop c) L ⟨n,id,L,Eo,R⟩ (FL step f a ca outR d q):=by
 refine zdk (ae.of_run D (bs:=0) (Λ:=Λ) G F H hΛ g) step f a ca outR d q ?_ ?_;intro x j B i M e K Q h;obtain⟨t,u,v,w⟩:=l x j B i;have A:el x=e:=ud3 (u.symm.trans K);subst A;refine⟨λ_=>su (Nd.ins_sat v w _ _ (Fr.satP_mono (λr g=>?_) ((o x j).sat h))),λk=>absurd (t ▸ i) (uch k)⟩;cases r with
 |inl s=>exact g.2 _ (g.1.1.trans (by rw[IntWalk.i64_in _ (by omega)])) g.1.2
 |inr y=>exact g.2
 intro x j i Q h;exact⟨λk=>absurd (ucx k) (m x j i),λ_=>h⟩
def qf {C:Cx} (o:CxOK P C) {Λ:Nat->St->Option Tr} {step:T->σ->Fr (σ ⊕ ρ)} {a:L.X->Int×List T×σ} {b:L.X->Prop} {ca:σ->Eo.X} {outR:ρ->Rd Empty Eo.X R.X} {d:σ} {j:ρ} (nd:T->σ->Nd) (e:T) (i:L.X->Int) (up:L.X->σ->L.X) (k:∀ x,b x->i x=((a x).2.1.length:Int))
  (hΛ:∀ E,bP P E Λ c 0:=by exact λ_=>aY _ 0)
  (s:∀ x,nB P C 0 Λ c L ⟨n,id,L,Eo,R⟩ x=U (Fr.br (J ((a x).1<i x)) (((nd ((a x).2.1.getD (a x).1.toNat e) (a x).2.2).ins (0<=(a x).1/\(a x).1<((a x).2.1.length:Int)) True (step ((a x).2.1.getD (a x).1.toNat e) (a x).2.2)).mapR (JK (up x) outR)) (Fr.val (Rd.out (ca (a x).2.2)))):=by intro x;kernel_rfl)
  (g:∀ x,b x->AllQ (L5 (ρ:=ρ) a b up x) (step ((a x).2.1.getD (a x).1.toNat e) (a x).2.2):=by intro _ h;repeat' first|exact And.intro rfl h|exact trivial|constructor)
  (q:L.low=true:=by rfl) (p:Eo.low=true:=by rfl) (r:R.low=true:=by rfl) :
  ae P (.loop c) L ⟨n,id,L,Eo,R⟩ (FL step a b ca outR d j):=
 WC o hΛ step a b ca outR d j nd i _ _ _ up (λx f l m=>⟨k x f,by
  rw[uaq (by omega),uah,uaq (by omega)];rfl,⟨l,m⟩,uT⟩) (λx f h=>by rw[k x f];exact h) s g q p r
def zdl {C:Cx} (v:CxOK P C) {Λ:Nat->St->Option Tr} {i:Type} {step:T×i->σ->Fr (σ ⊕ ρ)} {a:L.X->Int×List (T×i)×σ} {b:L.X->Prop} {ca:σ->Eo.X} {outR:ρ->Rd Empty Eo.X R.X} {d:σ} {p:ρ} (nd:T×i->σ->Nd) (j:T) (f:i) (e:L.X->List T) (g:L.X->List i) (m:L.X->Int) (up:L.X->σ->L.X) (s:∀ x,b x->m x=((e x).length:Int)/\(e x).length=(g x).length)
  (hΛ:∀ E,bP P E Λ c 0:=by exact λ_=>aY _ 0)
  (B:∀ x,nB P C 0 Λ c L ⟨n,id,L,Eo,R⟩ x=U (Fr.br (J ((a x).1<m x)) (((nd ((e x).getD (a x).1.toNat j,(g x).getD (a x).1.toNat f) (a x).2.2).ins (0<=(a x).1/\(a x).1<((e x).length:Int)) (0<=(a x).1/\(a x).1<((g x).length:Int)) (step ((e x).getD (a x).1.toNat j,(g x).getD (a x).1.toNat f) (a x).2.2)).mapR (JK (up x) outR)) (Fr.val (Rd.out (ca (a x).2.2)))):=by intro x;kernel_rfl)
  (r:∀ x,(a x).2.1=(e x).zip (g x):=by intro _;rfl)
  (l:∀ x,b x->AllQ (L5 (ρ:=ρ) a b up x) (step ((e x).getD (a x).1.toNat j,(g x).getD (a x).1.toNat f) (a x).2.2):=by intro _ h;repeat' first|exact And.intro rfl h|exact trivial|constructor)
  (y:L.low=true:=by rfl) (w:Eo.low=true:=by rfl) (z:R.low=true:=by rfl) :
  ae P (.loop c) L ⟨n,id,L,Eo,R⟩ (FL step a b ca outR d p):=
 WC v hΛ step a b ca outR d p nd m _ _ _ up (λx k q u=>by
  obtain⟨o,t⟩:=s x k;rw[r x,udy]at u |-;have hi:(a x).1.toNat<(e x).length:=by omega
  have A:(a x).1.toNat<(g x).length:=by omega
  refine⟨by rw[o];omega,?_,⟨q,by omega⟩,⟨q,by omega⟩⟩;rw[uah,uah,uaq hi,uaq A,uaq (by rw[udy];omega),List.getElem_zip];rfl) (λx k h=>by
  obtain⟨o,t⟩:=s x k;rw[r x,udy]at h;omega) B l y w z
def LF {C:Cx} (q:CxOK P C) {Λ:Nat->St->Option Tr} {step:T->σ->Fr σ} {a:L.X->Int×List T×σ} {b:L.X->Prop} {ca:σ->Eo.X} (nd:T->σ->Nd) (f:T) (o:L.X->Int) (up:L.X->σ->L.X) (m:∀ x,b x->o x=((a x).2.1.length:Int))
  (hΛ:∀ E,bP P E Λ c 0:=by exact λ_=>aY _ 0)
  (d:∀ x,nB P C 0 Λ c L ⟨n,id,L,Eo,R⟩ x=U (Fr.br (J ((a x).1<o x)) (((nd ((a x).2.1.getD (a x).1.toNat f) (a x).2.2).ins (0<=(a x).1/\(a x).1<((a x).2.1.length:Int)) True (step ((a x).2.1.getD (a x).1.toNat f) (a x).2.2)).mapR (λs=>Rd.next (up x s))) (Fr.val (Rd.out (ca (a x).2.2)))):=by intro x;kernel_rfl)
  (k:∀ x,b x->AllQ (Wq a b up x) (step ((a x).2.1.getD (a x).1.toNat f) (a x).2.2):=by intro _ h;repeat' first|exact And.intro rfl h|exact trivial|constructor)
  (t:L.low=true:=by rfl) (r:Eo.low=true:=by rfl) (u:R.low=true:=by rfl) :
  ae P (.loop c) L ⟨n,id,L,Eo,R⟩ (FF step a b ca):=by
 refine zdj (ae.of_run q (bs:=0) (Λ:=Λ) t r u hΛ d) step a b ca ?_ ?_;intro x i p g w e v Q h;have l:(a x).2.1.getD (a x).1.toNat f=e:=by rw[uah,v];rfl
 rw[l];refine⟨λ_=>su (Nd.ins_sat ⟨p,g⟩ trivial _ _ (Fr.satP_mono (λs d=>?_) (AllQ.sat (l ▸ k x i) h))),λj=>absurd (m x i ▸ g) (uch j)⟩;exact d.2 _ (d.1.1.trans (by rw[IntWalk.i64_in _ (by omega)])) d.1.2;intro x i g Q h;exact⟨λj=>absurd (ucx j) (by rw[m x i];exact g),λ_=>h⟩
def ph{step:T->σ->Fr (σ ⊕ ρ)}(h:∀ e s,(step e s).ok):(l:List T)->(s:σ)->jo step l s
 |[],_=>trivial
 |e::r,s=>by
  refine⟨h e s,?_⟩;split;exact ph h r _;trivial
end
section
variable {P:Program} {c:Code} {L Eo R:LS} {n id:Nat} {T σ ρ:Type}
end
end Go.Ab
