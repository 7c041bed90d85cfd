/-
  Parts of the proof, one behind the other.
-/
import Derived.Test.YtdadnmgajcfkfaaGreatMg
import Derived.MapKept
import Derived.Carry
import Derived.WalkKit
import Derived.Deep.RegionLaw
import Derived.Lib.Overlaps
import Derived.Lib.AppendZerosOnto
import Derived.Laws.NewBlocks
import Derived.Lib.AppendZeros
set_option linter.all false
set_option maxRecDepth 100000
set_option maxHeartbeats 4000000
noncomputable section
open Option renaming some->U,none->V
open Bool renaming true->Z,false->Y
open Decidable renaming decide->J
open List renaming replicate->Lrp
open BitVec renaming ofInt->Bvo
open Go Go.RowKit
variable {T α σ ρ β:Type} {P:Program} {ad:Addr} {arr cs cur:Array Value} {f:FuncId} {x a y day:Int} {k:IntKind} {l:List Int} {xs vs news:List Value} {off i n b c d B m len:Nat} {F F' K:Nat->Prop} {R g R':Nat->Value->Prop} {o:Oper} {p:Prop} {e ety t ty el:TypeId} {v u vx:Value} {w w' W' W:World}
namespace Go.Proofs.YtdadnmgajcfkfaaGreat
open Go Go.Ab Go.RowKit Go.Proofs Tryz
open Go.Ab.Fr renaming val->Jv,need->Jd,br->Jb
section
open Go.Shelf
attribute [local go_sem] Oper.semAt_some
def qe7:Cx:=cx [(187,lg),(83,qV),(194,qX),(196,Az)] []
def DI:CxOK prog qe7:=aQ aH ⟨OQ,XW,OV,qcu,uT⟩ trivial
def tq(k:Nat)(t:dF.q):Bool:=match k with
 |0=>(lg.f (t.1,())).1
 |1=>bif J ((qV.f (t.1,())).1>=1)then J ((qV.f (t.1,())).1<=1100)else Y
 |2=>(qX.f (t.2.1,())).1
 |_=>(Az.f (t.2.2.1,())).1
def AD(k:Nat):Ct:=⟨[.ptr dF],[.bool],λx=>(tq k x.1,()),λ_=>[]⟩
def zqj:ag prog 191 (AD 0):=
 dz (aT DI f191 (fr:=λx=>Jv (tq 0 x.1,())) (ps:=[.ptr dF]) (rs:=[.bool])) _ _ (λ_ _ _ _ _ _=>⟨uT,rfl⟩)
def zqk:ag prog 192 (AD 1):=
 dz (aT DI f192 (fr:=λx=>Jv (tq 1 x.1,())) (ps:=[.ptr dF]) (rs:=[.bool])) _ _ (λ_ _ _ _ _ _=>⟨uT,rfl⟩)
def zql:ag prog 193 (AD 2):=
 dz (aT DI f193 (fr:=λx=>Jv (tq 2 x.1,())) (ps:=[.ptr dF]) (rs:=[.bool])) _ _ (λ_ _ _ _ _ _=>⟨uT,rfl⟩)
def zqm:ag prog 195 (AD 3):=
 dz (aT DI f195 (fr:=λx=>Jv (tq 3 x.1,())) (ps:=[.ptr dF]) (rs:=[.bool])) _ _ (λ_ _ _ _ _ _=>⟨uT,rfl⟩)
def eM:Nat->Nat
 |0=>191
 |1=>192
 |2=>193
 |_=>195
def qc5:(k:Nat)->k<4->ag prog (eM k) (AD k)
 |0,_=>zqj
 |1,_=>zqk
 |2,_=>zql
 |3,_=>zqm
 |n+4,h=>absurd h (by omega)
def zqn{b:Int}(g:fp (a,b,())=Z):mw (a,b,())=Z/\J (b-a>=1)=true:=by obtain⟨d,e,f⟩:=oe.1 g;refine⟨?_,?_⟩;have c:a<=b:=ueu e;simp only[mw,udc,ucu];exact⟨d,c,f⟩;simp;omega
def zp9(t:dF.q):(tq 0 t&&(tq 1 t&&(tq 2 t&&tq 3 t)))=i9 t:=by
 obtain⟨⟨a,b,_⟩,r,g,_⟩:=t;show(mw (a,b,())&&((bif J (uI a b>=1)then J (uI a b<=1100)else Y)&&(qp r.1 r.2.1 r.2.2.1 r.2.2.2.1&&ky g)))=(fp (a,b,())&&(J (b-a<=1100)&&(qp r.1 r.2.1 r.2.2.1 r.2.2.2.1&&ky g)));by_cases c:fp (a,b,())=Z;have f:uI a b=b-a:=ufw c;obtain⟨h,e⟩:=zqn c;rw[f,h,c,e];rfl;have f:uI a b=0:=ufx c;have d:fp (a,b,())=false:=by simpa using c
 rw[f,d];simp
def zp7 (d f g h i k l:Value) (R:Ending->World->Prop) (w:World)
  (c:∀ a,Calls prog 190 #[.slice (U ⟨w.heap.size+1,0,V⟩) 4 a] ((w.alloc (.cells #[d,f,g,h,i,k,l] 65)).alloc (.cells #[.func (.func (eM 0)) #[] #[.pointer (U ⟨w.heap.size,0,V⟩)],.func (.func (eM 1)) #[] #[.pointer (U ⟨w.heap.size,0,V⟩)],.func (.func (eM 2)) #[] #[.pointer (U ⟨w.heap.size,0,V⟩)],.func (.func (eM 3)) #[] #[.pointer (U ⟨w.heap.size,0,V⟩)]] 45)) R)
  (n:∀ e w',R e w'->∃ r,e=.returned (.bool r)) :
  Calls prog 131 #[.agg #[d,f,g,h,i,k,l]] w R:=by
 have o:∀ (m:Fn) (first a:Array Value) (w:World),(Instr.makeFunc m first a).run prog w=.ok (.func m first a) w:=λ_ _ _ _=>rfl
 go_enter func131,ntmps131
 go_wp2_with (go_at_call 190;refine(c 4).mono ?_;rintro e w' b;obtain⟨r,rfl⟩:=n e w' b)
 exact b
def PH:ag prog 131 t7:=by
 refine⟨enters (fn:=f131) (by kernel_rfl) rfl rfl,λw F xs vs r O _=>?_⟩;obtain⟨t,_⟩:=xs;obtain⟨va,vs',rfl,E,N⟩:=O;cases N;have a:bJ w F dF t va:=E;obtain⟨c,rfl⟩:=a.2.1.1 rfl;have P:c.size=7:=a.1;obtain⟨d,f,g,l,m,n,o,rfl⟩:∃ d f g l m n o,c = #[d,f,g,l,m,n,o]:=by
  refine⟨c[0],c[1],c[2],c[3],c[4],c[5],c[6],?_⟩;apply ufp;simp[P];intro i h1 h2;have:i<7:=by omega
  match i,this with
  |0,_|1,_|2,_|3,_|4,_|5,_|6,_=>rfl
 have Q:((w.alloc (.cells #[d,f,g,l,m,n,o] 65)).alloc (.cells #[.func (.func (eM 0)) #[] #[.pointer (U ⟨w.heap.size,0,V⟩)],.func (.func (eM 1)) #[] #[.pointer (U ⟨w.heap.size,0,V⟩)],.func (.func (eM 2)) #[] #[.pointer (U ⟨w.heap.size,0,V⟩)],.func (.func (eM 3)) #[] #[.pointer (U ⟨w.heap.size,0,V⟩)]] 45)).heap.size=w.heap.size+2:=by simp
 have z0:=(udb (w.alloc (.cells #[d,f,g,l,m,n,o] 65)) (.cells #[.func (.func (eM 0)) #[] #[.pointer (U ⟨w.heap.size,0,V⟩)],.func (.func (eM 1)) #[] #[.pointer (U ⟨w.heap.size,0,V⟩)],.func (.func (eM 2)) #[] #[.pointer (U ⟨w.heap.size,0,V⟩)],.func (.func (eM 3)) #[] #[.pointer (U ⟨w.heap.size,0,V⟩)]] 45) w.heap.size (by simp only[udg];omega)).trans (World.alloc_heap_new w (.cells #[d,f,g,l,m,n,o] 65));have H:=World.alloc_heap_new (w.alloc (.cells #[d,f,g,l,m,n,o] 65)) (.cells #[.func (.func (eM 0)) #[] #[.pointer (U ⟨w.heap.size,0,V⟩)],.func (.func (eM 1)) #[] #[.pointer (U ⟨w.heap.size,0,V⟩)],.func (.func (eM 2)) #[] #[.pointer (U ⟨w.heap.size,0,V⟩)],.func (.func (eM 3)) #[] #[.pointer (U ⟨w.heap.size,0,V⟩)]] 45);have s:Below w.heap.size w ((w.alloc (.cells #[d,f,g,l,m,n,o] 65)).alloc (.cells #[.func (.func (eM 0)) #[] #[.pointer (U ⟨w.heap.size,0,V⟩)],.func (.func (eM 1)) #[] #[.pointer (U ⟨w.heap.size,0,V⟩)],.func (.func (eM 2)) #[] #[.pointer (U ⟨w.heap.size,0,V⟩)],.func (.func (eM 3)) #[] #[.pointer (U ⟨w.heap.size,0,V⟩)]] 45)):=((ufk _ w).alloc (ufb _) _).alloc (by simp) _;refine(zp7 d f g l m n o (λe z=>e=.returned (.bool (i9 t))/\Below w.heap.size w z) w (λA=>?_) (λe z h=>⟨_,h.1⟩)).mono ?_;rw[udg]at H;generalize ((w.alloc (.cells #[d,f,g,l,m,n,o] 65)).alloc (.cells #[.func (.func (eM 0)) #[] #[.pointer (U ⟨w.heap.size,0,V⟩)],.func (.func (eM 1)) #[] #[.pointer (U ⟨w.heap.size,0,V⟩)],.func (.func (eM 2)) #[] #[.pointer (U ⟨w.heap.size,0,V⟩)],.func (.func (eM 3)) #[] #[.pointer (U ⟨w.heap.size,0,V⟩)]] 45))=G at *;have M:FourFn G (w.heap.size+1) 0 eM (λ_=>#[.pointer (U ⟨w.heap.size,0,V⟩)]) (λk=>tq k t):=by
  refine⟨by omega,λk x=>?_,λk x=>(qc5 k x).1,λk x W B=>?_⟩;rw[uey,cn H k]
  match k,x with
  |0,_|1,_|2,_|3,_=>rfl
  have T:W.heap[w.heap.size]?= _:=(B.block _ (by omega)).trans z0;have y:aG W (λb=>F b\/b=w.heap.size) dF t (λj u=>W.cell? ((⟨w.heap.size,0,V⟩:Addr).add j)=U u):=by
   refine a.2.2.mono (λ_ h=>.inl h) (λb p=>(B.block b (by have:=r b p;omega)).trans (s.block b (r b p))) λj u _ R=>?_;have e:(⟨w.heap.size,0,V⟩:Addr).add j=⟨w.heap.size,j,V⟩:=by unfold Addr.add;split<;>simp_all
   rw[e,cn T j];exact R
  refine((qc5 k x).2 W (λb=>F b\/b=w.heap.size) (t,()) [.pointer (U ⟨w.heap.size,0,V⟩)] (λb p=>?_) ⟨_,[],rfl,⟨⟨w.heap.size,0,V⟩,rfl,.inr rfl,y⟩,rfl⟩ trivial).mono ?_;have:=B.size;rcases p with h|h
  have:=r b h;omega;omega;rintro e L ⟨v,K,rfl,C,_,_,S⟩;have D:aK prog L K (λ_ _=>True) (eR .bool (tq k t)) v:=iH S;exact⟨by rw[show v=.bool (tq k t) from D.2],C⟩
 refine(qk2 (w.heap.size+1) 0 A eM _ (λk=>tq k t) G M).mono ?_;rintro e z ⟨rfl,p⟩;rw[zp9];exact⟨rfl,s.trans (p.mono (by omega))⟩;rintro e z ⟨rfl,p⟩;exact⟨_,F,rfl,p,λ_ h=>h,λb h=>⟨.inl h,ucb (r b h) p.size⟩,rfl,⟨λh=>(by cases h),λ⟨c,h⟩=>(by cases h)⟩,rfl⟩
end
section
attribute [local go_sem] Oper.semAt_some
abbrev AT:List (Int×Nat):=[(1,227),(2,228),(3,229),(4,230)]
def DR(w:World)(r:Nat)(c:List (Int×Nat)):Prop:=∃ a b,w.heap[r]?= U (.map a b)/\a.toList.map (λe=>(e.key,e.val))=c.map (λx=>(Value.int .i64 x.1,Value.func (.func x.2) #[] #[]))
def Gw{kt et:TypeId}{r f:Nat}{es:List (Int×Nat)}{n:Int}(ht:P.underlying t=some (.map kt et))(hk:P.underlying kt=some (.int .i64))(h:DR w r es)(hn:es.find? (λx=>x.1==n)=none):
  ∃ w',(Instr.mapUpdate t (.map (some r)) (.int .i64 n) (.func (.func f) #[] #[])).run P w=.ok () w'/\DR w' r (es++[(n,f)])/\w'.heap.size=w.heap.size/\(∀ b,b≠r->w'.heap[b]?= w.heap[b]?)/\w'.os=w.os/\w'.tape=w.tape/\w'.output=w.output:=by
 obtain⟨arr,ck,hr,he⟩:=h;obtain⟨j,hj⟩:=Ml arr.toList es 0 he;rw[hn]at hj;have hck:(Instr.checkKey false 10000 kt (.int .i64 n)).run P w=.ok () w:=Fc hk false 9999 n;have hob:(getObj r).run P w=.ok (.map arr ck) w:=by simp[getObj,Sem.run,hr]
 have hlt:=(uaf.1 hr).1;refine⟨{ w with heap:=w.heap.setIfInBounds r (.map (arr.push { key:=.int .i64 n,val:=.func (.func f) #[] #[],born:=ck }) (ck+1)) },?_,?_,?_,?_,rfl,rfl,rfl⟩
 ·simp[Instr.mapUpdate,ud6 ht,hob,hck,Instr.findKey,ud6 hk,hj,Go.MapKept.run_setObj_map _ hr]
 ·refine⟨_,_,by simp[hlt];exact⟨rfl,rfl⟩,?_⟩;simp[he]
 ·simp
 ·intro b hb;simp[Ne.symm hb]
def Ix:prog.underlying 352=U (.map 3 268):=by kernel_rfl
def Iy:prog.underlying 3=U (.int .i64):=by kernel_rfl
def qn0(w:World):Calls prog 188 #[] w λe w'=>e=.returned (.map (U w.heap.size))/\DR w' w.heap.size AT/\Below w.heap.size w w'/\w'.heap.size=w.heap.size+1:=by
 have y:=@run_makeMap prog;have G:DR (w.alloc (.map #[] 0)) w.heap.size []:=⟨#[],0,by show(w.heap.push _)[w.heap.size]?= _;exact Array.getElem?_push_size,rfl⟩
 go_enter func188,ntmps188
 obtain⟨N,H,z,c,o1,i,o,t⟩:=Gw (n:=1) (f:=227) Ix Iy G rfl;obtain⟨O,K,A,d,D,k,p,u⟩:=Gw (n:=2) (f:=228) Ix Iy z rfl;obtain⟨P,L,B,g,E,l,r,v⟩:=Gw (n:=3) (f:=229) Ix Iy A rfl;obtain⟨Q,M,C,h,F,m,s,x⟩:=Gw (n:=4) (f:=230) Ix Iy B rfl
 go_wp2
 go_ret
 refine⟨rfl,C,⟨?_,?_,?_,?_,?_⟩,?_⟩;rw[m,l,k,i];rfl;rw[s,r,p,o];rfl;rw[x,v,u,t];rfl;rw[h,g,d,c,World.alloc,Array.size_push];omega;intro b a;rw[F b (by omega),E b (by omega),D b (by omega),o1 b (by omega),World.alloc];rw[Array.getElem?_push_lt a,uam a];rw[h,g,d,c,World.alloc,Array.size_push]
def S5:Ct:=⟨[],[.fm AT],λ_=>((),()),λ_=>[]⟩
def qnz:ag prog 188 S5:=by refine⟨enters (fn:=f188) (by kernel_rfl) rfl rfl,λw F p m g d _=>?_⟩;have l:m=[]:=d;subst l;refine(qn0 w).mono ?_;rintro e o ⟨rfl,⟨c,f,d,i⟩,a,k⟩;refine⟨_,λb=>F b\/b=w.heap.size,rfl,a,λb h=>.inl h,λb h=>⟨h.elim .inl (λh=>.inr (by omega)),h.elim (λh=>by have:=g b h;omega) (λh=>by omega)⟩,?_⟩;refine⟨rfl,⟨λh=>(by cases h),λ⟨n,h⟩=>(by cases h)⟩,w.heap.size,c,f,rfl,.inr rfl,d,i⟩
end
def qe0:Cx:=cx [(188,S5),(189,wL),(227,JP),(228,JQ),(229,JR),(230,JS)] []
def qe1:CxOK prog qe0:=aQ aH ⟨qnz,TL,qof,qog,qoh,qoi,uT⟩ trivial
def tF(c:ay.q):Bool:=bif bif (AT.find? (λx=>x.1==c.2.2.1)).isSome then (wL.f (c.1,())).1 else Y then (wL.f (c.2.1,())).1 else Y
def MF(x:ap [.d ay]):Fr (aa [.bool]):=
 let a:=x.1.2.2.1;Jd (tF x.1=Z->a=1->True)
  (Jd (tF x.1=Z->a≠1->(a=2->True)/\(a≠2->(a=3->True)/\(a≠3->a=4)))
   (Jv (bif tF x.1 then (bif a==1 then JP.f (x.1,())else bif a==2 then JQ.f (x.1,())else bif a==3 then JR.f (x.1,())else JS.f (x.1,())).1 else Y,())))
def qn3(k:Int):(AT.find? (λx=>x.1==k)).isSome=J (k=1\/k=2\/k=3\/k=4):=by rw[udy];simp only[List.find?_isSome,AT,uej,udj,or_false,ufj,ucu];constructor;rintro⟨x,rfl|rfl|rfl|rfl,h⟩;exact .inl h.symm;exact .inr (.inl h.symm);exact .inr (.inr (.inl h.symm));exact .inr (.inr (.inr h.symm));rintro(h|h|h|h);exact⟨(1,227),.inl rfl,h.symm⟩;exact⟨(2,228),.inr (.inl rfl),h.symm⟩;exact⟨(3,229),.inr (.inr (.inl rfl)),h.symm⟩;exact⟨(4,230),.inr (.inr (.inr rfl)),h.symm⟩
def qnx(c:ay.q):(MF (c,())).ok/\(MF (c,())).get=(fk c,()):=by
 have hk:=qn3 c.2.2.1;have hg:tF c=true->c.2.2.1=1\/c.2.2.1=2\/c.2.2.1=3\/c.2.2.1=4:=by
  intro h;unfold tF at h;rw[hk]at h;by_cases hd:c.2.2.1=1\/c.2.2.1=2\/c.2.2.1=3\/c.2.2.1=4;exact hd;rw[udw hd]at h;cases h
 refine⟨⟨λ_ _=>uT,λh hn=>⟨λ_=>uT,λh2=>⟨λ_=>uT,λh3=>?_⟩⟩,uT⟩,?_⟩;rcases hg h with h1|h1|h1|h1
 exact absurd h1 hn;exact absurd h1 h2;exact absurd h1 h3;exact h1;show(bif tF c then (bif c.2.2.1==1 then (KD c,())else bif c.2.2.1==2 then (KE c,())else bif c.2.2.1==3 then (KF c,())else (KG c,())).1 else false,())=(fk c,());unfold tF fk G8;rw[hk];show((bif bif bif _ then jo c.1 else false then jo c.2.1 else false then _ else false),())=_;by_cases h1:c.2.2.1=1;simp only[h1,true_or,decide_true,cond_true,beq_self_eq_true,if_true];cases jo c.1<;>cases jo c.2.1<;>rfl
 by_cases h2:c.2.2.1=2;simp[h2];cases jo c.1<;>cases jo c.2.1<;>rfl
 by_cases h3:c.2.2.1=3;simp[h3];cases jo c.1<;>cases jo c.2.1<;>rfl
 by_cases h4:c.2.2.1=4;simp[h4];cases jo c.1<;>cases jo c.2.1<;>rfl
 simp[h1,h2,h3,h4]
def KA:ag prog 130 qS:=
 conv (aT qe1 f130 (fr:=MF) (ps:=[.d ay]) (rs:=[.bool])) _ _
  (λ_ _ x _ _ _=>by obtain⟨c,_⟩:=x;obtain⟨a,b⟩:=qnx c;exact⟨a,b⟩)
def CHR:Cx:=cx [(130,qS),(131,t7),(96,iD)] []
def Qu:CxOK prog CHR:=aQ aH ⟨KA,PH,rC,uT⟩ trivial
abbrev oJ:Pt:=⟨34,0,⟨[(8,.d i64),(7,.d i64),(6,.d (.sl ay))],[.x 1 80 aD,.r 1 1 0]⟩,⟨[],[.x 1 80 aD,.r 1 1 0]⟩,⟨[(2,.d .bool)],[]⟩⟩
abbrev vJ:Type:=ap []×dj [.x 1 80 aD,.r 1 1 0]
def Du(e:ay.q)(s:vJ):Fr (vJ ⊕ oJ.R.X):=
 Jb (bif !(qS.f (e,())).1 then Z else !(iD.f (s.2.1.2.2.1.1,e.2.1,())).1) (Jv (.inr ((Y,()),()))) (Jv (.inl ((),s.2.1,())))
def sJ(x:oJ.M.X):Int×List ay.q×vJ:=(x.1.1,x.1.2.2.1,x.1.2.2.2,x.2)
def Wi(x:oJ.M.X):Prop:=x.1.2.1=(x.1.2.2.1.length:Int)
def GT(s:vJ):oJ.E.X:=((),s.2.1,())
def Fj:vJ:=(aY _,cf _)
def Lc:oJ.R.X:=(aY _,cf _)
def zfl:af prog (.loop (au f74 0)) oJ.M oJ (FL Du sJ Wi GT Rd.back Fj Lc):=
 sQ Qu (λ_ _=>.n .o) ay.j (λx=>x.1.2.1) (λx s=>((I6.wrap (x.1.1+1),x.1.2.1,x.1.2.2.1,s.1),s.2)) (λ_ h=>h)
def zo(y:oJ.M.X):vJ ⊕ oJ.R.X:=eC Du ((sJ y).2.1.drop (sJ y).1.toNat) (sJ y).2.2
def zhx(y:oJ.M.X):Prop:=l6 Du ((sJ y).2.1.drop (sJ y).1.toNat) (sJ y).2.2
def qvs(x:ap [.d aD]):Fr (aa [.bool]):=
 let a:=((0,((List.length x.1.2.2.2.1):Int),x.1.2.2.2.1,()),x.1,());let c:=zo a;let b:=GT (fq Fj c);Jd (InL (Wi a) (sJ a)) (Jd (zhx a) (Jb (dV c) (Jv (bif (t7.f (b.2.1.2.2.1,())).1 then J (((List.length b.2.1.2.2.2.1):Int)<=2000)else Y,())) (Jv ((e9 Lc c).1.1,()))))
def qvt:ag prog 74 (bg [.d aD] [.bool] qvs):=
 cZ Qu zfl
def zoi(e:ay.q)(s:vJ):(Du e s).get=if (fk e&&eH s.2.1.2.2.1.1.1 s.2.1.2.2.1.1.2.1 e.2.1)=Z then .inl s else .inr ((Y,()),()):=by show(if (bif !(fk e)then Z else !(eH s.2.1.2.2.1.1.1 s.2.1.2.2.1.1.2.1 e.2.1))=Z then _ else _)=_;cases fk e<;>cases eH s.2.1.2.2.1.1.1 s.2.1.2.2.1.1.2.1 e.2.1<;>rfl
def qrw(l:List T)(s:σ):iZ (λ(_:T) (s:σ)=>s) l s=s:=by
 induction l with
 |nil=>rfl
 |cons e r a=>exact a
def zl9:ag prog 74 Ke:=
 conv qvt _ _ (λw F x n i _=>by
  obtain⟨h,_⟩:=x;obtain⟨v,l,rfl,k,_⟩:=i;have g:=aG.wf k.2.2;have d:(h.2.2.2.1.length:Int)<=9223372036854775807:=yf g.2.2.2.1.1;refine⟨⟨⟨rfl,ufc _,ub4 _,d⟩,rR (step:=Du) (λe s=>⟨λ_=>uT,λ_=>uT⟩) _ _,λ_=>uT,λ_=>uT⟩,?_⟩;have a:=tv (f:=λ_ s=>s) zoi h.2.2.2.1 ((),(h,()));rw[qk1,qrw]at a;have b:zo ((0,(h.2.2.2.1.length:Int),h.2.2.2.1,()),(h,()))=if (h.2.2.2.1.all λc=>fk c&&eH h.2.2.1.1.1 h.2.2.1.1.2.1 c.2.1)=Z then .inl ((),(h,()))else .inr ((Y,()),()):=a
  show(if dV (zo ((0,(h.2.2.2.1.length:Int),h.2.2.2.1,()),(h,())))=Z then
   ((bif i9 (GT (fq Fj (zo ((0,(h.2.2.2.1.length:Int),h.2.2.2.1,()),(h,()))))).2.1.2.2.1 then J (((GT (fq Fj (zo ((0,(h.2.2.2.1.length:Int),h.2.2.2.1,()),(h,()))))).2.1.2.2.2.1.length:Int)<=2000)else Y,()):Bool×Unit)
   else ((e9 Lc (zo ((0,(h.2.2.2.1.length:Int),h.2.2.2.1,()),(h,())))).1.1,()))=(lx h,())
  rw[b];unfold lx;cases m:(h.2.2.2.1.all λc=>fk c&&eH h.2.2.1.1.1 h.2.2.1.1.2.1 c.2.1)with
  |false=>show((Y,()):Bool×Unit)=_;rw[uee]
  |true=>
   show((bif i9 h.2.2.1 then J ((h.2.2.2.1.length:Int)<=2000)else Y,()):Bool×Unit)=_;rw[uen];have:J ((h.2.2.2.1.length:Int)<=2000)=J (h.2.2.2.1.length<=2000):=by rw[udy];simp only[ucu];omega
   rw[this];cases i9 h.2.2.1<;>rfl)
abbrev Mo:Ty:=.pair i64 (.pair i64 (.pair i64 (.pair i64 (.pair i64 .unit))))
def dD(f:Mo.q):List Int:=[f.1,f.2.1,f.2.2.1,f.2.2.2.1,f.2.2.2.2.1]
def gR:List Int->Int->Int×Int
 |[],m=>(m,0)
 |b::r,m=>if (iq m b).2=0 then gR r (iq m b).1 else iq m b
def CQ:Cx:=cx [(204,EE),(194,qX),(101,kZ),(205,S3),(129,kv)] []
def Q4:CxOK prog CQ:=aQ aH ⟨zpu,OV,AX,ql2,Aw,uT⟩ trivial
def MQ:LS:=⟨[(8,.d i64),(9,.d i64),(59,.d Mo),(60,.d i64)],[.x 3 190 aU,.r 3 3 0]⟩
def EQ:LS:=⟨[(8,.d i64),(9,.d i64)],[.x 3 190 aU,.r 3 3 0]⟩
def C6:Pt:=⟨79,1,MQ,EQ,⟨[],[]⟩⟩
def fQ(x:MQ.X):Fr C6.Out:=
 Jb (J (x.1.2.2.2.1<5))
  (Jd (0<=x.1.2.2.2.1/\x.1.2.2.2.1<((5:Nat):Int))
   (Jb ((kv.f (x.1.1,(dD x.1.2.2.1).getD x.1.2.2.2.1.toNat 0,())).2.1 != 0)
    (Jv (Rd.out (((kv.f (x.1.1,(dD x.1.2.2.1).getD x.1.2.2.2.1.toNat 0,())).1,(kv.f (x.1.1,(dD x.1.2.2.1).getD x.1.2.2.2.1.toNat 0,())).2.1,()),x.2)))
    (Jv (Rd.next (((kv.f (x.1.1,(dD x.1.2.2.1).getD x.1.2.2.2.1.toNat 0,())).1,(kv.f (x.1.1,(dD x.1.2.2.1).getD x.1.2.2.2.1.toNat 0,())).2.1,x.1.2.2.1,I6.wrap (x.1.2.2.2.1+1),()),x.2)))))
  (Jv (Rd.out ((x.1.1,x.1.2.1,()),x.2)))
def zmt:af prog (au f139 0) MQ C6 fQ:=af.of_run Q4 (bs:=0) rfl rfl rfl (λ_=>bm _ 0) (λx=>by kernel_rfl)
def wx(i e:Int):Prop:=0<=i/\i<=5/\e=0
def FQ(x:MQ.X):Fr C6.Out:=Jd (wx x.1.2.2.2.1 x.1.2.1) (Jv (.out (((gR ((dD x.1.2.2.1).drop x.1.2.2.2.1.toNat) x.1.1).1,(gR ((dD x.1.2.2.1).drop x.1.2.2.2.1.toNat) x.1.1).2,()),x.2)))
def zb6 (m e i:Int) (f:Mo.q) (y:dj [.x 3 190 aU,.r 3 3 0]) (c:wx i e) (Q:C6.Out->Prop) (b:Q (.out (((gR ((dD f).drop i.toNat) m).1,(gR ((dD f).drop i.toNat) m).2,()),y))) :
  (fQ ((m,e,f,i,()),y)).s7 λ
   |.next d=>wx d.1.2.2.2.1 d.1.2.1/\(5-d.1.2.2.2.1).toNat<(5-i).toNat/\(FQ d).s7 Q
   |.out y=>Q (.out y)
   |.back z=>Q (.back z)
   |.pan p=>Q (.pan p):=by
 obtain⟨v,w,rfl⟩:=c;refine⟨λh=>?_,λh=>?_⟩;have l:i<5:=ucx h;obtain⟨k,rfl⟩:∃ k:Nat,i=k:=⟨i.toNat,by omega⟩;have o:k<(dD f).length:=by show k<5;omega
 have u:I6.wrap ((k:Int)+1)=k+1:=IntWalk.i64_in _ (by omega);have s:(dD f).getD (k:Int).toNat 0=(dD f)[k]:=by rw[show(k:Int).toNat=k by omega,uah,uaq o];rfl
 have t:(dD f).drop (k:Int).toNat=(dD f)[k]::(dD f).drop (k+1):=by exact ual o
 rw[t]at b;rw[s,u];show(0<=(k:Int)/\(k:Int)<((5:Nat):Int))/\(((iq m (dD f)[k]).2 != 0)=Z->Q (.out (((iq m (dD f)[k]).1,(iq m (dD f)[k]).2,()),y)))/\(((iq m (dD f)[k]).2 != 0)=Y->wx (k+1) (iq m (dD f)[k]).2/\(5-((k:Int)+1)).toNat<(5-(k:Int)).toNat/\(FQ (((iq m (dD f)[k]).1,(iq m (dD f)[k]).2,f,(k:Int)+1,()),y)).s7 Q);refine⟨⟨by omega,by omega⟩,λg=>?_,λg=>?_⟩;have a:¬ (iq m (dD f)[k]).2=0:=by simpa using g
 have e:gR ((dD f)[k]::(dD f).drop (k+1)) m=iq m (dD f)[k]:=ufx a;rw[e]at b;exact b;have a:(iq m (dD f)[k]).2=0:=by simpa using g
 have e:gR ((dD f)[k]::(dD f).drop (k+1)) m=gR ((dD f).drop (k+1)) (iq m (dD f)[k]).1:=ufw a;rw[e]at b;have n:wx ((k:Int)+1) (iq m (dD f)[k]).2:=⟨by omega,by omega,a⟩;refine⟨n,by omega,n,?_⟩;have:((k:Int)+1).toNat=k+1:=by omega
 exact b;have l:¬ i<5:=uch h;have:i=5:=by omega
 subst this;exact b
def zdh:af prog (.loop (au f139 0)) MQ C6 FQ:=by refine af.loop zmt (μ:=λx=>(5-x.1.2.2.2.1).toNat) ?_ (λx Q h=>h.1);rintro⟨⟨m,e,f,i,_⟩,y⟩ a Q b;exact zb6 m e i f y a Q b.2
def o6(v:aU.q)(r:eV.q)(c:ar.q):List Int:=
 [([v.2.1.1,v.2.1.2.1,v.2.1.2.2.1,v.2.1.2.2.2.1]:List Int).getD r.1.toNat 0,nL r.2.2.1 v.2.2.1 10000,v.2.2.2.1.getD r.2.2.2.1.toNat 0,v.2.2.2.2.1.getD c.1.toNat 0,c.2.2.2.2.1]
def fa(v:aU.q)(r:eV.q)(c:ar.q):Int×Int:=
 if (sN v&&(qp r.1 r.2.1 r.2.2.1 r.2.2.2.1&&lU c.1 c.2.1 c.2.2.1 c.2.2.2.1 c.2.2.2.2.1))=Z then
  if r.2.2.2.1>=v.2.2.2.1.length then (0,7)else
   if (gR (o6 v r c) r.2.1).2=0 then (if (gR (o6 v r c) r.2.1).1<v.2.2.2.2.2.1 then v.2.2.2.2.2.1 else (gR (o6 v r c) r.2.1).1,0)else (0,(gR (o6 v r c) r.2.1).2)
 else (0,1)
def qW:Ct:=⟨[.d aU,.d eV,.d ar],[i64,i64],λx=>((fa x.1 x.2.1 x.2.2.1).1,(fa x.1 x.2.1 x.2.2.1).2,()),λ_=>[]⟩
def MB(x:ap [.d aU,.d eV,.d ar]):Fr (aa [i64,i64]):=
 Jb (bif bif !(EE.f (x.1,())).1 then Z else !(qX.f (x.2.1,())).1 then Z else !(kZ.f (x.2.2.1,())).1) (Jv (0,1,()))
  (Jb (J (x.2.1.2.2.2.1>=x.1.2.2.2.1.length)) (Jv (0,7,()))
   (Jd (0<=x.2.1.1/\x.2.1.1<((4:Nat):Int))
    (Jd (0<=x.2.1.2.2.2.1/\x.2.1.2.2.2.1<x.1.2.2.2.1.length)
     (Jd (0<=x.2.2.1.1/\x.2.2.1.1<x.1.2.2.2.2.1.length)
      (Jd (wx 0 0)
       (Jb ((gR (o6 x.1 x.2.1 x.2.2.1) x.2.1.2.1).2 != 0) (Jv (0,(gR (o6 x.1 x.2.1 x.2.2.1) x.2.1.2.1).2,()))
        (Jv (if (gR (o6 x.1 x.2.1 x.2.2.1) x.2.1.2.1).1<x.1.2.2.2.2.2.1 then x.1.2.2.2.2.2.1 else (gR (o6 x.1 x.2.1 x.2.2.1) x.2.1.2.1).1,0,()))))))))
def zh7:ag prog 139 (bg [.d aU,.d eV,.d ar] [i64,i64] MB):=
 cZ Q4 zdh
def zgu(a b c:Bool):(bif bif !a then Z else !b then Z else !c)=!(a&&(b&&c)):=by cases a<;>cases b<;>cases c<;>rfl
def zrs{v:aU.q}(h:sN v=Z):v.2.2.2.2.1.length=8:=by unfold sN at h;rw[udc]at h;have a:=ucx h.1;exact a.2.2.2.2.2.2.2
def zln{k v z:Int}(h:qp k v a z=Z):0<=k/\k<4/\0<=z:=by have b:=ucx h;exact⟨b.1,b.2.1,b.2.2.2.2.2.2.1⟩
def qpn{p l g d s:Int}(h:lU p l g d s=Z):0<=p/\p<8:=by have a:=ucx h;exact⟨a.1,a.2.1⟩
def zh3(v:aU.q)(k val a z:Int)(c:ar.q):(MB (v,(k,val,a,z,()),c,())).ok/\(MB (v,(k,val,a,z,()),c,())).get=((fa v (k,val,a,z,()) c).1,(fa v (k,val,a,z,()) c).2,()):=by
 obtain⟨p,l,g,d,s,_⟩:=c;unfold fa;have n:(bif bif !(EE.f (v,())).1 then Z else !(qX.f ((k,val,a,z,()),())).1 then Z else !(kZ.f ((p,l,g,d,s,()),())).1)=!(sN v&&(qp k val a z&&lU p l g d s)):=zgu _ _ _;by_cases h:(sN v&&(qp k val a z&&lU p l g d s))=Z;rw[ufw h];refine aN (by rw[n,h];rfl) ?_;rw[udc,udc]at h;obtain⟨t,u,w⟩:=h;obtain⟨y,B,A⟩:=zln u;obtain⟨o,r⟩:=qpn w;have x:=zrs t;by_cases e:z>=(v.2.2.2.1.length:Int);rw[ufw e];exact aV (ueb e) ⟨uT,rfl⟩;rw[ufx e];have m:=ufl.1 e;refine aN (udw e) (aw ⟨y,by omega⟩ (aw ⟨A,m⟩ (aw ⟨o,?_⟩ (aw ⟨by omega,by omega,rfl⟩ ?_))));show p<(v.2.2.2.2.1.length:Int);rw[x];exact r;by_cases i:(gR (o6 v (k,val,a,z,()) (p,l,g,d,s,())) val).2=0;have b:((gR (o6 v (k,val,a,z,()) (p,l,g,d,s,())) val).2 != 0)=false:=by rw[i];rfl
 rw[ufw i];exact aN b ⟨uT,rfl⟩;have b:=ufn.2 i;rw[ufx i];exact aV b ⟨uT,rfl⟩;rw[ufx h];simp only[Bool.not_eq_true]at h;exact aV (by rw[n,h];rfl) ⟨uT,rfl⟩
def zh6:ag prog 139 qW:=
 dz zh7 _ _ (λ_ _ x _ _ _=>by obtain⟨v,⟨k,val,a,z,_⟩,c,_⟩:=x;exact zh3 v k val a z c)
def Jo:FuncId->Option (Func×(Nat->St->Option Tr)):=cR [(138,(f138,bK)),(203,(f203,bK))]
def qkc:∀ f fn d,Jo f=U (fn,d)->prog.funcs[f]?= U fn/\∀ c a,fn.body=U c->co prog a d c 0:=λf fn d h=>by simp only[Jo,cR]at h;split at h;rename_i b;subst b;cases h;exact⟨by kernel_rfl,λc a _=>bm c 0⟩;split at h;rename_i b;subst b;cases h;exact⟨by kernel_rfl,λc a _=>bm c 0⟩;cases h
def CY:Cx:=dI [(139,qW)] [] (iJ prog eN Jo)
def Rb:CxOK prog CY:=dP aH ⟨zh6,uT⟩ trivial (jt aL qkc)
def MY:LS:=⟨[(16,.d (.sl ar)),(17,.d i64),(18,.d i64),(9,.d i64),(10,.d .bool)],[.x 3 190 aU,.r 3 3 0,.x 4 62 eV,.r 4 4 0,.x 160001 3 i64,.g 8 203 [160001]]⟩
def EY:LS:=⟨[(9,.d i64),(10,.d .bool)],[]⟩
def vd:Pt:=⟨43,0,MY,EY,⟨[(6,.d i64),(7,.d i64)],[]⟩⟩
def UA(v:aU.q)(r:eV.q)(l:List ar.q)(n i s:Int)(b:Bool)(q:Int)(c:ar.q):Fr vd.Out:=
 Jb ((qW.f (v,r,c,())).2.1 != 0) (Jv (Rd.back ((0,(qW.f (v,r,c,())).2.1,()),())))
  (Jb b
   (Jb (J ((qW.f (v,r,c,())).1>I6.wrap (4000000000000000000-q)))
    (Jv (Rd.next ((l,n,I6.wrap (i+1),0,Y,()),(v,r,q,()))))
    (Jv (Rd.next ((l,n,I6.wrap (i+1),I6.wrap (q+(qW.f (v,r,c,())).1),Z,()),(v,r,I6.wrap (q+(qW.f (v,r,c,())).1),())))))
   (Jv (Rd.next ((l,n,I6.wrap (i+1),s,b,()),(v,r,q,())))))
def fY(x:MY.X):Fr vd.Out:=
 Jb (J (x.1.2.2.1<x.1.2.1))
  (Jd (0<=x.1.2.2.1/\x.1.2.2.1<x.1.1.length) (UA x.2.1 x.2.2.1 x.1.1 x.1.2.1 x.1.2.2.1 x.1.2.2.2.1 x.1.2.2.2.2.1 x.2.2.2.1 (x.1.1.getD x.1.2.2.1.toNat ar.j)))
  (Jv (Rd.out ((x.1.2.2.2.1,x.1.2.2.2.2.1,()),())))
def zmx:af prog (au f77 0) MY vd fY:=af.of_run Rb (bs:=0) rfl rfl rfl (λ_=>bm _ 0) (λx=>by kernel_rfl)
def iR(v:aU.q)(r:eV.q):List ar.q->Int->Bool->Int×Bool×Int
 |[],q,b=>(if b=Z then q else 0,b,0)
 |c::l,q,b=>if (fa v r c).2=0 then
   (if b=Z then (if (fa v r c).1>4000000000000000000-q then iR v r l q Y else iR v r l (q+(fa v r c).1) Z)else iR v r l q Y)
  else (0,Y,(fa v r c).2)
def zh2{v:aU.q}{r:eV.q}{c:ar.q}(h:(fa v r c).2=0):0<=(fa v r c).1:=by
 unfold fa at h |-;split;rename_i d;split;exact ufc 0;rename_i f;split;have b:=(Bool.and_eq_true_iff.1 d).1;have a:0<=v.2.2.2.2.2.1:=by unfold sN at b;rw[udc]at b;exact(ucx b.1).2.2.1
 split;exact a;rename_i e;exact ue5 a (ufm.1 e);exact ufc 0;exact ufc 0
def qC(l:List ar.q)(n i s:Int)(b:Bool)(q:Int):Prop:=0<=i/\i<=n/\n=l.length/\n<=9223372036854775807/\0<=q/\q<=4000000000000000000/\s=if b=Z then q else 0
def YT(y:Int×Bool×Int):Fr vd.Out:=Jb (y.2.2 != 0) (Jv (Rd.back ((0,y.2.2,()),()))) (Jv (Rd.out ((y.1,y.2.1,()),())))
def FY(x:MY.X):Fr vd.Out:=Jd (qC x.1.1 x.1.2.1 x.1.2.2.1 x.1.2.2.2.1 x.1.2.2.2.2.1 x.2.2.2.1) (YT (iR x.2.1 x.2.2.1 (x.1.1.drop x.1.2.2.1.toNat) x.2.2.2.1 x.1.2.2.2.2.1))
def zcg(v:aU.q)(r:eV.q)(l:List ar.q)(n i s:Int)(b:Bool)(q:Int)(u:qC l n i s b q)(Q:vd.Out->Prop)(a:(YT (iR v r (l.drop i.toNat) q b)).s7 Q):
  (fY ((l,n,i,s,b,()),(v,r,q,()))).s7 λ
   |.next g=>qC g.1.1 g.1.2.1 g.1.2.2.1 g.1.2.2.2.1 g.1.2.2.2.2.1 g.2.2.2.1/\(g.1.2.1-g.1.2.2.1).toNat<(n-i).toNat/\(FY g).s7 Q
   |.out y=>Q (.out y)
   |.back z=>Q (.back z)
   |.pan p=>Q (.pan p):=by
 obtain⟨R,S,rfl,x,F,G,H⟩:=u;refine⟨λC=>?_,λC=>?_⟩;have t:i<(l.length:Int):=ucx C;obtain⟨k,rfl⟩:∃ k:Nat,i=k:=⟨i.toNat,by omega⟩;have K:k<l.length:=by omega
 have M:l.getD (k:Int).toNat ar.j=l[k]:=by rw[show(k:Int).toNat=k by omega,uah,uaq K];rfl
 have P:I6.wrap ((k:Int)+1)=k+1:=IntWalk.i64_in _ (by omega);have N:l.drop (k:Int).toNat=l[k]::l.drop (k+1):=by exact ual K
 have O:((k:Int)+1).toNat=k+1:=by omega
 rw[N]at a;refine⟨⟨by omega,t⟩,?_⟩;rw[M];unfold UA;rw[P];generalize l[k]=c at *;have o:((l.length:Int)-((k:Int)+1)).toNat<((l.length:Int)-k).toNat:=by omega
 refine⟨λw=>?_,λw=>?_⟩;have d:=ufn.1 w;have e:iR v r (c::l.drop (k+1)) q b=(0,Y,(fa v r c).2):=ufx d;rw[e]at a;exact a.1 w;have d:(fa v r c).2=0:=by have:((fa v r c).2 != 0)=false:=w;simpa using this
 have L:=zh2 d;have e:iR v r (c::l.drop (k+1)) q b=(if b=Z then (if (fa v r c).1>4000000000000000000-q then iR v r (l.drop (k+1)) q Y else iR v r (l.drop (k+1)) (q+(fa v r c).1) Z)else iR v r (l.drop (k+1)) q Y):=ufw d;rw[e]at a;have D:I6.wrap (4000000000000000000-q)=4000000000000000000-q:=IntWalk.i64_in _ (by omega);refine⟨λA=>?_,λA=>?_⟩;rw[ufw A]at a;rw[D];refine⟨λB=>?_,λB=>?_⟩;have m:(fa v r c).1>4000000000000000000-q:=ucx B;rw[ufw m]at a;have h:qC l l.length ((k:Int)+1) 0 Y q:=⟨by omega,by omega,rfl,x,F,G,rfl⟩;refine⟨h,o,h,?_⟩;exact a;have m:¬ (fa v r c).1>4000000000000000000-q:=uch B;rw[ufx m]at a;have E:I6.wrap (q+(qW.f (v,r,c,())).1)=q+(fa v r c).1:=IntWalk.i64_in (q+(fa v r c).1) (by omega);rw[E];have h:qC l l.length ((k:Int)+1) (q+(fa v r c).1) Z (q+(fa v r c).1):=⟨by omega,by omega,rfl,x,by omega,by omega,rfl⟩;refine⟨h,o,h,?_⟩;exact a;subst A;have h:qC l l.length ((k:Int)+1) s Y q:=⟨by omega,by omega,rfl,x,F,G,H⟩;refine⟨h,o,h,?_⟩;exact a;have t:¬ i<(l.length:Int):=uch C;have e:l.drop i.toNat=[]:=ua2 (by omega);rw[e]at a;subst H;exact a.2 rfl
def zdy:af prog (.loop (au f77 0)) MY vd FY:=by refine af.loop zmx (μ:=λx=>(x.1.2.1-x.1.2.2.1).toNat) ?_ (λx Q h=>h.1);rintro⟨⟨l,n,i,s,b,_⟩,v,r,q,_⟩ a Q c;exact zcg v r l n i s b q a Q c.2
def zS(v:aU.q)(r:eV.q)(l:List ar.q):Int×Int:=
 if (iR v r l 0 Z).2.2=0 then (if (iR v r l 0 Z).2.1=Z then ((iR v r l 0 Z).1,0)else (0,5))else (0,(iR v r l 0 Z).2.2)
def AF:Ct:=⟨[.d aU,.d eV,.d (.sl ar)],[i64,i64],λx=>((zS x.1 x.2.1 x.2.2.1).1,(zS x.1 x.2.1 x.2.2.1).2,()),λ_=>[]⟩
def qxh(x:ap [.d aU,.d eV,.d (.sl ar)]):Fr (aa [i64,i64]):=
 let a:=iR x.1 x.2.1 x.2.2.1 0 Z;Jd (qC x.2.2.1 x.2.2.1.length 0 0 Z 0)
  (Jb (a.2.2 != 0) (Jv (0,a.2.2,()))
   (Jb (!a.2.1) (Jv (0,5,())) (Jv (a.1,0,()))))
def zr7:ag prog 77 (bg [.d aU,.d eV,.d (.sl ar)] [i64,i64] qxh):=
 cZ Rb zdy
def zr6:ag prog 77 AF:=
 dz zr7 _ _ (λw F x p g _=>by
  obtain⟨v,r,l,_⟩:=x;obtain⟨m,h,rfl,_,n,i,rfl,_,o,k,rfl,d,_⟩:=g;have a:=pg d;have f:qC l l.length 0 0 Z 0:=⟨by omega,by omega,rfl,a,by decide,by decide,rfl⟩;refine aw f ?_;unfold zS;generalize iR v r l 0 Z=y;obtain⟨s,b,e⟩:=y;by_cases c:e=0;subst c;refine aN rfl ?_;cases b with
  |true=>exact aN rfl ⟨uT,rfl⟩
  |false=>exact aV rfl ⟨uT,rfl⟩
  rw[ufx c];exact aV (ufn.2 c) ⟨uT,rfl⟩)
def Qn:Cx:=cx [(135,E7)] []
def qen:CxOK prog Qn:=aQ (ps:=[]) aH ⟨Wz,uT⟩ trivial
def Jl:FuncId->Option (Func×(Nat->St->Option Tr)):=cR [(134,(f134,bK)),(137,(f137,bK))]
def qj9:∀ f fn d,Jl f=U (fn,d)->prog.funcs[f]?= U fn/\∀ c a,fn.body=U c->co prog a d c 0:=λf fn d h=>by simp only[Jl,cR]at h;split at h;rename_i b;subst b;cases h;exact⟨by kernel_rfl,λc a _=>bm c 0⟩;split at h;rename_i b;subst b;cases h;exact⟨by kernel_rfl,λc a _=>bm c 0⟩;cases h
def IC:Cx:=dI [(136,Km)] [] (iJ prog Qn Jl)
def ID:CxOK prog IC:=dP (ps:=[]) aH ⟨Ox,uT⟩ trivial (jt qen qj9)
abbrev Yi:List MI:=[.x 280001 80 aD,.r 1 280001 0,.x 280003 60 cK,.r 3 280003 0,.x 280004 170 aF,.r 4 280004 0,.y 280005 131 [(U 170,aF)],.r 5 280005 0,.g 6 134 [280004,280005],.x 6 190 aU,.r 10006 6 0]
def MC:LS:=⟨[(26,.d aP),(27,.d i64),(28,.d i64)],Yi⟩
def EC:LS:=⟨[],Yi⟩
def yC:Pt:=⟨52,0,MC,EC,⟨[],[]⟩⟩
def ju(a:List aF.q):Int:=I6.wrap ((a.length:Int)-1)
def m8(s:aF.q)(b:Int):aF.q:=((s.1.1,b,()),s.2)
def Lq(s:aF.q)(a:List aF.q)(b:Int)(K:List aF.q->Fr α):Fr α:=
 Jb (s.1.1==b) (K a)
  (Jd (J (ju a>=0)=Z->0<=ju a/\ju a<(a.length:Int))
   (Jd (J (ju a>=0)=Z->(ju a).toNat<a.length)
    (Jb (bif J (ju a>=0)then (E7.f (a.getD (ju a).toNat aF.j,m8 s b,())).1 else Y)
     (Jd (0<=ju a/\ju a<(a.length:Int)) (Jd ((ju a).toNat<a.length) (K (a.set (ju a).toNat (m8 (a.getD (ju a).toNat aF.j) b)))))
     (Jd (a.length + [m8 s b].length<=maxLen/\(a.length + [m8 s b].length)*88<=140737488355328) (K (a++[m8 s b]))))))
def TV(s:aF.q)(c:ay.q)(K:aF.q->Fr α):Fr α:=
 Jb (c.2.2.1==1) (K (s.1,s.2.1,c.2.2.2.1,s.2.2.2.1,s.2.2.2.2.1,()))
  (Jb (c.2.2.1==2) (Jd (([]:List ar.q).length+c.2.2.2.2.1.length<=maxLen/\(([]:List ar.q).length+c.2.2.2.2.1.length)*40<=140737488355328) (K (s.1,s.2.1,s.2.2.1,[]++c.2.2.2.2.1,s.2.2.2.2.1,())))
   (Jb (c.2.2.1==3) (K (s.1,Y,s.2.2.1,s.2.2.2.1,s.2.2.2.2.1,()))
    (Jb (c.2.2.1==4) (K (s.1,Z,s.2.2.1,s.2.2.2.1,s.2.2.2.2.1,())) (K s))))
def Mv(x:MC.X):Fr yC.Out:=
 let l:List Int:=x.1.1;let n:Int:=x.1.2.1;let i:Int:=x.1.2.2.1;let h:aD.q:=x.2.1;let c:cK.q:=x.2.2.1;let s:aF.q:=x.2.2.2.1;let a:List aF.q:=x.2.2.2.2.1.1;let v:aU.q:=x.2.2.2.2.2.1
 let j:Int:=l.getD i.toNat i64.j
 Jb (J (i<n))
  (Jd (0<=i/\i<(l.length:Int))
   (Jd (0<=j/\j<((aO h).length:Int))
    (Lq s a (cw h j).2.1 λb=>
     Jd (0<=j/\j<((aO h).length:Int))
      (TV (((cw h j).2.1,s.1.2.1,()),s.2) (cw h j) λd=>Jv (Rd.next ((l,n,I6.wrap (i+1),()),(h,c,d,(b,()),v,())))))))
  (Jv (Rd.out ((),(h,c,s,(a,()),v,()))))
def zml:af prog (au f76 0) MC yC Mv:=af.of_run ID (bs:=280000) rfl rfl rfl (λ_=>bm _ 0) (λx=>by kernel_rfl)
def Z7(s:aF.q):(a:List aF.q)->0<a.length->kU a s=if pX (a.getD (a.length-1) aF.j) s=Z then a.set (a.length-1) (m8 (a.getD (a.length-1) aF.j) s.1.2.1)else a++[s]
 |[],h=>absurd h (by decide)
 |[x],_=>rfl
 |x::y::r,_=>by
  have d:=Z7 s (y::r) (by simp);have b:(x::y::r).length-1=((y::r).length-1)+1:=by simp
  have c:(x::y::r).getD ((x::y::r).length-1) aF.j=(y::r).getD ((y::r).length-1) aF.j:=by rfl
  show x::kU (y::r) s=_;rw[d,c,b];split;rfl;rfl
def Z8(s:aF.q):(a:List aF.q)->(kU a s).length<=a.length+1
 |[]=>by simp[kU]
 |[x]=>by unfold kU;split<;>simp
 |x::y::r=>by have:=Z8 s (y::r);simp only[kU,uc9]at this |-;omega
def Lo(s:aF.q)(out:List aF.q)(a:Int):(kC s out a).length<=out.length+1:=by unfold kC;split;omega;exact Z8 _ _
def zbn{a:List aF.q}(h:a.length<=1000000):ju a=(a.length:Int)-1:=IntWalk.i64_in _ (by omega)
def Ul{s:aF.q}{out:List aF.q}{K:List aF.q->Fr α}{Q:α->Prop}(m:out.length<=1000000)(h:(K (kC s out day)).s7 Q):(Lq s out day K).s7 Q:=by
 unfold kC at h;have o:=zbn m;have k:out.length+1<=maxLen/\(out.length+1)*88<=140737488355328:=⟨by unfold maxLen;omega,by omega⟩;refine⟨λg=>?_,λg=>?_⟩;have a:=ufr g;rw[ufw a]at h;exact h;have a:=ud5 g;rw[ufx a]at h;refine⟨λi=>?_,λi=>?_,?_⟩;have:=ucx i;omega;have:=ucx i;omega;by_cases l:0<out.length;have c:J (ju out>=0)=true:=ueb (by omega);have n:(ju out).toNat=out.length-1:=by omega
 have f:=Z7 (m8 s day) out l;rw[c,n];refine⟨λd=>?_,λd=>?_⟩;have b:pX (out.getD (out.length-1) aF.j) (m8 s day)=true:=d;rw[ufw b]at f;refine⟨⟨by omega,by omega⟩,by omega,?_⟩;have e:kU out ((s.1.1,day,()),s.2)=out.set (out.length-1) (m8 (out.getD (out.length-1) aF.j) day):=f;rw[e]at h;exact h;have b:¬ pX (out.getD (out.length-1) aF.j) (m8 s day)=true:=by intro p;have:pX (out.getD (out.length-1) aF.j) (m8 s day)=false:=d;rw[p]at this;cases this
 rw[ufx b]at f;have e:kU out ((s.1.1,day,()),s.2)=out++[m8 s day]:=f;rw[e]at h;exact⟨k,h⟩;have iy:out=[]:=uaz.1 (by omega);subst iy;have c:J (ju []>=0)=false:=udw (by rw[o];decide);exact⟨λd=>(by cases d),λ_=>⟨k,h⟩⟩
def qrc{s:aF.q}{c:ay.q}{K:aF.q->Fr α}{Q:α->Prop}(m:c.2.2.2.2.1.length<=1000000)(h:(K (nZ s c)).s7 Q):(TV s c K).s7 Q:=by
 unfold nZ at h;have l:([]:List ar.q).length+c.2.2.2.2.1.length<=maxLen/\(([]:List ar.q).length+c.2.2.2.2.1.length)*40<=140737488355328:=by simp;exact⟨by unfold maxLen;omega,by omega⟩
 refine⟨λk=>?_,λk=>⟨λf=>?_,λf=>⟨λg=>?_,λg=>⟨λi=>?_,λi=>?_⟩⟩⟩⟩;have d:=ufr k;rw[ufw d]at h;exact h;have d:=ud5 k;have a:=ufr f;rw[ufx d,ufw a]at h;exact⟨l,h⟩;have d:=ud5 k;have a:=ud5 f;have b:=ufr g;rw[ufx d,ufx a,ufw b]at h;exact h;have d:=ud5 k;have a:=ud5 f;have b:=ud5 g;have e:=ufr i;rw[ufx d,ufx a,ufx b,ufw e]at h;exact h;have d:=ud5 k;have a:=ud5 f;have b:=ud5 g;have e:=ud5 i;rw[ufx d,ufx a,ufx b,ufx e]at h;exact h
structure InvC5 (l:List Int) (n i:Int) (h:aD.q) (out:List aF.q):Prop where
 i0:0<=i
 il:i<=n
 nl:n=l.length
 few:l.length<=500000
 inl:∀ x∈l,0<=x/\x<((aO h).length:Int)
 cov:∀ c∈aO h,c.2.2.2.2.1.length<=1000000
 outs:(out.length:Int)<=i
def Jh(x:MC.X):Fr yC.Out:=
 let l:List Int:=x.1.1;let n:Int:=x.1.2.1;let i:Int:=x.1.2.2.1;let h:aD.q:=x.2.1;let b:cK.q:=x.2.2.1;let s:aF.q:=x.2.2.2.1;let a:List aF.q:=x.2.2.2.2.1.1;let v:aU.q:=x.2.2.2.2.2.1
 Jd (InvC5 l n i h a) (Jv (Rd.out ((),(h,b,(mc ((l.drop i.toNat).map (cw h)) s a).1,((mc ((l.drop i.toNat).map (cw h)) s a).2,()),v,()))))
def zbv (l:List Int) (n i:Int) (h:aD.q) (A:cK.q) (s:aF.q) (a:List aF.q) (v:aU.q) (e:InvC5 l n i h a) (Q:yC.Out->Prop)
  (g:Q (Rd.out ((),(h,A,(mc ((l.drop i.toNat).map (cw h)) s a).1,((mc ((l.drop i.toNat).map (cw h)) s a).2,()),v,())))) :
  (Mv ((l,n,i,()),(h,A,s,(a,()),v,()))).s7 λ
   |.next c=>InvC5 c.1.1 c.1.2.1 c.1.2.2.1 c.2.1 c.2.2.2.2.1.1/\((c.1.2.1:Int)-c.1.2.2.1).toNat<(n-i).toNat/\(Jh c).s7 Q
   |.out y=>Q (.out y)
   |.back z=>Q (.back z)
   |.pan p=>Q (.pan p):=by
 obtain⟨D,E,rfl,B,r,t,F⟩:=e;obtain⟨b,rfl⟩:∃ n:Nat,i=n:=⟨i.toNat,by omega⟩;simp only[uc0]at g;dsimp only[Mv,Ty.q,PT.q];refine⟨λm=>?_,λm=>?_⟩;have f:b<l.length:=by have:(b:Int)<(l.length:Int):=ucx m;omega
 have w:I6.wrap ((b:Int)+1)=(b+1:Nat):=D0 (by omega);rw[w];have x:=r _ (eT (d:=(0:Int)) f);rw[qrf f,uel]at g;have k:cw h (l.getD b 0)∈aO h:=by exact eT (by omega)
 have G:=Lo s a (cw h (l.getD b 0)).2.1;have u:InvC5 l (l.length:Int) ((b+1:Nat):Int) h (kC s a (cw h (l.getD b 0)).2.1):=⟨by omega,by omega,rfl,B,r,t,by omega⟩;have o:((l.length:Int)-((b+1:Nat):Int)).toNat<((l.length:Int)-(b:Int)).toNat:=by omega
 refine⟨⟨by omega,by omega⟩,x,Ul (by omega) ⟨x,qrc (t _ k) ⟨u,o,u,g⟩⟩⟩;have C:¬ b<l.length:=by have:¬ (b:Int)<(l.length:Int):=uch m;omega
 rw[ua2 (by omega)]at g;exact g
def zc4:af prog (.loop (au f76 0)) MC yC Jh:=by refine af.loop zml (μ:=λx=>((x.1.2.1:Int)-x.1.2.2.1).toNat) ?_ (λx Q h=>h.1);rintro⟨⟨l,n,i,_⟩,h,d,s,⟨b,_⟩,v,_⟩ a Q c;exact zbv l n i h d s b v a Q c.2
def Jn:FuncId->Option (Func×(Nat->St->Option Tr)):=cR [(76,(f76,λ_=>yC.han IC.Γ MC Jh))]
def qkb:∀ f fn a,Jn f=U (fn,a)->prog.funcs[f]?= U fn/\∀ c d,fn.body=U c->co prog d a c 0:=λf fn a h=>by simp only[Jn,cR]at h;split at h;rename_i g;subst g;cases h;exact⟨by kernel_rfl,λc d e=>fH e (by kernel_rfl) (b:=au f76 0) (by kernel_rfl) (af.han ID rfl zc4)⟩;cases h
def COf:Cx:=dI [(74,Ke),(75,Ks),(77,AF)] [] (iJ prog IC Jn)
def Q3:CxOK prog COf:=dP (ps:=[]) aH ⟨zl9,zp2,zr6,uT⟩ trivial (jt ID qkb)
def MO:LS:=⟨[(29,.d i64),(30,.d i64)],[.o 8 170 aF,.al 28 8,.x 6 190 aU,.r 6 6 0]⟩
def EO:LS:=⟨[],[.o 8 170 aF]⟩
def yH:Pt:=⟨56,0,MO,EO,⟨[(4,.d eK),(5,.d i64)],[]⟩⟩
def jB(v:aU.q)(s:aF.q):Int×Int:=zS v s.2.2.1 s.2.2.2.1
def nw(s:aF.q)(y:Int):aF.q:=(s.1,s.2.1,s.2.2.1,s.2.2.2.1,y,())
def fO(x:MO.X):Fr yH.Out:=
 let n:Int:=x.1.1;let i:Int:=x.1.2.1;let l:List aF.q:=x.2.1;let v:aU.q:=x.2.2.1
 let s:aF.q:=l.getD i.toNat aF.j
 Jb (J (i<n))
  (Jd (0<=i/\i<(l.length:Int)) (Jd (i.toNat<l.length)
   (Jb (!s.2.1) (Jv (Rd.next ((n,I6.wrap (i+1),()),(l,v,()))))
    (Jd (0<=i/\i<(l.length:Int)) (Jd (i.toNat<l.length)
     (Jb ((AF.f (v,s.2.2.1,s.2.2.2.1,())).2.1 != 0) (Jv (Rd.back (([],(AF.f (v,s.2.2.1,s.2.2.2.1,())).2.1,()),())))
      (Jv (Rd.next ((n,I6.wrap (i+1),()),(l.set i.toNat (nw s (AF.f (v,s.2.2.1,s.2.2.2.1,())).1),v,()))))))))))
  (Jv (Rd.out ((),(l,()))))
def zms:af prog (au f37 0) MO yH fO:=af.of_run Q3 (bs:=0) rfl rfl rfl (λ_=>bm _ 0) (λx=>by kernel_rfl)
def fW(v:aU.q)(s:aF.q):aF.q:=if s.2.1=Z then nw s (jB v s).1 else s
def dJ(v:aU.q):List aF.q->Int
 |[]=>0
 |s::l=>if s.2.1=Z then (if (jB v s).2=0 then dJ v l else (jB v s).2)else dJ v l
structure InvO (n i:Int) (l:List aF.q):Prop where
 i0:0<=i
 il:i<=n
 nl:n=l.length
 few:l.length<=1000000
def cC(l:List aF.q)(e:Int):Fr yH.Out:=Jb (e != 0) (Jv (Rd.back (([],e,()),()))) (Jv (Rd.out ((),(l,()))))
def FO(x:MO.X):Fr yH.Out:=
 let n:Int:=x.1.1;let i:Int:=x.1.2.1;let l:List aF.q:=x.2.1;let v:aU.q:=x.2.2.1
 Jd (InvO n i l) (cC (l.take i.toNat++(l.drop i.toNat).map (fW v)) (dJ v (l.drop i.toNat)))
def zb3(n i:Int)(l:List aF.q)(v:aU.q)(t:InvO n i l)(Q:yH.Out->Prop)(e:(cC (l.take i.toNat++(l.drop i.toNat).map (fW v)) (dJ v (l.drop i.toNat))).s7 Q):
  (fO ((n,i,()),(l,v,()))).s7 λ
   |.next m=>InvO m.1.1 m.1.2.1 m.2.1/\((m.1.1:Int)-m.1.2.1).toNat<(n-i).toNat/\(FO m).s7 Q
   |.out y=>Q (.out y)
   |.back z=>Q (.back z)
   |.pan p=>Q (.pan p):=by
 obtain⟨O,P,rfl,F⟩:=t;obtain⟨a,rfl⟩:∃ n:Nat,i=n:=⟨i.toNat,by omega⟩;simp only[uc0]at e;dsimp only[fO,Ty.q,PT.q];simp only[uc0];refine⟨λD=>?_,λD=>?_⟩
 ·have c:a<l.length:=by have:(a:Int)<(l.length:Int):=ucx D;omega
  have w:I6.wrap ((a:Int)+1)=(a+1:Nat):=D0 (by omega);rw[w];have H:l.getD a aF.j=l[a]:=by rw[uah,uaq c];rfl
  have M:l.drop a=l.getD a aF.j::l.drop (a+1):=by rw[H];exact ual c
  have A:((l.length:Int)-((a+1:Nat):Int)).toNat<((l.length:Int)-(a:Int)).toNat:=by omega
  have G:0<=(a:Int)/\(a:Int)<(l.length:Int):=⟨by omega,by omega⟩;rw[M]at e;generalize R:l.getD a aF.j=s at *;have E:l.take (a+1)=l.take a++[s]:=by rw[H];exact(uat c).symm
  refine⟨G,c,λh=>?_,λf=>⟨G,c,λB=>?_,λB=>?_⟩⟩;have d:¬ s.2.1=true:=by intro x;rw[x]at h;cases h
  have r:InvO (l.length:Int) ((a+1:Nat):Int) l:=⟨by omega,by omega,rfl,F⟩;refine⟨r,A,r,?_⟩;have o:dJ v (s::l.drop (a+1))=dJ v (l.drop (a+1)):=ufx d;have C:fW v s=s:=ufx d;rw[o,uel,C]at e;show(cC (l.take (a+1)++(l.drop (a+1)).map (fW v)) (dJ v (l.drop (a+1)))).s7 Q;rw[E,ucr];exact e;have b:s.2.1=true:=by
   cases x:s.2.1 with
   |true=>rfl
   |false=>rw[x]at f;cases f
  have k:¬ (jB v s).2=0:=ufn.1 B;have o:dJ v (s::l.drop (a+1))=(jB v s).2:=by unfold dJ;rw[ufw b,ufx k]
  rw[o]at e;exact e.1 B
  ·have b:s.2.1=true:=by
    cases x:s.2.1 with
    |true=>rfl
    |false=>rw[x]at f;cases f
   have k:(jB v s).2=0:=by have:((jB v s).2 != 0)=false:=B;simpa using this
   have g:(l.set a (nw s (jB v s).1)).length=l.length:=udp;have r:InvO (l.length:Int) ((a+1:Nat):Int) (l.set a (nw s (jB v s).1)):=⟨by omega,by omega,by rw[g],by rw[g];exact F⟩;refine⟨r,A,r,?_⟩;have o:dJ v (s::l.drop (a+1))=dJ v (l.drop (a+1)):=by
    conv=>lhs;unfold dJ
    rw[ufw b,ufw k]
   have C:fW v s=nw s (jB v s).1:=ufw b;rw[o,uel,C]at e;show(cC ((l.set a (nw s (jB v s).1)).take (a+1)++((l.set a (nw s (jB v s).1)).drop (a+1)).map (fW v)) (dJ v ((l.set a (nw s (jB v s).1)).drop (a+1)))).s7 Q;have K:(l.set a (nw s (jB v s).1)).drop (a+1)=l.drop (a+1):=List.drop_set_of_lt (by omega);have L:(l.set a (nw s (jB v s).1)).take (a+1)=l.take a++[nw s (jB v s).1]:=by rw[List.take_add_one,List.take_set_of_le (by omega)];simp[c]
   rw[K,L,ucr];exact e
 have N:¬ a<l.length:=by have:¬ (a:Int)<(l.length:Int):=uch D;omega
 rw[ua2 (by omega),ua3 (by omega)]at e;have u:=e.2 rfl;simp at u;exact u
def zdd:af prog (.loop (au f37 0)) MO yH FO:=by refine af.loop zms (μ:=λx=>((x.1.1:Int)-x.1.2.1).toNat) ?_ (λx Q h=>h.1);rintro⟨⟨n,i,_⟩,l,v,_⟩ a Q b;exact zb3 n i l v a Q b.2
def MA(v:aU.q)(l:List aF.q):Fr (aa [eK,i64]):=
 let a:=l.drop (0:Int).toNat;Jd (InvO l.length 0 l) (Jb (dJ v a != 0) (Jv ([],dJ v a,())) (Jv (l.take (0:Int).toNat++a.map (fW v),0,())))
def pU(h:aD.q):aF.q×List aF.q:=mc (((bV h).drop (0:Int).toNat).map (cw h)) ((h.2.2.1.1.1,0,()),Z,h.2.2.1.2.1,[]++h.2.2.1.2.2.1,0,()) []
def qxa(x:ap [.d aD,.d bh]):Fr (aa [eK,i64]):=
 let c:=x.1.2.2.1;let b:=([]:List ar.q);let a:=Ks.f (x.2.1,c.1.1,());Jb (!(Ke.f (x.1,())).1) (Jv ([],1,()))
  (Jd (bf x.2.1)
   (Jb (a.2.1 != 0) (Jv ([],a.2.1,()))
    (Jd (b.length+c.2.2.1.length<=maxLen/\(b.length+c.2.2.1.length)*40<=140737488355328)
     (Jd (((aO x.1).length:Int)<=1000000)
      (Jd (InvC5 (bV x.1) ((bV x.1).length:Int) 0 x.1 [])
       (Lq (pU x.1).1 (pU x.1).2 c.1.2.1 (MA a.1)))))))
def of_run:ag prog 37 (bg [.d aD,.d bh] [eK,i64] qxa):=
 cZ Q3 zdd
def cj(h:aD.q):Prop:=(aO h).length<=500000/\h.2.2.1.2.2.1.length<=1000000/\∀ c∈aO h,c.2.2.2.2.1.length<=1000000
def c9(h:aD.q)(t:bh.q):List aF.q×Int:=
 if lx h=Z then
  (if (cE h.2.2.1.1.1 t.1.reverse).2=0 then
   (if dJ (cE h.2.2.1.1.1 t.1.reverse).1 (ez h)=0 then ((ez h).map (fW (cE h.2.2.1.1.1 t.1.reverse).1),0)else ([],dJ (cE h.2.2.1.1.1 t.1.reverse).1 (ez h)))
  else ([],(cE h.2.2.1.1.1 t.1.reverse).2))
 else ([],1)
def iE:Ct:=⟨[.d aD,.d bh],[eK,i64],λx=>((c9 x.1 x.2.1).1,(c9 x.1 x.2.1).2,()),λx=>[cj x.1,bf x.2.1]⟩
def GQ(h:aD.q):(bV h).length=(aO h).length:=by unfold bV;rw[oS,OC]
def Cp{h:aD.q}(a:x∈bV h):0<=x/\x<((aO h).length:Int):=OD (zw.1 a)
def VD:(l:List ay.q)->(s:aF.q)->(a:List aF.q)->(mc l s a).2.length<=a.length+l.length
 |[],_,_=>ufb _
 |c::l,s,a=>by have b:=VD l (nZ ((c.2.1,s.1.2.1,()),s.2) c) (kC s a c.2.1);have d:=Lo s a c.2.1;simp only[mc,uc9];omega
def GP:ag prog 37 iE:=
 dz of_run _ _ (λw F x v u g=>by
  obtain⟨h,t,_⟩:=x;obtain⟨⟨k,r,l⟩,m⟩:cj h/\bf t:=g;unfold c9;cases i:lx h with
  |false=>refine aV ?_ ⟨uT,rfl⟩;show(!(lx h))=Z;rw[i];rfl
  |true=>
   refine aN ?_ (aw m ?_);show(!(lx h))=Y;rw[i];rfl;by_cases f:(cE h.2.2.1.1.1 t.1.reverse).2=0;rw[ufw f];refine aN ?_ (aw ?_ (aw ?_ (aw ?_ ?_)));show((cE h.2.2.1.1.1 t.1.reverse).2 != 0)=Y;rw[f];rfl;show([]:List ar.q).length+h.2.2.1.2.2.1.length<=maxLen/\(([]:List ar.q).length+h.2.2.1.2.2.1.length)*40<=140737488355328;simp;exact⟨by unfold maxLen;omega,by omega⟩;show((aO h).length:Int)<=1000000;omega;show InvC5 (bV h) ((bV h).length:Int) 0 h [];exact⟨ufc _,ub4 _,rfl,by rw[GQ];exact k,λx p=>Cp p,l,ufc _⟩;have n:(pU h).2.length<=500000:=by
    have:=VD (((bV h).drop (0:Int).toNat).map (cw h)) ((h.2.2.1.1.1,0,()),Z,h.2.2.1.2.1,[]++h.2.2.1.2.2.1,0,()) [];have e:(((bV h).drop (0:Int).toNat).map (cw h)).length=(aO h).length:=by rw[ud3];exact GQ h
    rw[e]at this;have s:(pU h).2.length<=0+(aO h).length:=this;omega
   have c:kC (pU h).1 (pU h).2 h.2.2.1.1.2.1=ez h:=rfl;have b:(ez h).length<=1000000:=by rw[<- c];have:=Lo (pU h).1 (pU h).2 h.2.2.1.1.2.1;omega
   have a:(MA (cE h.2.2.1.1.1 t.1.reverse).1 (ez h)).ok/\(MA (cE h.2.2.1.1.1 t.1.reverse).1 (ez h)).get=((if dJ (cE h.2.2.1.1.1 t.1.reverse).1 (ez h)=0 then ((ez h).map (fW (cE h.2.2.1.1.1 t.1.reverse).1),(0:Int))else ([],dJ (cE h.2.2.1.1.1 t.1.reverse).1 (ez h))).1,(if dJ (cE h.2.2.1.1.1 t.1.reverse).1 (ez h)=0 then ((ez h).map (fW (cE h.2.2.1.1.1 t.1.reverse).1),(0:Int))else ([],dJ (cE h.2.2.1.1.1 t.1.reverse).1 (ez h))).2,()):=by refine aw ⟨ufc _,ub4 _,rfl,b⟩ ?_;by_cases d:dJ (cE h.2.2.1.1.1 t.1.reverse).1 (ez h)=0;rw[ufw d];refine aN ?_ ⟨uT,rfl⟩;show(dJ (cE h.2.2.1.1.1 t.1.reverse).1 (ez h) != 0)=Y;rw[d];rfl;rw[ufx d];exact aV (ufn.2 d) ⟨uT,rfl⟩
   have o:=Ul (out:=(pU h).2) (Q:=λy=>y=((if dJ (cE h.2.2.1.1.1 t.1.reverse).1 (ez h)=0 then ((ez h).map (fW (cE h.2.2.1.1.1 t.1.reverse).1),(0:Int))else ([],dJ (cE h.2.2.1.1.1 t.1.reverse).1 (ez h))).1,(if dJ (cE h.2.2.1.1.1 t.1.reverse).1 (ez h)=0 then ((ez h).map (fW (cE h.2.2.1.1.1 t.1.reverse).1),(0:Int))else ([],dJ (cE h.2.2.1.1.1 t.1.reverse).1 (ez h))).2,())) (by omega) (by exact q9 a.1 a.2)
   exact dt o;rw[ufx f];refine aV ?_ ⟨uT,rfl⟩;exact ufn.2 f)
abbrev dx:Ty:=.pair i64 (.pair i64 (.pair i64 (.pair i64 (.pair i64 (.pair i64 .unit)))))
def A5:Ct:=⟨[.d i64],[.bool],λx=>(J (1<=x.1/\x.1<=1000000000),()),λ_=>[]⟩
def Ey:Ct:=⟨[.d i64],[.bool],λx=>(J (1<=x.1/\x.1<=292194),()),λ_=>[]⟩
def qde(n a b:Int):(bif J (n>=a)then J (n<=b)else Y)=J (a<=n/\n<=b):=by simp
def qzk:ag prog 93 A5:=
 flat (ps:=[.d i64]) (rs:=[.bool]) (aQ (cs:=[]) (ps:=[]) aH trivial trivial) (fn:=f93) (fr:=λx=>Jv (bif J (x.1>=1)then J (x.1<=1000000000)else Y,())) (0,()) (by kernel_rfl) (λx=>by kernel_rfl) _ _
  (λ_ _ x _ _ _=>⟨uT,ufv (qde x.1 1 1000000000) rfl⟩)
def qqb:ag prog 94 Ey:=
 flat (ps:=[.d i64]) (rs:=[.bool]) (aQ (cs:=[]) (ps:=[]) aH trivial trivial) (fn:=f94) (fr:=λx=>Jv (bif J (x.1>=1)then J (x.1<=292194)else Y,())) (0,()) (by kernel_rfl) (λx=>by kernel_rfl) _ _
  (λ_ _ x _ _ _=>⟨uT,ufv (qde x.1 1 292194) rfl⟩)
def Fd(i p k l b e:Int):Bool:=J (1<=i/\i<=1000000000)&&(J (1<=p/\p<=1000000000)&&(J (0<=e/\e<=1000000000)&&(J (0<=k/\k<=7)&&(J (1<=l/\l<=292194)&&J (1<=b/\b<=292194)))))
def JT:Ct:=⟨[.d dx],[.bool],λx=>(Fd x.1.1 x.1.2.1 x.1.2.2.1 x.1.2.2.2.1 x.1.2.2.2.2.1 x.1.2.2.2.2.2.1,()),λ_=>[]⟩
def CK1:Cx:=cx [(93,A5),(94,Ey)] []
def qff:CxOK prog CK1:=aQ aH ⟨qzk,qqb,uT⟩ trivial
def qw9(x:ap [.d dx]):Fr (aa [.bool]):=
 let c:dx.q:=x.1
 Jv (bif bif bif bif bif bif (A5.f (c.1,())).1 then (A5.f (c.2.1,())).1 else Y then (bif c.2.2.2.2.2.1==0 then Z else (A5.f (c.2.2.2.2.2.1,())).1)else Y then J (c.2.2.1>=0)else Y then J (c.2.2.1<=7)else Y then (Ey.f (c.2.2.2.1,())).1 else Y then (Ey.f (c.2.2.2.2.1,())).1 else Y,())
def zg0(i p k l b e:Int):(bif bif bif bif bif bif J (1<=i/\i<=1000000000)then J (1<=p/\p<=1000000000)else Y then (bif e==0 then Z else J (1<=e/\e<=1000000000))else Y then J (k>=0)else Y then J (k<=7)else Y then J (1<=l/\l<=292194)else Y then J (1<=b/\b<=292194)else Y)=Fd i p k l b e:=by
 have a:(bif e==0 then Z else J (1<=e/\e<=1000000000))=J (0<=e/\e<=1000000000):=by rw[udy];simp;omega
 have c:J (0<=k/\k<=7)=(J (k>=0)&&J (k<=7)):=by simp
 unfold Fd;rw[a,c];cases J (1<=i/\i<=1000000000)<;>cases J (1<=p/\p<=1000000000)<;>cases J (0<=e/\e<=1000000000)<;>cases J (k>=0)<;>cases J (k<=7)<;>cases J (1<=l/\l<=292194)<;>rfl
def zgq:ag prog 57 JT:=
 flat (ps:=[.d dx]) (rs:=[.bool]) qff (fn:=f57) (fr:=qw9) (dx.j,()) (by kernel_rfl) (λx=>by kernel_rfl) _ _
  (λ_ _ x _ _ _=>by obtain⟨⟨i,p,k,l,b,e,_⟩,_⟩:=x;exact⟨uT,ufv (zg0 i p k l b e) rfl⟩)
abbrev ba:Ty:=.pair i64 (.pair i64 (.pair i64 .unit))
abbrev ah:Ty:=.pair i64 (.pair i64 (.pair cK (.pair i64 (.pair i64 (.pair i64 (.pair i64 (.pair i64 .unit)))))))
abbrev ae:Ty:=.pair i64 (.pair i64 (.pair i64 (.pair i64 (.pair i64 (.pair dF (.pair ay (.pair dx (.pair ba (.pair ah .unit)))))))))
abbrev jourT:Ty:=.pair bh (.pair (.sl ae) .unit)
abbrev bn:Ty:=.pair aD (.pair i64 .unit)
abbrev aq:Ty:=.pair dx (.pair (.sl ba) .unit)
abbrev ak:Ty:=.pair bh (.pair (.sl bn) (.pair (.sl aq) (.pair (.sl ah) (.pair i64 .unit))))
def gl(g:α->Bool):List α->Int->Option Int
 |[],_=>V
 |x::r,i=>if g x=Z then U i else gl g r (i+1)
abbrev jP(T:Ty):PT:=.fn [T] [.bool]
def Am(T:Ty):LS:=⟨[(0,.d (.sl T)),(1,jP T),(7,.d i64),(8,.d i64)],[]⟩
def yF(T:Ty):Pt:=⟨19,0,Am T,⟨[],[]⟩,⟨[(4,.d i64)],[]⟩⟩
def U8(T:Ty)(x:(Am T).X):Fr (yF T).Out:=
 match x with
 |((l,g,n,i,_),_)=>Jb (J (i<n))
  (Jd (0<=i/\i<l.length)
   (Jb (g (l.getD i.toNat T.j,())).1 (Jv (Rd.back ((i,()),())))
    (Jv (Rd.next ((l,g,n,I6.wrap (i+1),()),())))))
  (Jv (Rd.out ((),())))
def wv(l:List α)(n i:Int):Prop:=0<=i/\i<=n/\n=l.length/\n<=9223372036854775807
def Ri(T:Ty)(x:(Am T).X):Fr (yF T).Out:=
 Jd (wv x.1.1 x.1.2.2.1 x.1.2.2.2.1) (Jb (gl (λn=>(x.1.2.1 (n,())).1) (x.1.1.drop x.1.2.2.2.1.toNat) x.1.2.2.2.1).isSome
   (Jv (.back (((gl (λn=>(x.1.2.1 (n,())).1) (x.1.1.drop x.1.2.2.2.1.toNat) x.1.2.2.2.1).getD (-1),()),()))) (Jv (.out ((),()))))
def zb1 (T:Ty) (l:List T.q) (g:aa [T]->aa [.bool]) (n i:Int) (c:wv l n i) (Q:(yF T).Out->Prop) (a:(Jb (gl (λn=>(g (n,())).1) (l.drop i.toNat) i).isSome (Jv (Rd.back (((gl (λn=>(g (n,())).1) (l.drop i.toNat) i).getD (-1),()),()))) (Jv (Rd.out ((),())))  : Fr (yF T).Out).s7 Q) :
  (U8 T ((l,g,n,i,()),())).s7 λ
   |.next b=>wv b.1.1 b.1.2.2.1 b.1.2.2.2.1/\(b.1.2.2.1-b.1.2.2.2.1).toNat<(n-i).toNat/\(Ri T b).s7 Q
   |.out y=>Q (.out y)
   |.back z=>Q (.back z)
   |.pan p=>Q (.pan p):=by
 obtain⟨x,A,t,u⟩:=c;subst t;refine⟨λh=>?_,λh=>?_⟩;have m:i<(l.length:Int):=ucx h;obtain⟨k,rfl⟩:∃ k:Nat,i=k:=⟨i.toNat,by omega⟩;have r:k<l.length:=by omega
 have s:l.getD (k:Int).toNat T.j=l[k]:=by rw[show(k:Int).toNat=k by omega,uah,uaq r];rfl
 have w:I6.wrap ((k:Int)+1)=k+1:=IntWalk.i64_in _ (by omega);have v:l.drop (k:Int).toNat=l[k]::l.drop (k+1):=by exact(ual r)
 rw[v]at a;dsimp only[Fr.s7];rw[s,w];refine⟨⟨by omega,by omega⟩,λd=>?_,λd=>?_⟩;have:gl (λn=>(g (n,())).1) (l[k]::l.drop (k+1)) k=U (k:Int):=ufw d;rw[this]at a;exact a.1 rfl;have f:¬ (g (l[k],())).1=true:=by rw[d];decide
 have:gl (λn=>(g (n,())).1) (l[k]::l.drop (k+1)) k=gl (λn=>(g (n,())).1) (l.drop (k+1)) (k+1):=ufx f;rw[this]at a;have o:wv l l.length ((k:Int)+1):=⟨by omega,by omega,rfl,u⟩;refine⟨o,by omega,o,?_⟩;exact a;have m:¬ i<(l.length:Int):=uch h;have e:l.drop i.toNat=[]:=ua2 (by omega);rw[e]at a;exact a.2 rfl
def yg{p:Program}{b:Code}(T:Ty)(c:af p b (Am T) (yF T) (U8 T)):af p (.loop b) (Am T) (yF T) (Ri T):=by refine af.loop c (μ:=λx=>(x.1.2.2.1-x.1.2.2.2.1).toNat) ?_ (λx Q h=>h.1);rintro⟨⟨l,g,n,i,_⟩,_⟩ a Q d;exact zb1 T l g n i a Q d.2
def gY(g:α->Bool)(l:List α):Int:=(gl g l 0).getD (-1)
def ge(T:Ty):Ct:=⟨[.d (.sl T),jP T],[i64],λx=>(gY (λn=>(x.2.1 (n,())).1) x.1,()),λ_=>[]⟩
def r8(T:Ty)(x:ap [.d (.sl T),jP T]):Fr (aa [i64]):=Jd (wv x.1 x.1.length 0) (Jb (gl (λn=>(x.2.1 (n,())).1) x.1 0).isSome (Jv ((gl (λn=>(x.2.1 (n,())).1) x.1 0).getD (-1),())) (Jv (-1,())))
def xT{p:Program}{T:Ty}(h:ag p f ⟨[.d (.sl T),jP T],[i64],λx=>(r8 T x).get,λx=>[(r8 T x).ok]⟩):ag p f (ge T):=
 conv h _ _ (λw F x o e _=>by
  obtain⟨l,g,_⟩:=x;obtain⟨v,m,rfl,i,_⟩:=e;have a:=pg i;have c:wv l l.length 0:=⟨by omega,by omega,rfl,a⟩;refine aw c ?_;cases b:gl (λn=>(g (n,())).1) l 0 with
  |some k=>exact aV rfl ⟨uT,by show(k,())=_;unfold gY;rw[b];rfl⟩
  |none=>exact aN rfl ⟨uT,by show((-1:Int),())=_;unfold gY;rw[b];rfl⟩)
def Vh(g:α->Bool):(l:List α)->(i:Int)->0<=i->J ((gl g l i).getD (-1)>=0)=l.any g
 |[],_,_=>rfl
 |x::r,i,h=>by unfold gl;simp;split;rename_i a;rw[a];simp[h];rename_i a;rw[Vh g r (i+1) (by omega)];simp[a]
def BR(g:α->Bool)(l:List α):J (0<=gY g l)=l.any g:=Vh g l 0 (by omega)
def Vf(g:α->Bool):(l:List α)->(i k:Int)->gl g l i=U k->i<=k/\k<i+l.length/\∃ x,l[(k-i).toNat]?= U x/\g x=Z
 |[],_,_,h=>nomatch h
 |x::r,i,k,h=>by unfold gl at h;split at h;rename_i c;cases h;exact⟨by omega,by simp;omega,x,by rw[show(i-i).toNat=0 by omega];rfl,c⟩;obtain⟨d,e,y,a,b⟩:=Vf g r (i+1) k h;refine⟨by omega,by simp;omega,y,?_,b⟩;rw[show(k-i).toNat=(k-(i+1)).toNat+1 by omega];exact a
def pY{g:α->Bool}{l:List α}(h:0<=gY g l):gY g l<l.length/\∃ x,l[(gY g l).toNat]?= U x/\g x=true:=by
 unfold gY at h |-;cases a:gl g l 0 with
 |none=>rw[a]at h;exact absurd h (by decide)
 |some k=>obtain⟨d,e,x,b,c⟩:=Vf g l 0 k a;rw[udd];exact⟨by omega,x,by simpa using b,c⟩
def Gp{g:α->Bool}{l:List α}(h:gY g l<0):∀ x∈l,g x=false:=by
 have a:=BR g l;rw[udw (by omega)]at a;intro x c;cases b:g x with
 |false=>rfl
 |true=>have:l.any g=true:=List.any_eq_true.mpr ⟨x,c,b⟩;rw[<- a]at this;exact absurd this (by decide)
def ir(T:Ty):Ct:=⟨[.d (.sl T),jP T],[.bool],λx=>(x.1.any (λn=>(x.2.1 (n,())).1),()),λ_=>[]⟩
def W7:ag prog 91 (ge bn):=
 xT (cZ (fn:=f91) aL (yg bn (af.of_run aL (bs:=0) rfl rfl rfl (λ_=>bm _ 0) (λx=>by kernel_rfl))) (ps:=[.d (.sl bn),jP bn]) (rs:=[i64]) (fr:=r8 bn))
def Nk:ag prog 246 (ge aq):=
 xT (cZ (fn:=f246) aL (yg aq (af.of_run aL (bs:=0) rfl rfl rfl (λ_=>bm _ 0) (λx=>by kernel_rfl))) (ps:=[.d (.sl aq),jP aq]) (rs:=[i64]) (fr:=r8 aq))
def W8:ag prog 175 (ge ah):=
 xT (cZ (fn:=f175) aL (yg ah (af.of_run aL (bs:=0) rfl rfl rfl (λ_=>bm _ 0) (λx=>by kernel_rfl))) (ps:=[.d (.sl ah),jP ah]) (rs:=[i64]) (fr:=r8 ah))
def qgy:Cx:=cx [(246,ge aq)] []
def qgz:CxOK prog qgy:=aQ aH ⟨Nk,uT⟩ trivial
def Sb:ag prog 221 (ir aq):=
 conv (aT qgz f221 (fr:=λx=>Jv (J (gY (λn=>(x.2.1 (n,())).1) x.1>=0),())) (ps:=[.d (.sl aq),jP aq]) (rs:=[.bool])) _ _
  (λ_ _ x _ _ _=>⟨uT,ufv (BR _ x.1) rfl⟩)
def qg4:Cx:=cx [(175,ge ah)] []
def qg5:CxOK prog qg4:=aQ aH ⟨W8,uT⟩ trivial
def Ju:ag prog 112 (ir ah):=
 conv (aT qg5 f112 (fr:=λx=>Jv (J (gY (λn=>(x.2.1 (n,())).1) x.1>=0),())) (ps:=[.d (.sl ah),jP ah]) (rs:=[.bool])) _ _
  (λ_ _ x _ _ _=>⟨uT,ufv (BR _ x.1) rfl⟩)
section
open Go.Shelf Go.Lib
def Gt:∃ i0 z,InsTy prog 28 82 3 i0 z 11 120:=
 have ⟨i0,a,b,c,d⟩:=ufo (show(prog.info? 82).map (λi=>(i.zero,i.size,i.bytes))=U (U (.agg #[.int .i64 0,.int .i64 0,.int .i64 0,.int .i64 0,.int .i64 0,.int .i64 0,.int .i64 0,.int .i64 0,.slice V 0 0,.slice V 0 0,.int .i64 0]),11,120) by kernel_rfl)
 ⟨i0,_,underlying28,underlying3,a,b,c,d,rfl,by decide⟩
def qzz:DT prog 283 82 11 120:=by
 intro w B n s v xs news hB hs hv h1 h63 hby;obtain⟨i0,z,T⟩:=Gt;obtain⟨vb,vc,v',w',rfl,hr',e3,e2,e4⟩:=T.fin hB hs hv h1 h63 hby;have hn:(n:Int)<=9223372036854775807:=by unfold maxLen at h63;omega
 go_enter func283,ntmps283
 rcases hs.2 with ⟨rfl,rfl⟩|⟨g,cap,cur,rfl,hbg,hg,hnc,hcm,hcs,htake⟩
 all_goals go_wp2_with (at_builtin;refine Lib.wpList_append_run _ rfl _ _ _ _ rfl _ _ rfl rfl _ _ (hr' _) ?_)
 all_goals (go_ret;exact⟨_,rfl,e3,e2,e4⟩)
def qz2:DV prog 283 82 11:=by
 intro w n i g b E m p xs D C B t c s d l a k u x O P r F;obtain⟨i0,z,T⟩:=Gt;have A:b<=9223372036854775807:=by unfold maxLen at s;omega
 obtain⟨R,Q,G,N,M,_,K⟩:=xS C (by omega);have H:¬ (b=i+1):=by omega
 have L:¬ (b=i):=by omega
 obtain⟨C1,C2,f,h,S,W⟩:=T.shift C B t c d a k u x r F (vc:=m);have v:∀ y o,(callFunc 285 #[.slice (U ⟨E,0,V⟩) 1 m,.slice (U ⟨g,(i+1)*11,V⟩) y o]).run prog w=.ok (.value (.bool Y)) w:=λy o=>by
  rw[run_callFunc_extern func285 (by kernel_rfl) (by kernel_rfl) (by kernel_rfl) (e:=Extern.SlicesOverlaps.overlaps #[28,28] #[4]) (by kernel_rfl),
   Lib.run_overlaps_apart w 28 4 82 T.us 11 (λw=>by kernel_rfl) ⟨E,0,V⟩ ⟨g,(i+1)*11,V⟩ 1 m y o k 82 82 l.size p.size (by simp[World.shape?,a]) (by simp[World.shape?,B]) (by omega) (by simp[World.frozen?,a]) (by simp[World.frozen?,a])]
  rfl
 go_enter func283,ntmps283
 go_wp2_with (simp only[v])
 go_region_law (refine zB rfl _ _ 28 28 rfl _ _ (by simp[Act.eval,Act.put]) (by simp[Act.eval,Act.put]) (f _ _ _) ?_)
 go_wp2_with (at_builtin;refine qy _ rfl _ _ 28 28 rfl _ _ rfl rfl (h _ _) ?_)
 go_ret
 exact⟨C2,rfl,rfl,S,W⟩
def qz0:DU prog 283 82 11 120:=by
 intro w n i g d vb E K xs D C Q p t b c F x u y l L e o;obtain⟨i0,z,T⟩:=Gt;have k:n<=9223372036854775806:=by unfold maxLen at e;omega
 obtain⟨hz2,W,N,S,R,O,_⟩:=xS C k;obtain⟨G,H,C1,C2,v,h,a,m,f,r,s,k2,k3⟩:=T.grow C Q p t b c x u y l L e o (vc:=E);have hz3:(d:Int)<(n:Int)+(1:Int):=by omega
 have M:¬ (G=i):=by omega
 have B:¬ (G=i+1):=by omega
 have P:¬ (d=i):=by omega
 have A:G<=9223372036854775807:=by unfold maxLen at f;omega
 go_enter func283,ntmps283
 go_wp2_with (first
  |(at_builtin;refine Lib.wpList_append_run _ rfl _ _ _ _ rfl _ _ rfl rfl _ _ (v _) ?_)
  |(at_builtin;refine qy _ rfl _ _ 28 28 rfl _ _ rfl rfl (h _ _) ?_)
  |(at_builtin;refine qy _ rfl _ _ 28 28 rfl _ _ rfl rfl (a _ _ _) ?_))
 go_region_law (refine zB rfl _ _ 28 28 rfl _ _ (by simp[Act.eval,Act.put]) (by simp[Act.eval,Act.put]) (a _ _ _) ?_)
 go_wp2
 go_ret
 exact⟨G,C2,rfl,r,s,m,f,k2,k3⟩
def qz1:InsOK prog 283 82 bn 120:=Nv (enters_of func283 (by kernel_rfl) rfl) qzz qz0 qz2
def qoo:CloneOK prog 284 82 bn 120:=by
 refine⟨enters_of func284 (by kernel_rfl) rfl,λw n c A t p o b g m d e=>?_⟩;obtain⟨u,z,T⟩:=Gt;have a:=T.nil w
 go_enter func284,ntmps284
 cases A with
 |none=>
  have l:=o rfl;subst l;have r:t=[]:=uab (by simpa using b);subst r
  go_wp2_with (simp only[a])
  go_ret
  exact⟨_,rfl,⟨rfl,rfl,rfl,ufb _,λ_ _ _=>rfl⟩,ucs _ _ _ _⟩
 |some h=>
  obtain⟨s,v,f,k,i⟩:=T.clone b (g h rfl) m d e (n:=n) (c:=c)
  go_wp2_with (first|(simp only[a];done)|simp only[a]|(at_builtin;refine Lib.wpList_append_run _ rfl _ _ _ _ rfl _ _ rfl rfl _ _ (f _) ?_))
  go_ret
  exact⟨s,rfl,k,i⟩
def Gu:∃ i0 z,InsTy prog 29 101 3 i0 z 7 72:=
 have ⟨i0,a,b,c,d⟩:=ufo (show(prog.info? 101).map (λi=>(i.zero,i.size,i.bytes))=U (U (.agg #[.int .i64 0,.int .i64 0,.int .i64 0,.int .i64 0,.int .i64 0,.int .i64 0,.slice V 0 0]),7,72) by kernel_rfl)
 ⟨i0,_,underlying29,underlying3,a,b,c,d,rfl,by decide⟩
def qz3:DT prog 299 101 7 72:=by
 intro w B n s v xs news hB hs hv h1 h63 hby;obtain⟨i0,z,T⟩:=Gu;obtain⟨vb,vc,v',w',rfl,hr',e3,e2,e4⟩:=T.fin hB hs hv h1 h63 hby;have hn:(n:Int)<=9223372036854775807:=by unfold maxLen at h63;omega
 go_enter func299,ntmps299
 rcases hs.2 with ⟨rfl,rfl⟩|⟨g,cap,cur,rfl,hbg,hg,hnc,hcm,hcs,htake⟩
 all_goals go_wp2_with (at_builtin;refine Lib.wpList_append_run _ rfl _ _ _ _ rfl _ _ rfl rfl _ _ (hr' _) ?_)
 all_goals (go_ret;exact⟨_,rfl,e3,e2,e4⟩)
def qz6:DV prog 299 101 7:=by
 intro w n i g b E m p xs D C B t c s d l a k u x O P r F;obtain⟨i0,z,T⟩:=Gu;have A:b<=9223372036854775807:=by unfold maxLen at s;omega
 obtain⟨R,Q,G,N,M,_,K⟩:=xS C (by omega);have H:¬ (b=i+1):=by omega
 have L:¬ (b=i):=by omega
 obtain⟨C1,C2,f,h,S,W⟩:=T.shift C B t c d a k u x r F (vc:=m);have v:∀ y o,(callFunc 301 #[.slice (U ⟨E,0,V⟩) 1 m,.slice (U ⟨g,(i+1)*7,V⟩) y o]).run prog w=.ok (.value (.bool Y)) w:=λy o=>by
  rw[run_callFunc_extern func301 (by kernel_rfl) (by kernel_rfl) (by kernel_rfl) (e:=Extern.SlicesOverlaps.overlaps #[29,29] #[4]) (by kernel_rfl),
   Lib.run_overlaps_apart w 29 4 101 T.us 7 (λw=>by kernel_rfl) ⟨E,0,V⟩ ⟨g,(i+1)*7,V⟩ 1 m y o k 101 101 l.size p.size (by simp[World.shape?,a]) (by simp[World.shape?,B]) (by omega) (by simp[World.frozen?,a]) (by simp[World.frozen?,a])]
  rfl
 go_enter func299,ntmps299
 go_wp2_with (simp only[v])
 go_region_law (refine zB rfl _ _ 29 29 rfl _ _ (by simp[Act.eval,Act.put]) (by simp[Act.eval,Act.put]) (f _ _ _) ?_)
 go_wp2_with (at_builtin;refine qy _ rfl _ _ 29 29 rfl _ _ rfl rfl (h _ _) ?_)
 go_ret
 exact⟨C2,rfl,rfl,S,W⟩
def qz4:DU prog 299 101 7 72:=by
 intro w n i g d vb E K xs D C Q p t b c F x u y l L e o;obtain⟨i0,z,T⟩:=Gu;have k:n<=9223372036854775806:=by unfold maxLen at e;omega
 obtain⟨hz2,W,N,S,R,O,_⟩:=xS C k;obtain⟨G,H,C1,C2,v,h,a,m,f,r,s,k2,k3⟩:=T.grow C Q p t b c x u y l L e o (vc:=E);have hz3:(d:Int)<(n:Int)+(1:Int):=by omega
 have M:¬ (G=i):=by omega
 have B:¬ (G=i+1):=by omega
 have P:¬ (d=i):=by omega
 have A:G<=9223372036854775807:=by unfold maxLen at f;omega
 go_enter func299,ntmps299
 go_wp2_with (first
  |(at_builtin;refine Lib.wpList_append_run _ rfl _ _ _ _ rfl _ _ rfl rfl _ _ (v _) ?_)
  |(at_builtin;refine qy _ rfl _ _ 29 29 rfl _ _ rfl rfl (h _ _) ?_)
  |(at_builtin;refine qy _ rfl _ _ 29 29 rfl _ _ rfl rfl (a _ _ _) ?_))
 go_region_law (refine zB rfl _ _ 29 29 rfl _ _ (by simp[Act.eval,Act.put]) (by simp[Act.eval,Act.put]) (a _ _ _) ?_)
 go_wp2
 go_ret
 exact⟨G,C2,rfl,r,s,m,f,k2,k3⟩
def qz5:InsOK prog 299 101 aq 72:=Nv (enters_of func299 (by kernel_rfl) rfl) qz3 qz4 qz6
def qoq:CloneOK prog 300 101 aq 72:=by
 refine⟨enters_of func300 (by kernel_rfl) rfl,λw n c A t p o b g m d e=>?_⟩;obtain⟨u,z,T⟩:=Gu;have a:=T.nil w
 go_enter func300,ntmps300
 cases A with
 |none=>
  have l:=o rfl;subst l;have r:t=[]:=uab (by simpa using b);subst r
  go_wp2_with (simp only[a])
  go_ret
  exact⟨_,rfl,⟨rfl,rfl,rfl,ufb _,λ_ _ _=>rfl⟩,ucs _ _ _ _⟩
 |some h=>
  obtain⟨s,v,f,k,i⟩:=T.clone b (g h rfl) m d e (n:=n) (c:=c)
  go_wp2_with (first|(simp only[a];done)|simp only[a]|(at_builtin;refine Lib.wpList_append_run _ rfl _ _ _ _ rfl _ _ rfl rfl _ _ (f _) ?_))
  go_ret
  exact⟨s,rfl,k,i⟩
def Gv:∃ i0 z,InsTy prog 30 73 3 i0 z 9 72:=
 have ⟨i0,a,b,c,d⟩:=ufo (show(prog.info? 73).map (λi=>(i.zero,i.size,i.bytes))=U (U (.agg #[.int .i64 0,.int .i64 0,.int .i64 0,.int .i64 0,.int .i64 0,.int .i64 0,.int .i64 0,.int .i64 0,.int .i64 0]),9,72) by kernel_rfl)
 ⟨i0,_,underlying30,underlying3,a,b,c,d,rfl,by decide⟩
def zaa:DT prog 315 73 9 72:=by
 intro w B n s v xs news hB hs hv h1 h63 hby;obtain⟨i0,z,T⟩:=Gv;obtain⟨vb,vc,v',w',rfl,hr',e3,e2,e4⟩:=T.fin hB hs hv h1 h63 hby;have hn:(n:Int)<=9223372036854775807:=by unfold maxLen at h63;omega
 go_enter func315,ntmps315
 rcases hs.2 with ⟨rfl,rfl⟩|⟨g,cap,cur,rfl,hbg,hg,hnc,hcm,hcs,htake⟩
 all_goals go_wp2_with (at_builtin;refine Lib.wpList_append_run _ rfl _ _ _ _ rfl _ _ rfl rfl _ _ (hr' _) ?_)
 all_goals (go_ret;exact⟨_,rfl,e3,e2,e4⟩)
def zad:DV prog 315 73 9:=by
 intro w n i g b E m p xs D C B t c s d l a k u x O P r F;obtain⟨i0,z,T⟩:=Gv;have A:b<=9223372036854775807:=by unfold maxLen at s;omega
 obtain⟨R,Q,G,N,M,_,K⟩:=xS C (by omega);have H:¬ (b=i+1):=by omega
 have L:¬ (b=i):=by omega
 obtain⟨C1,C2,f,h,S,W⟩:=T.shift C B t c d a k u x r F (vc:=m);have v:∀ y o,(callFunc 318 #[.slice (U ⟨E,0,V⟩) 1 m,.slice (U ⟨g,(i+1)*9,V⟩) y o]).run prog w=.ok (.value (.bool Y)) w:=λy o=>by
  rw[run_callFunc_extern func318 (by kernel_rfl) (by kernel_rfl) (by kernel_rfl) (e:=Extern.SlicesOverlaps.overlaps #[30,30] #[4]) (by kernel_rfl),
   Lib.run_overlaps_apart w 30 4 73 T.us 9 (λw=>by kernel_rfl) ⟨E,0,V⟩ ⟨g,(i+1)*9,V⟩ 1 m y o k 73 73 l.size p.size (by simp[World.shape?,a]) (by simp[World.shape?,B]) (by omega) (by simp[World.frozen?,a]) (by simp[World.frozen?,a])]
  rfl
 go_enter func315,ntmps315
 go_wp2_with (simp only[v])
 go_region_law (refine zB rfl _ _ 30 30 rfl _ _ (by simp[Act.eval,Act.put]) (by simp[Act.eval,Act.put]) (f _ _ _) ?_)
 go_wp2_with (at_builtin;refine qy _ rfl _ _ 30 30 rfl _ _ rfl rfl (h _ _) ?_)
 go_ret
 exact⟨C2,rfl,rfl,S,W⟩
def zab:DU prog 315 73 9 72:=by
 intro w n i g d vb E K xs D C Q p t b c F x u y l L e o;obtain⟨i0,z,T⟩:=Gv;have k:n<=9223372036854775806:=by unfold maxLen at e;omega
 obtain⟨hz2,W,N,S,R,O,_⟩:=xS C k;obtain⟨G,H,C1,C2,v,h,a,m,f,r,s,k2,k3⟩:=T.grow C Q p t b c x u y l L e o (vc:=E);have hz3:(d:Int)<(n:Int)+(1:Int):=by omega
 have M:¬ (G=i):=by omega
 have B:¬ (G=i+1):=by omega
 have P:¬ (d=i):=by omega
 have A:G<=9223372036854775807:=by unfold maxLen at f;omega
 go_enter func315,ntmps315
 go_wp2_with (first
  |(at_builtin;refine Lib.wpList_append_run _ rfl _ _ _ _ rfl _ _ rfl rfl _ _ (v _) ?_)
  |(at_builtin;refine qy _ rfl _ _ 30 30 rfl _ _ rfl rfl (h _ _) ?_)
  |(at_builtin;refine qy _ rfl _ _ 30 30 rfl _ _ rfl rfl (a _ _ _) ?_))
 go_region_law (refine zB rfl _ _ 30 30 rfl _ _ (by simp[Act.eval,Act.put]) (by simp[Act.eval,Act.put]) (a _ _ _) ?_)
 go_wp2
 go_ret
 exact⟨G,C2,rfl,r,s,m,f,k2,k3⟩
def zac:InsOK prog 315 73 ah 72:=Nv (enters_of func315 (by kernel_rfl) rfl) zaa zab zad
def qot:CloneOK prog 316 73 ah 72:=by
 refine⟨enters_of func316 (by kernel_rfl) rfl,λw n c A t p o b g m d e=>?_⟩;obtain⟨u,z,T⟩:=Gv;have a:=T.nil w
 go_enter func316,ntmps316
 cases A with
 |none=>
  have l:=o rfl;subst l;have r:t=[]:=uab (by simpa using b);subst r
  go_wp2_with (simp only[a])
  go_ret
  exact⟨_,rfl,⟨rfl,rfl,rfl,ufb _,λ_ _ _=>rfl⟩,ucs _ _ _ _⟩
 |some h=>
  obtain⟨s,v,f,k,i⟩:=T.clone b (g h rfl) m d e (n:=n) (c:=c)
  go_wp2_with (first|(simp only[a];done)|simp only[a]|(at_builtin;refine Lib.wpList_append_run _ rfl _ _ _ _ rfl _ _ rfl rfl _ _ (f _) ?_))
  go_ret
  exact⟨s,rfl,k,i⟩
end
def gr(g:α->Int)(l:List α)(x:α):Int:=gY (λy=>J (g y>g x)) l
def gt(g:α->Int)(l:List α)(x:α):List α:=je (if gr g l x<0 then (l.length:Int)else gr g l x) l [x]
abbrev w6(T:Ty):List PT:=[.d (.sl T),.d T,.fn [T] [i64]]
def Bv(T:Ty)(n:Nat)(x:ap (w6 T)):Fr (aa [.sl T]):=
 let b:=x.2.2.1;let a:=(x.1.length:Int);Jd (∀ y:aa [T],gN [T] y->az ([]:List Prop)) (Jb (J (gr (λy=>(b (y,())).1) x.1 x.2.1<0))
  (Jd (x.1.length<=maxLen) (Jd (x.1.length*n<=140737488355328) (Jd (0<=a/\a<=x.1.length) (Jd ([x.2.1].length=1) (Jd (x.1.length+1<=maxLen/\(x.1.length+1)*n<=140737488355328)
   (Jv (je a x.1 [x.2.1],())))))))
  (Jd (x.1.length<=maxLen) (Jd (x.1.length*n<=140737488355328) (Jd (0<=gr (λy=>(b (y,())).1) x.1 x.2.1/\gr (λy=>(b (y,())).1) x.1 x.2.1<=x.1.length) (Jd ([x.2.1].length=1) (Jd (x.1.length+1<=maxLen/\(x.1.length+1)*n<=140737488355328)
   (Jv (je (gr (λy=>(b (y,())).1) x.1 x.2.1) x.1 [x.2.1],()))))))))
def wP(T:Ty):Ct:=⟨w6 T,[.sl T],λx=>(gt (λy=>(x.2.2.1 (y,())).1) x.1 x.2.1,()),λx=>[x.1.length<=100000]⟩
def O5(T:Ty)(e:n<=1000)(x:ap (w6 T))(f:x.1.length<=100000):(Bv T n x).ok/\(Bv T n x).get=(gt (λy=>(x.2.2.1 (y,())).1) x.1 x.2.1,()):=by
 have b:x.1.length<=maxLen:=by unfold maxLen;omega
 have c:x.1.length*n<=140737488355328:=by have:x.1.length*n<=100000*1000:=uef f e;omega
 have d:x.1.length+1<=maxLen/\(x.1.length+1)*n<=140737488355328:=by refine⟨by unfold maxLen;omega,?_⟩;have:(x.1.length+1)*n<=100001*1000:=uef (by omega) e;omega
 refine aw (λ_ _=>uT) ?_;by_cases a:gr (λy=>(x.2.2.1 (y,())).1) x.1 x.2.1<0;exact aV (ueb a) (aw b (aw c (aw ⟨by omega,by omega⟩ (aw rfl (aw d ⟨uT,by unfold gt;rw[ufw a];rfl⟩)))));refine aN (udw a) (aw b (aw c (aw ⟨by omega,?_⟩ (aw rfl (aw d ⟨uT,by unfold gt;rw[ufx a];rfl⟩)))));exact ueu (pY (by unfold gr at a;omega)).1
def zqd{i:Int}(a:0<=i)(b:i<(n:Int)):i.toNat<n:=by omega
abbrev Ao(T:Ty):List PT:=[.d (.sl T),.d i64,.d T]
def FX(T:Ty)(n:Nat)(x:ap (Ao T)):Fr (aa [.sl T]):=
 Jd (x.1.length<=maxLen) (Jd (x.1.length*n<=140737488355328) (Jd (0<=x.2.1/\x.2.1<(x.1.length:Int)) (Jd (x.2.1.toNat<x.1.length) (Jv (x.1.set x.2.1.toNat x.2.2.1,())))))
def EF(T:Ty):Ct:=⟨Ao T,[.sl T],λx=>(x.1.set x.2.1.toNat x.2.2.1,()),λx=>[x.1.length<=100000,0<=x.2.1/\x.2.1<(x.1.length:Int)]⟩
def qdy(T:Ty)(f:n<=1000)(x:ap (Ao T))(b:x.1.length<=100000)(a:0<=x.2.1/\x.2.1<(x.1.length:Int)):(FX T n x).ok/\(FX T n x).get=(x.1.set x.2.1.toNat x.2.2.1,()):=by
 obtain⟨l,i,y,_⟩:=x;have c:l.length<=maxLen:=by unfold maxLen;exact uep b (by decide)
 have d:l.length*n<=140737488355328:=by have:l.length*n<=100000*1000:=uef b f;omega
 have e:i.toNat<l.length:=zqd a.1 a.2;exact aw c (aw d (aw a (aw e ⟨uT,rfl⟩)))
def lP(T:Ty):Ct:=⟨[.d T,.pfn [T] [i64],.ptr T],[.bool],λx=>(J ((x.2.1 (x.1,())).1>(x.2.1 (x.2.2.1,())).1),()),λ_=>[]⟩
def zjn:ag prog 282 (lP bn):=
 conv (aT aL f282 (fr:=λx=>Jv (J ((x.2.1 (x.1,())).1>(x.2.1 (x.2.2.1,())).1),())) (ps:=(lP bn).ps) (rs:=[.bool])) _ _ (λ_ _ _ _ _ _=>⟨uT,rfl⟩)
def qg6:Cx:=nV [(91,ge bn),(282,lP bn)] [] [(284,.clone 82 bn 120),(283,.ins 82 bn 120)] (λ_ _ _ _=>V)
def Q8:CxOK prog qg6:=pE (cs:=[(91,ge bn),(282,lP bn)]) (ps:=[]) (rs:=[(284,.clone 82 bn 120),(283,.ins 82 bn 120)]) aH ⟨W7,zjn,uT⟩ trivial ⟨qoo,qz1,uT⟩ (λ_ _ _ _ _ h=>(nomatch h))
def zjr:ag prog 280 (wP bn):=
 conv (aT Q8 f280 (fr:=Bv bn 120) (ps:=w6 bn) (rs:=[.sl bn])) _ _ (λ_ _ x _ _ h=>O5 bn (by decide) x h)
def zrx:ag prog 291 (EF bn):=
 conv (aT Q8 f291 (fr:=FX bn 120) (ps:=Ao bn) (rs:=[.sl bn])) _ _ (λ_ _ x _ _ h=>qdy bn (by decide) x h.1 h.2)
def zjo:ag prog 298 (lP aq):=
 conv (aT aL f298 (fr:=λx=>Jv (J ((x.2.1 (x.1,())).1>(x.2.1 (x.2.2.1,())).1),())) (ps:=(lP aq).ps) (rs:=[.bool])) _ _ (λ_ _ _ _ _ _=>⟨uT,rfl⟩)
def qg7:Cx:=nV [(246,ge aq),(298,lP aq)] [] [(300,.clone 101 aq 72),(299,.ins 101 aq 72)] (λ_ _ _ _=>V)
def Q9:CxOK prog qg7:=pE (cs:=[(246,ge aq),(298,lP aq)]) (ps:=[]) (rs:=[(300,.clone 101 aq 72),(299,.ins 101 aq 72)]) aH ⟨Nk,zjo,uT⟩ trivial ⟨qoq,qz5,uT⟩ (λ_ _ _ _ _ h=>(nomatch h))
def zjs:ag prog 295 (wP aq):=
 conv (aT Q9 f295 (fr:=Bv aq 72) (ps:=w6 aq) (rs:=[.sl aq])) _ _ (λ_ _ x _ _ h=>O5 aq (by decide) x h)
def zrz:ag prog 306 (EF aq):=
 conv (aT Q9 f306 (fr:=FX aq 72) (ps:=Ao aq) (rs:=[.sl aq])) _ _ (λ_ _ x _ _ h=>qdy aq (by decide) x h.1 h.2)
def zjp:ag prog 314 (lP ah):=
 conv (aT aL f314 (fr:=λx=>Jv (J ((x.2.1 (x.1,())).1>(x.2.1 (x.2.2.1,())).1),())) (ps:=(lP ah).ps) (rs:=[.bool])) _ _ (λ_ _ _ _ _ _=>⟨uT,rfl⟩)
def qg8:Cx:=nV [(175,ge ah),(314,lP ah)] [] [(316,.clone 73 ah 72),(315,.ins 73 ah 72)] (λ_ _ _ _=>V)
def qg9:CxOK prog qg8:=pE (cs:=[(175,ge ah),(314,lP ah)]) (ps:=[]) (rs:=[(316,.clone 73 ah 72),(315,.ins 73 ah 72)]) aH ⟨W8,zjp,uT⟩ trivial ⟨qot,zac,uT⟩ (λ_ _ _ _ _ h=>(nomatch h))
def zjt:ag prog 311 (wP ah):=
 conv (aT qg9 f311 (fr:=Bv ah 72) (ps:=w6 ah) (rs:=[.sl ah])) _ _ (λ_ _ x _ _ h=>O5 ah (by decide) x h)
abbrev bW(s:ak.q):List bn.q:=s.2.1
abbrev aJ(s:ak.q):List aq.q:=s.2.2.1
abbrev bT(s:ak.q):List ah.q:=s.2.2.2.1
abbrev kg(s:ak.q):Int:=s.2.2.2.2.1
abbrev bF(f:ae.q):Int:=f.1
abbrev aM(f:ae.q):Int:=f.2.1
abbrev iw(f:ae.q):Int:=f.2.2.1
abbrev ej(f:ae.q):Int:=f.2.2.2.1
abbrev dA(f:ae.q):Int:=f.2.2.2.2.1
abbrev ma(f:ae.q):dF.q:=f.2.2.2.2.2.1
abbrev iv(f:ae.q):ay.q:=f.2.2.2.2.2.2.1
abbrev dk(f:ae.q):dx.q:=f.2.2.2.2.2.2.2.1
abbrev lu(f:ae.q):ba.q:=f.2.2.2.2.2.2.2.2.1
abbrev dB(f:ae.q):ah.q:=f.2.2.2.2.2.2.2.2.2.1
abbrev ev(a:bn.q):Int:=a.1.1
abbrev kK(g:aq.q):Int:=g.1.1
def dw(s:ak.q)(id:Int):Int:=gY (λa=>ev a==id) (bW s)
def eS(s:ak.q)(id:Int):Int:=gY (λg=>kK g==id) (aJ s)
def gO(s:ak.q)(id:Int):bn.q×Bool:=if dw s id>=0 then ((bW s).getD (dw s id).toNat bn.j,Z)else (bn.j,Y)
def JJ:Ct:=⟨[.d bn,.ptr i64],[.bool],λx=>(ev x.1==x.2.1,()),λ_=>[]⟩
def Kc:Ct:=⟨[.d aq,.ptr i64],[.bool],λx=>(kK x.1==x.2.1,()),λ_=>[]⟩
def qkf:ag prog 92 JJ:=
 conv (aT aL f92 (fr:=λx=>Jv (ev x.1==x.2.1,())) (ps:=JJ.ps) (rs:=[.bool])) _ _ (λ_ _ _ _ _ _=>⟨uT,rfl⟩)
def qv8:ag prog 297 Kc:=
 conv (aT aL f297 (fr:=λx=>Jv (kK x.1==x.2.1,())) (ps:=Kc.ps) (rs:=[.bool])) _ _ (λ_ _ _ _ _ _=>⟨uT,rfl⟩)
def CS7:Cx:=cx [(91,ge bn),(246,ge aq),(92,JJ),(297,Kc)] []
def QA:CxOK prog CS7:=aQ aH ⟨W7,Nk,qkf,qv8,uT⟩ trivial
abbrev w7:List PT:=[.d ak,.d i64]
def JK:Ct:=⟨w7,[i64],λx=>(dw x.1 x.2.1,()),λ_=>[]⟩
def Kd:Ct:=⟨w7,[i64],λx=>(eS x.1 x.2.1,()),λ_=>[]⟩
def RT:ag prog 54 JK:=
 conv (aT QA f54 (fr:=λx=>Jd (∀ y:aa [bn],gN [bn] y->az ([]:List Prop)) (Jv (dw x.1 x.2.1,()))) (ps:=w7) (rs:=[i64])) _ _ (λ_ _ _ _ _ _=>aw (λ_ _=>uT) ⟨uT,rfl⟩)
def UW:ag prog 294 Kd:=
 conv (aT QA f294 (fr:=λx=>Jd (∀ y:aa [aq],gN [aq] y->az ([]:List Prop)) (Jv (eS x.1 x.2.1,()))) (ps:=w7) (rs:=[i64])) _ _ (λ_ _ _ _ _ _=>aw (λ_ _=>uT) ⟨uT,rfl⟩)
def qhb:Cx:=cx [(54,JK),(294,Kd)] []
def qhc:CxOK prog qhb:=aQ aH ⟨RT,UW,uT⟩ trivial
def wI:Ct:=⟨w7,[bn,.bool],λx=>((gO x.1 x.2.1).1,(gO x.1 x.2.1).2,()),λ_=>[]⟩
def RV:ag prog 24 wI:=
 conv (aT qhc f24 (fr:=λx=>Jb (J (dw x.1 x.2.1>=0)) (Jd (0<=dw x.1 x.2.1/\dw x.1 x.2.1<((bW x.1).length:Int)) (Jv ((bW x.1).getD (dw x.1 x.2.1).toNat bn.j,Z,()))) (Jv (bn.j,Y,()))) (ps:=w7) (rs:=[bn,.bool])) _ _ (λ_ _ x _ _ _=>by by_cases h:dw x.1 x.2.1>=0;refine aV (ueb h) (aw ⟨h,(pY h).1⟩ ⟨uT,?_⟩);show _=((gO x.1 x.2.1).1,(gO x.1 x.2.1).2,());unfold gO;rw[ufw h];rfl;refine aN (udw h) ⟨uT,?_⟩;show _=((gO x.1 x.2.1).1,(gO x.1 x.2.1).2,());unfold gO;rw[ufx h];rfl)
def hZ(t:bh.q):ak.q:=(t,[],[],[],0,())
def A7:Ct:=⟨[.d bh],[ak],λx=>(hZ x.1,()),λ_=>[]⟩
def Yo:ag prog 17 A7:=
 conv (aT aL f17 (fr:=λx=>Jv (hZ x.1,())) (ps:=[.d bh]) (rs:=[ak])) _ _ (λ_ _ _ _ _ _=>⟨uT,rfl⟩)
def jA(n a b:Int):Bool:=bif J (n>=a)then J (n<=b)else Y
def zry{n b:Int}:jA n a b=Z↔a<=n/\n<=b:=by unfold jA;by_cases h:a<=n<;>simp[h]
abbrev RM:List PT:=[.d i64,.d i64,.d i64]
def jJ:Ct:=⟨RM,[.bool],λx=>(jA x.1 x.2.1 x.2.2.1,()),λ_=>[]⟩
def qd0:ag prog 172 jJ:=
 conv (aT aL f172 (fr:=λx=>Jv (jA x.1 x.2.1 x.2.2.1,())) (ps:=RM) (rs:=[.bool])) _ _ (λ_ _ _ _ _ _=>⟨uT,rfl⟩)
def E9:Ct:=⟨[.d dx],[aq],λx=>((x.1,[],()),()),λ_=>[]⟩
def YN:ag prog 244 E9:=
 conv (aT aL f244 (fr:=λx=>Jv ((x.1,[],()),())) (ps:=[.d dx]) (rs:=[aq])) _ _ (λ_ _ _ _ _ _=>⟨uT,rfl⟩)
def qb(g:aq.q):Int:=match g.2.1.getLast? with
 |some a=>a.1
 |none=>g.1.2.2.2.2.1
def FU(g:aq.q):Fr (aa [i64]):=let a:=((List.length g.2.1):Int);Jb (J (a>0)) (Jd (0<=I6.wrap (a-1)/\I6.wrap (a-1)<a) (Jv ((List.getD g.2.1 (I6.wrap (a-1)).toNat ba.j).1,()))) (Jv (g.1.2.2.2.2.1,()))
def zbo{c:dx.q}{l:List ba.q}(b:(l.length:Int)<=9223372036854775807):(FU (c,l,())).ok/\(FU (c,l,())).get=(qb (c,l,()),()):=by
 cases l with
 |nil=>exact aN rfl ⟨uT,rfl⟩
 |cons a r=>
  have d:I6.wrap (((a::r).length:Int)-1)=r.length:=by rw[IntWalk.i64_in _ (by simp only[uc9]at b |-;omega)];simp
  unfold FU;refine aV (by simp) ?_;dsimp only;rw[d];refine aw ⟨by omega,by simp only[uc9];omega⟩ ⟨uT,?_⟩;show((List.getD (a::r) ((r.length:Int)).toNat ba.j).1,())=_;unfold qb;rw[uao,uah];have:((r.length:Int)).toNat=(a::r).length-1:=by simp
  rw[this,uaq (by simp)];rfl
def E8:Ct:=⟨[.d aq],[i64],λx=>(qb x.1,()),λ_=>[]⟩
def zbm:ag prog 255 E8:=
 conv (aT aL f255 (fr:=λx=>FU x.1) (ps:=[.d aq]) (rs:=[i64])) _ _ (λw F x h e _=>by
  obtain⟨⟨c,l,_⟩,_⟩:=x;obtain⟨v,g,rfl,f,_⟩:=e;have b:l.length<=maxLen:=(aG.wf f.2.2).2.1.1;have a:(l.length:Int)<=9223372036854775807:=by unfold maxLen at b;omega
  exact zbo a)
abbrev CJ:Ty:=.pair i64 (.pair i64 .unit)
abbrev oF:Pt:=⟨24,0,⟨[(9,.d i64),(8,.d i64),(7,.d aP)],[.x 2 329 CJ,.r 2 2 0]⟩,⟨[],[]⟩,⟨[(4,.d .bool)],[]⟩⟩
abbrev zy:Type:=ap []×dj [.x 2 329 CJ,.r 2 2 0]
def zJ(e:i64.q)(s:zy):Fr (zy ⊕ oF.R.X):=
 Jb (bif J (e<s.2.1.1)then Z else J (e>s.2.1.2.1)) (Jv (.inr ((Y,()),()))) (Jv (.inl ((),(s.2.1.1,s.2.1.2.1,()),())))
def sF(x:oF.M.X):Int×List i64.q×zy:=(x.1.1,x.1.2.2.1,x.1.2.2.2,x.2)
def Wc(x:oF.M.X):Prop:=x.1.2.1=(x.1.2.2.1.length:Int)
def zii(s:zy):oF.E.X:=((),())
def qp6:zy:=(aY _,cf _)
def KY:oF.R.X:=(aY _,cf _)
def zfc:af prog (.loop (au f174 0)) oF.M oF (FL zJ sF Wc zii Rd.back qp6 KY):=
 sQ aL (λ_ _=>.n .o) i64.j (λx=>x.1.2.1) (λx s=>((I6.wrap (x.1.1+1),x.1.2.1,x.1.2.2.1,s.1),s.2)) (λ_ h=>h)
def zm(y:oF.M.X):zy ⊕ oF.R.X:=eC zJ ((sF y).2.1.drop (sF y).1.toNat) (sF y).2.2
def zhu(y:oF.M.X):Prop:=l6 zJ ((sF y).2.1.drop (sF y).1.toNat) (sF y).2.2
def Oi{step:T->σ->Fr (σ ⊕ ρ)}:(l:List T)->(∀ e∈l,∀ s,(step e s).ok)->(s:σ)->l6 step l s
 |[],_,_=>trivial
 |e::l,h,s=>⟨h e ucc s,by split;exact Oi l (λe a=>h e (ubj _ a)) _;trivial⟩
def MR{step:T->σ->Fr (σ ⊕ ρ)}{I:σ->Prop}{p:T->Bool}{c:ρ}(h:∀ e s,I s->(step e s).get=if p e=Z then .inl s else .inr c):(l:List T)->(s:σ)->I s->eC step l s=if l.all p=Z then .inl s else .inr c
 |[],_,_=>rfl
 |e::l,s,a=>by by_cases b:p e=Z;simp only[eC,h e s a,b,if_true,uek,uem];exact MR h l s a;simp only[eC,h e s a,b,uft,uek,Bool.false_and,ub3]
def LZ(x:ap [.d CJ,.d aP]):Fr (aa [.bool]):=
 let a:=((0,((List.length x.2.1):Int),x.2.1,()),(x.1.1,x.1.2.1,()),());Jd (InL (Wc a) (sF a)) (Jd (zhu a) (Jb (dV (zm a)) (Jv (Z,())) (Jv ((e9 KY (zm a)).1.1,()))))
def qvg:ag prog 174 (bg [.d CJ,.d aP] [.bool] LZ):=
 cZ aL zfc
def iI(a b:Int)(l:List Int):Bool:=l.all λx=>J (a<=x)&&J (x<=b)
def fj:Ct:=⟨[.d CJ,.d aP],[.bool],λx=>(iI x.1.1 x.1.2.1 x.2.1,()),λ_=>[]⟩
def qzh(a b:Int)(l:List Int):eC zJ l ((),(a,b,()),())=if iI a b l=Z then .inl ((),(a,b,()),())else .inr ((Y,()),()):=
 MR (I:=λs=>s=((),(a,b,()),())) (λe s f=>by subst f;by_cases c:e<a;rw[ufx (by simp;omega)];exact ufw (by simp[c]);by_cases d:e>b;rw[ufx (by simp;omega)];exact ufw (by simp[d]);rw[ufw (by simp;omega)];exact ufx (by simp;omega)) l _ rfl
def qzi:ag prog 174 fj:=
 conv qvg _ _ (λw F x p k _=>by
  obtain⟨⟨a,b,_⟩,l,_⟩:=x;obtain⟨v,m,rfl,n,f⟩:=k;obtain⟨o,i,rfl,g,_⟩:=f;have d:((List.length (α:=Int) l:Nat):Int)<=9223372036854775807:=pg g;show(LZ ((a,b,()),l,())).ok/\(LZ ((a,b,()),l,())).get=(iI a b l,());refine aw ⟨rfl,ufc _,ub4 _,d⟩ (aw (Oi (step:=zJ) _ (λe _ s=>⟨λ_=>uT,λ_=>uT⟩) _) ?_);have c:zm ((0,((List.length (α:=Int) l:Nat):Int),l,()),(a,b,()),())=if iI a b l=Z then .inl ((),(a,b,()),())else .inr ((Y,()),()):=by show eC zJ (List.drop 0 l) ((),(a,b,()),())=_;rw[ueg,qzh]
  cases h:iI a b l;rw[h,ufx (by decide)]at c;refine aN (by show dV (zm ((0,((List.length (α:=Int) l:Nat):Int),l,()),(a,b,()),()))=Y;rw[c];rfl) ⟨uT,?_⟩;show((e9 KY (zm ((0,((List.length (α:=Int) l:Nat):Int),l,()),(a,b,()),()))).1.1,())=_;rw[c];rfl;rw[h,ufw rfl]at c;exact aV (by show dV (zm ((0,((List.length (α:=Int) l:Nat):Int),l,()),(a,b,()),()))=Z;rw[c];rfl) ⟨uT,rfl⟩)
def qf0:Cx:=cx [(174,fj),(83,qV),(96,iD),(172,jJ)] []
def wb:CxOK prog qf0:=aQ aH ⟨qzi,XW,rC,qd0,uT⟩ trivial
abbrev ax:Ty:=.pair i64 (.pair i64 (.pair i64 (.pair i64 (.pair i64 .unit))))
def ub(x:ap [.d ah]):Fr (aa [.bool]):=
 let l:=x.1.2.1;let g:=x.1.2.2.2;let m:=fj.f ((1,10000,()),[g.1],());let k:=J (g.2.2.1>0);let h:=((fj.f ((0,0,()),[g.2.1,g.2.2.1,g.2.2.2.1],())).1,());let c:=((fj.f ((0,100,()),[g.2.2.2.1],())).1,());let b:=(Y,());let a:=fj.f ((0,1000000000000000,()),[g.2.1,g.2.2.1],());Jb (!(fj.f ((1,1000000000,()),[x.1.1],())).1) (Jb Z (Jv b) (Jb (l==1) (Jb m.1 (Jv h) (Jv b)) (Jb (l==2) (Jb (l==2) (Jb (g.1==0) (Jb a.1 (Jb k (Jv c) (Jv b)) (Jv b)) (Jv b)) (Jv b)) (Jb (l==3) (Jb (g.1==0) (Jb a.1 (Jb k (Jv c) (Jv b)) (Jv b)) (Jv b)) (Jv b))))) (Jb ((qV.f ((x.1.2.2.1.1,x.1.2.2.1.2.1,()),())).1==0) (Jb Z (Jv b) (Jb (l==1) (Jb m.1 (Jv h) (Jv b)) (Jb (l==2) (Jb (l==2) (Jb (g.1==0) (Jb a.1 (Jb k (Jv c) (Jv b)) (Jv b)) (Jv b)) (Jv b)) (Jb (l==3) (Jb (g.1==0) (Jb a.1 (Jb k (Jv c) (Jv b)) (Jv b)) (Jv b)) (Jv b))))) (Jb (!(fj.f ((1,255,()),[g.2.2.2.2.1],())).1) (Jv b) (Jb (l==1) (Jb m.1 (Jv h) (Jv b)) (Jb (l==2) (Jb (l==2) (Jb (g.1==0) (Jb a.1 (Jb k (Jv c) (Jv b)) (Jv b)) (Jv b)) (Jv b)) (Jb (l==3) (Jb (g.1==0) (Jb a.1 (Jb k (Jv c) (Jv b)) (Jv b)) (Jv b)) (Jv b))))))
def qvf:ag prog 109 (bg [.d ah] [.bool] ub):=
 aT wb f109
def xE(x:ap [.d ax]):Fr (aa [.bool]):=
 let a:=(Y,());Jb (fj.f ((1,1000000000,()),[x.1.1],())).1 (Jb (fj.f ((0,1000000000,()),[x.1.2.1],())).1 (Jb (fj.f ((1,292194,()),[x.1.2.2.1],())).1 (Jb (fj.f ((0,7,()),[x.1.2.2.2.1],())).1 (Jv ((fj.f ((0,1000000000000000,()),[x.1.2.2.2.2.1],())).1,())) (Jv a)) (Jv a)) (Jv a)) (Jv a)
def qve:ag prog 111 (bg [.d ax] [.bool] xE):=
 aT wb f111
def UJ(x:ap [.d dx]):Fr (aa [.bool]):=
 let a:=x.1.2.2;Jv (bif bif bif bif (jJ.f (x.1.1,1,1000000000,())).1 then (jJ.f (x.1.2.1,1,1000000000,())).1 else Y then (jJ.f (a.2.2.2.1,0,1000000000,())).1 else Y then bif (jJ.f (a.2.1,1,292194,())).1 then (jJ.f (a.2.2.1,1,292194,())).1 else Y else Y then (jJ.f (a.1,0,7,())).1 else Y,())
def qto:ag prog 156 (bg [.d dx] [.bool] UJ):=
 aT wb f156
def Fx(x:ap [.d ba]):Fr (aa [.bool]):=
 let b:=jJ.f (x.1.2.1,1,5,());let a:=jJ.f (x.1.1,1,292194,());Jb (bif x.1.2.1==4 then Z else x.1.2.1==5) (Jv (bif bif a.1 then b.1 else Y then (jJ.f (x.1.2.2.1,0,0,())).1 else Y,())) (Jv (bif bif a.1 then b.1 else Y then (jJ.f (x.1.2.2.1,0,1000000000000000,())).1 else Y,()))
def qtp:ag prog 157 (bg [.d ba] [.bool] Fx):=
 aT wb f157
def LD(x:ap [.d ae]):Fr (aa [.bool]):=
 let a:=x.1.2.2.2.2.2;let h:=a.1.2.1;let g:=a.2.2;let k:=g.1.2.2;let c:=a.2.1.2.2.2;let b:=g.2.2.1.2;let l:=b.2.2.2;Jv (bif bif bif bif bif bif bif bif bif bif bif bif bif bif ((List.length c.2.1):Int)==0 then ((List.length a.1.2.2.1):Int)==0 else Y then x.1.2.2.1==0 else Y then x.1.2.2.2.1==0 else Y then x.1.2.2.2.2.1==0 else Y then a.1.1.1==0&&(a.1.1.2.1==0&&Z)else Y then h.1==0&&(h.2.1==0&&(h.2.2.1==0&&(h.2.2.2.1==0&&Z)))else Y then a.2.1.1==0 else Y then a.2.1.2.1==0 else Y then a.2.1.2.2.1==0 else Y then c.2.2.1==0 else Y then c.1.1==0&&(c.1.2.1==0&&(c.1.2.2.1==0&&(c.1.2.2.2.1==0&&Z)))else Y then g.1.1==0&&(g.1.2.1==0&&(k.1==0&&(k.2.1==0&&(k.2.2.1==0&&(k.2.2.2.1==0&&Z)))))else Y then g.2.1.1==0&&(g.2.1.2.1==0&&(g.2.1.2.2.1==0&&Z))else Y then g.2.2.1.1==0&&(b.1==0&&(b.2.1.1==0&&(b.2.1.2.1==0&&Z)&&(b.2.2.1==0&&(l.1==0&&(l.2.1==0&&(l.2.2.1==0&&(l.2.2.2.1==0&&Z)))))))else Y,())
def qtl:ag prog 155 (bg [.d ae] [.bool] LD):=
 aT wb f155
def LW(x:ap [.d ah,.d i64,.d i64]):Fr (aa [i64]):=
 let a:=iD.f ((x.1.2.2.1.1,x.1.2.2.1.2.1,()),x.2.1,());Jd ((bif x.1.2.1 != 1 then Z else !a.1)=Y->¬x.2.2.1<0) (Jb (bif bif x.1.2.1 != 1 then Z else !a.1 then Z else I6.wrap ((Bvo I6.bits (Int.fdiv x.1.2.2.2.2.2.2.2.1 (2 ^ min (Int.toNat x.2.2.1) I6.bits)) &&& Bvo I6.bits 1).toNat:Int)==0) (Jv (0,())) (Jv (x.1.2.2.2.1,())))
def qu5:ag prog 317 (bg [.d ah,.d i64,.d i64] [i64] LW):=
 aT wb f317
def gG(t:ah.q):Bool:=(ub (t,())).get.1
def l8(l:ax.q):Bool:=(xE (l,())).get.1
def nN(c:dx.q):Bool:=(UJ (c,())).get.1
def lc(a:ba.q):Bool:=(Fx (a,())).get.1
def wE(f:ae.q):Bool:=(LD (f,())).get.1
def cS(t:ah.q)(b a:Int):Int:=(LW (t,b,a,())).get.1
def kw:Ct:=⟨[.d ah],[.bool],λx=>(gG x.1,()),λ_=>[]⟩
def nO:Ct:=⟨[.d ax],[.bool],λx=>(l8 x.1,()),λ_=>[]⟩
def Ay:Ct:=⟨[.d dx],[.bool],λx=>(nN x.1,()),λ_=>[]⟩
def wK:Ct:=⟨[.d ba],[.bool],λx=>(lc x.1,()),λ_=>[]⟩
def Ev:Ct:=⟨[.d ae],[.bool],λx=>(wE x.1,()),λ_=>[]⟩
def Ko:Ct:=⟨[.d ah,.d i64,.d i64],[i64],λx=>(cS x.1 x.2.1 x.2.2.1,()),λx=>[¬ x.2.2.1<0]⟩
def zh:ag prog 109 kw:=conv qvf _ _ (λ_ _ x _ _ _=>⟨by show(ub x).ok;unfold ub;(repeat' first|exact trivial|(refine⟨λ_=>?_,λ_=>?_⟩)),rfl⟩)
def CH:ag prog 111 nO:=conv qve _ _ (λ_ _ x _ _ _=>⟨by show(xE x).ok;unfold xE;(repeat' first|exact trivial|(refine⟨λ_=>?_,λ_=>?_⟩)),rfl⟩)
def SG:ag prog 156 Ay:=conv qto _ _ (λ_ _ x _ _ _=>⟨uT,rfl⟩)
def SN:ag prog 157 wK:=conv qtp _ _ (λ_ _ x _ _ _=>⟨by show(Fx x).ok;unfold Fx;(repeat' first|exact trivial|(refine⟨λ_=>?_,λ_=>?_⟩)),rfl⟩)
def ql4:ag prog 155 Ev:=conv qtl _ _ (λ_ _ x _ _ _=>⟨uT,rfl⟩)
def zjc:ag prog 317 Ko:=conv qu5 _ _ (λ_ _ x _ _ h=>⟨⟨λ_=>h,by (repeat' first|exact trivial|(refine⟨λ_=>?_,λ_=>?_⟩))⟩,rfl⟩)
section
open Go.Shelf Go.Lib
abbrev aC:Ty:=.pair i64 (.pair i64 (.pair i64 (.pair i64 (.pair i64 (.pair .bool .unit)))))
def C4{x:aC.q}(g:arr.size=aC.size)(h:aG w F aC x (λj u=>arr[j]?= U u)):
  arr = #[.int .i64 x.1,.int .i64 x.2.1,.int .i64 x.2.2.1,.int .i64 x.2.2.2.1,.int .i64 x.2.2.2.2.1,.bool x.2.2.2.2.2.1]:=by
 obtain⟨a,b,c,d,e,f,_⟩:=h;refine uci λj=>?_
 match j with
 |0=>exact a.1
 |1=>exact b.1
 |2=>exact c.1
 |3=>exact d.1
 |4=>exact e.1
 |5=>exact f
 |j+6=>rw[ua1 (by rw[g];show 6<=j+6;omega)];simp
def jZ{x:aC.q}(a:inR .i64 x.1)(b:inR .i64 x.2.1)(c:inR .i64 x.2.2.1)(d:inR .i64 x.2.2.2.1)(e:inR .i64 x.2.2.2.2.1):
  aG w F aC x (λj u=>[Value.int .i64 x.1,.int .i64 x.2.1,.int .i64 x.2.2.1,.int .i64 x.2.2.2.1,.int .i64 x.2.2.2.2.1,.bool x.2.2.2.2.2.1][j]?= U u):=
 ⟨⟨rfl,a⟩,⟨rfl,b⟩,⟨rfl,c⟩,⟨rfl,d⟩,⟨rfl,e⟩,rfl,uT⟩
def rB{y:aa [i64]}(h:fi w F [i64] y vs):vs=[.int .i64 y.1]/\inR .i64 y.1:=by
 obtain⟨v,g,rfl,⟨_,f,b⟩,c⟩:=h;subst c;obtain⟨a,d⟩:v.cells[0]?= U (Value.int .i64 y.1)/\inR .i64 y.1:=b;have e:v.cells = #[v]:=by cases v<;>first|rfl|(exact absurd (f.2 ⟨_,rfl⟩) (by decide))
 rw[e]at a;cases a;exact⟨rfl,d⟩
def tE(a:w.heap[b]?= U (.cells arr ty (0,0)))(k:Nat):w.cell? ⟨b,k,V⟩=arr[k]? := by simp[World.cell?,a]
def BH(a:w.heap[b]?= U (.cells arr ty (0,0)))(k:Nat):w.frozen? ⟨b,k,V⟩=false:=by simp[World.frozen?,a]
def qyz:UpdOK prog 167 aC [i64] (λx y=>(y.1,x.2.1,x.2.2.1,x.2.2.2.1,x.2.2.2.2.1,x.2.2.2.2.2.1,())):=by
 refine⟨enters_of func167 (by kernel_rfl) rfl,λw F b a k x y u c o t i p=>?_⟩;obtain⟨rfl,h⟩:=rB p;have l:=C4 o i;subst l
 go_enter func167,ntmps167
 have m:=tE c;have n:=BH c;obtain⟨r,d,e,f,g,s,_⟩:=i
 go_wp2_with (simp only[m,n])
 first
  |exact⟨⟨_,rfl⟩,[.int .i64 y.1,.int .i64 x.2.1,.int .i64 x.2.2.1,.int .i64 x.2.2.2.1,.int .i64 x.2.2.2.2.1,.bool x.2.2.2.2.2.1],rfl,(uc2 w b 0 _ a (0,0) _ c).trans (by simp[wrap64,udf]),jZ (x:=(y.1,x.2.1,x.2.2.1,x.2.2.2.1,x.2.2.2.2.1,x.2.2.2.2.2.1,())) (h) (d.2) (e.2) (f.2) (g.2)⟩
  |exact⟨.tuple #[],[.int .i64 y.1,.int .i64 x.2.1,.int .i64 x.2.2.1,.int .i64 x.2.2.2.1,.int .i64 x.2.2.2.2.1,.bool x.2.2.2.2.2.1],rfl,rfl,(uc2 w b 0 _ a (0,0) _ c).trans (by simp[wrap64,udf]),jZ (x:=(y.1,x.2.1,x.2.2.1,x.2.2.2.1,x.2.2.2.2.1,x.2.2.2.2.2.1,())) (h) (d.2) (e.2) (f.2) (g.2)⟩
  |exact ufa (v:=.tuple #[]) (ue4 rfl _ _ _) rfl ⟨⟨_,rfl⟩,[.int .i64 y.1,.int .i64 x.2.1,.int .i64 x.2.2.1,.int .i64 x.2.2.2.1,.int .i64 x.2.2.2.2.1,.bool x.2.2.2.2.2.1],rfl,(uc2 w b 0 _ a (0,0) _ c).trans (by simp[wrap64,udf]),jZ (x:=(y.1,x.2.1,x.2.2.1,x.2.2.2.1,x.2.2.2.2.1,x.2.2.2.2.2.1,())) (h) (d.2) (e.2) (f.2) (g.2)⟩
def zjd:UpdOK prog 168 aC [i64] (λx y=>(x.1,I6.wrap (x.2.1+y.1),x.2.2.1,x.2.2.2.1,x.2.2.2.2.1,x.2.2.2.2.2.1,())):=by
 refine⟨enters_of func168 (by kernel_rfl) rfl,λw F b a i x y u c n s h o=>?_⟩;obtain⟨rfl,t⟩:=rB o;have k:=C4 n h;subst k
 go_enter func168,ntmps168
 have l:=tE c;have m:=BH c;obtain⟨d,p,e,f,g,r,_⟩:=h
 go_wp2_with (simp only[l,m])
 first
  |exact⟨⟨_,rfl⟩,[.int .i64 x.1,.int .i64 (I6.wrap (x.2.1+y.1)),.int .i64 x.2.2.1,.int .i64 x.2.2.2.1,.int .i64 x.2.2.2.2.1,.bool x.2.2.2.2.2.1],rfl,(uc2 w b 1 _ a (0,0) _ c).trans (by simp[wrap64,udf]),jZ (x:=(x.1,I6.wrap (x.2.1+y.1),x.2.2.1,x.2.2.2.1,x.2.2.2.2.1,x.2.2.2.2.2.1,())) (d.2) (iQ .i64 _) (e.2) (f.2) (g.2)⟩
  |exact⟨.tuple #[],[.int .i64 x.1,.int .i64 (I6.wrap (x.2.1+y.1)),.int .i64 x.2.2.1,.int .i64 x.2.2.2.1,.int .i64 x.2.2.2.2.1,.bool x.2.2.2.2.2.1],rfl,rfl,(uc2 w b 1 _ a (0,0) _ c).trans (by simp[wrap64,udf]),jZ (x:=(x.1,I6.wrap (x.2.1+y.1),x.2.2.1,x.2.2.2.1,x.2.2.2.2.1,x.2.2.2.2.2.1,())) (d.2) (iQ .i64 _) (e.2) (f.2) (g.2)⟩
  |exact ufa (v:=.tuple #[]) (ue4 rfl _ _ _) rfl ⟨⟨_,rfl⟩,[.int .i64 x.1,.int .i64 (I6.wrap (x.2.1+y.1)),.int .i64 x.2.2.1,.int .i64 x.2.2.2.1,.int .i64 x.2.2.2.2.1,.bool x.2.2.2.2.2.1],rfl,(uc2 w b 1 _ a (0,0) _ c).trans (by simp[wrap64,udf]),jZ (x:=(x.1,I6.wrap (x.2.1+y.1),x.2.2.1,x.2.2.2.1,x.2.2.2.2.1,x.2.2.2.2.2.1,())) (d.2) (iQ .i64 _) (e.2) (f.2) (g.2)⟩
def zki:UpdOK prog 169 aC [i64] (λx y=>(x.1,x.2.1,x.2.2.1,I6.wrap (x.2.2.2.1+y.1),x.2.2.2.2.1,x.2.2.2.2.2.1,())):=by
 refine⟨enters_of func169 (by kernel_rfl) rfl,λw F b a i x y u c n s h o=>?_⟩;obtain⟨rfl,t⟩:=rB o;have k:=C4 n h;subst k
 go_enter func169,ntmps169
 have l:=tE c;have m:=BH c;obtain⟨d,e,f,p,g,r,_⟩:=h
 go_wp2_with (simp only[l,m])
 first
  |exact⟨⟨_,rfl⟩,[.int .i64 x.1,.int .i64 x.2.1,.int .i64 x.2.2.1,.int .i64 (I6.wrap (x.2.2.2.1+y.1)),.int .i64 x.2.2.2.2.1,.bool x.2.2.2.2.2.1],rfl,(uc2 w b 3 _ a (0,0) _ c).trans (by simp[wrap64,udf]),jZ (x:=(x.1,x.2.1,x.2.2.1,I6.wrap (x.2.2.2.1+y.1),x.2.2.2.2.1,x.2.2.2.2.2.1,())) (d.2) (e.2) (f.2) (iQ .i64 _) (g.2)⟩
  |exact⟨.tuple #[],[.int .i64 x.1,.int .i64 x.2.1,.int .i64 x.2.2.1,.int .i64 (I6.wrap (x.2.2.2.1+y.1)),.int .i64 x.2.2.2.2.1,.bool x.2.2.2.2.2.1],rfl,rfl,(uc2 w b 3 _ a (0,0) _ c).trans (by simp[wrap64,udf]),jZ (x:=(x.1,x.2.1,x.2.2.1,I6.wrap (x.2.2.2.1+y.1),x.2.2.2.2.1,x.2.2.2.2.2.1,())) (d.2) (e.2) (f.2) (iQ .i64 _) (g.2)⟩
  |exact ufa (v:=.tuple #[]) (ue4 rfl _ _ _) rfl ⟨⟨_,rfl⟩,[.int .i64 x.1,.int .i64 x.2.1,.int .i64 x.2.2.1,.int .i64 (I6.wrap (x.2.2.2.1+y.1)),.int .i64 x.2.2.2.2.1,.bool x.2.2.2.2.2.1],rfl,(uc2 w b 3 _ a (0,0) _ c).trans (by simp[wrap64,udf]),jZ (x:=(x.1,x.2.1,x.2.2.1,I6.wrap (x.2.2.2.1+y.1),x.2.2.2.2.1,x.2.2.2.2.2.1,())) (d.2) (e.2) (f.2) (iQ .i64 _) (g.2)⟩
def qov:UpdOK prog 170 aC [i64] (λx y=>(x.1,x.2.1,x.2.2.1,x.2.2.2.1,x.2.2.2.2.1,Y,())):=by
 refine⟨enters_of func170 (by kernel_rfl) rfl,λw F b a k x y u c o s i p=>?_⟩;obtain⟨rfl,t⟩:=rB p;have l:=C4 o i;subst l
 go_enter func170,ntmps170
 have m:=tE c;have n:=BH c;obtain⟨d,e,f,g,h,r,_⟩:=i
 go_wp2_with (simp only[m,n])
 first
  |exact⟨⟨_,rfl⟩,[.int .i64 x.1,.int .i64 x.2.1,.int .i64 x.2.2.1,.int .i64 x.2.2.2.1,.int .i64 x.2.2.2.2.1,.bool Y],rfl,(uc2 w b 5 _ a (0,0) _ c).trans (by simp[wrap64,udf]),jZ (x:=(x.1,x.2.1,x.2.2.1,x.2.2.2.1,x.2.2.2.2.1,Y,())) (d.2) (e.2) (f.2) (g.2) (h.2)⟩
  |exact⟨.tuple #[],[.int .i64 x.1,.int .i64 x.2.1,.int .i64 x.2.2.1,.int .i64 x.2.2.2.1,.int .i64 x.2.2.2.2.1,.bool Y],rfl,rfl,(uc2 w b 5 _ a (0,0) _ c).trans (by simp[wrap64,udf]),jZ (x:=(x.1,x.2.1,x.2.2.1,x.2.2.2.1,x.2.2.2.2.1,Y,())) (d.2) (e.2) (f.2) (g.2) (h.2)⟩
  |exact ufa (v:=.tuple #[]) (ue4 rfl _ _ _) rfl ⟨⟨_,rfl⟩,[.int .i64 x.1,.int .i64 x.2.1,.int .i64 x.2.2.1,.int .i64 x.2.2.2.1,.int .i64 x.2.2.2.2.1,.bool Y],rfl,(uc2 w b 5 _ a (0,0) _ c).trans (by simp[wrap64,udf]),jZ (x:=(x.1,x.2.1,x.2.2.1,x.2.2.2.1,x.2.2.2.2.1,Y,())) (d.2) (e.2) (f.2) (g.2) (h.2)⟩
def zkq:UpdOK prog 171 aC [i64] (λx y=>(x.1,x.2.1,x.2.2.1,x.2.2.2.1,x.2.2.2.2.1,Z,())):=by
 refine⟨enters_of func171 (by kernel_rfl) rfl,λw F b a k x y u c o s i p=>?_⟩;obtain⟨rfl,t⟩:=rB p;have l:=C4 o i;subst l
 go_enter func171,ntmps171
 have m:=tE c;have n:=BH c;obtain⟨d,e,f,g,h,r,_⟩:=i
 go_wp2_with (simp only[m,n])
 first
  |exact⟨⟨_,rfl⟩,[.int .i64 x.1,.int .i64 x.2.1,.int .i64 x.2.2.1,.int .i64 x.2.2.2.1,.int .i64 x.2.2.2.2.1,.bool Z],rfl,(uc2 w b 5 _ a (0,0) _ c).trans (by simp[wrap64,udf]),jZ (x:=(x.1,x.2.1,x.2.2.1,x.2.2.2.1,x.2.2.2.2.1,Z,())) (d.2) (e.2) (f.2) (g.2) (h.2)⟩
  |exact⟨.tuple #[],[.int .i64 x.1,.int .i64 x.2.1,.int .i64 x.2.2.1,.int .i64 x.2.2.2.1,.int .i64 x.2.2.2.2.1,.bool Z],rfl,rfl,(uc2 w b 5 _ a (0,0) _ c).trans (by simp[wrap64,udf]),jZ (x:=(x.1,x.2.1,x.2.2.1,x.2.2.2.1,x.2.2.2.2.1,Z,())) (d.2) (e.2) (f.2) (g.2) (h.2)⟩
  |exact ufa (v:=.tuple #[]) (ue4 rfl _ _ _) rfl ⟨⟨_,rfl⟩,[.int .i64 x.1,.int .i64 x.2.1,.int .i64 x.2.2.1,.int .i64 x.2.2.2.1,.int .i64 x.2.2.2.2.1,.bool Z],rfl,(uc2 w b 5 _ a (0,0) _ c).trans (by simp[wrap64,udf]),jZ (x:=(x.1,x.2.1,x.2.2.1,x.2.2.2.1,x.2.2.2.2.1,Z,())) (d.2) (e.2) (f.2) (g.2) (h.2)⟩
def jb:List (Int×TypeId):=[(1,304),(2,305),(3,306),(4,307),(5,308),(6,309),(7,380)]
def yw(k:Int):Value:=match dd jb k with
 |some a=>.iface a (.agg #[])
 |none=>.nilIface
def Ni{k:Int}(h:k<1\/k>7):dd jb k=none:=by
 have:jb.find? (λx=>x.1==k)=none:=by rw[List.find?_eq_none];intro x a;simp only[jb,uej,udj,or_false]at a;rcases a with rfl|rfl|rfl|rfl|rfl|rfl|rfl<;>simp<;>omega
 unfold dd;rw[this];rfl
def qs{k:Int}(h:1<=k/\k<=7):k=1\/k=2\/k=3\/k=4\/k=5\/k=6\/k=7:=by omega
def qwq(k:Int)(R:Ending->World->Prop)(w:World)(a:∀ o,R (.returned (yw k)) (w.alloc o)):Calls prog 154 #[.int .i64 k] w R:=by
 go_enter func154,ntmps154
 by_cases c:k<1
 ·have b:yw k=.nilIface:=by unfold yw;rw[Ni (.inl c)]
  rw[b]at a
  go_wp2
  exact a _
 ·by_cases d:k>7
  ·have b:yw k=.nilIface:=by unfold yw;rw[Ni (.inr d)]
   rw[b]at a
   go_wp2
   exact a _
  ·rcases qs (k:=k) (by omega)with rfl|rfl|rfl|rfl|rfl|rfl|rfl
   all_goals
    go_wp2
    exact a _
def W9{a:List (Int×TypeId)}{t:Ty}{x:Int×t.q}(h:dd a x.1=U ty)(b:bJ w F t x.2 u):bJ w F (.ic a t) x (.iface ty u):=
 ⟨rfl,⟨λh=>(by cases h),λh=>(by obtain⟨_,h⟩:=h;cases h)⟩,.inl ⟨ty,u,h,rfl,b⟩⟩
def Yq{a:List (Int×TypeId)}{t:Ty}{x:Int×t.q}(h:dd a x.1=V):bJ w F (.ic a t) x .nilIface:=
 ⟨rfl,⟨λh=>(by cases h),λh=>(by obtain⟨_,h⟩:=h;cases h)⟩,.inr ⟨h,rfl⟩⟩
def Z2{t:Ty}{y:t.q}{o:Obj}(c:∀ b,F b->b<w.heap.size)(h:bJ w F t y v):iB w F [t] (y,()) (.returned v) (w.alloc o):=
 ⟨v,F,rfl,(ufk _ w).alloc (ufb _) _,λ_ h=>h,λb a=>⟨.inl a,by have:=c b a;simp;omega⟩,h.mono (λ_ h=>h) (λb a=>udb _ _ _ (c b a))⟩
def W5{k:Int}{u:Unit}(h:dm prog w F [.d i64] (k,u) vs):vs=[.int .i64 k]/\inR .i64 k:=by obtain⟨v,a,rfl,b,c⟩:=h;exact rB (w:=w) (F:=F) (y:=(k,())) ⟨v,a,rfl,b,c⟩
def Kl:Ct:=⟨[.d i64],[.ic jb .unit],λx=>((x.1,()),()),λ_=>[]⟩
def qwp:ag prog 154 Kl:=by refine⟨enters_of func154 (by kernel_rfl) rfl,λw F c e a b _=>?_⟩;obtain⟨k,_⟩:=c;obtain⟨rfl,_⟩:=W5 b;refine qwq k _ w λo=>Z2 a ?_;unfold yw;split;rename_i d h;exact W9 h ⟨rfl,⟨λ_=>⟨_,rfl⟩,λ_=>rfl⟩,uT⟩;rename_i h;exact Yq h
end
abbrev tf:Ty:=.pair (.fc V) (.pair (.fc (U 167)) (.pair (.fc (U 168)) (.pair (.fc (U 169)) (.pair (.fc (U 170)) (.pair (.fc (U 171)) .unit)))))
def qal:List (FuncId×Row):=[(167,.upd aC [i64] (λx y=>(y.1,x.2.1,x.2.2.1,x.2.2.2.1,x.2.2.2.2.1,x.2.2.2.2.2.1,()))),(168,.upd aC [i64] (λx y=>(x.1,I6.wrap (x.2.1+y.1),x.2.2.1,x.2.2.2.1,x.2.2.2.2.1,x.2.2.2.2.2.1,()))),(169,.upd aC [i64] (λx y=>(x.1,x.2.1,x.2.2.1,I6.wrap (x.2.2.2.1+y.1),x.2.2.2.2.1,x.2.2.2.2.2.1,()))),(170,.upd aC [i64] (λx _=>(x.1,x.2.1,x.2.2.1,x.2.2.2.1,x.2.2.2.2.1,Y,()))),(171,.upd aC [i64] (λx _=>(x.1,x.2.1,x.2.2.1,x.2.2.2.1,x.2.2.2.2.1,Z,())))]
def qgb:Cx:=nV [(172,jJ)] [] qal (λ_ _ _ _=>V)
def Q5:CxOK prog qgb:=pE (cs:=[(172,jJ)]) (ps:=[]) (rs:=qal) aH ⟨qd0,uT⟩ trivial ⟨qyz,zjd,zki,qov,zkq,uT⟩ (λ_ _ _ _ _ h=>(nomatch h))
abbrev vw:Pt:=⟨28,0,⟨[(12,.d i64),(11,.d i64),(10,.d (.sl ba))],[.x 2 237 aC,.r 2 2 0,.x 3 325 tf,.r 3 3 0,.x 4 237 aC,.r 4 4 0]⟩,⟨[],[.x 2 237 aC,.r 2 2 0,.x 4 237 aC,.r 4 4 0]⟩,⟨[],[]⟩⟩
abbrev Df:Type:=ap []×dj [.x 2 237 aC,.r 2 2 0,.x 3 325 tf,.r 3 3 0,.x 4 237 aC,.r 4 4 0]
def oY(e:ba.q)(s:Df):Fr Df:=
 let d:=((),(),(),(),(),(),());let c:=s.2.2.2.1;let a:=c.2;let b:=a.2.2;Jb (jJ.f (e.2.1,1,5,())).1 (Jd (0<=e.2.1/\e.2.1<(6:Int)) (Jd ((List.find? (λg=>g.1==e.2.1) (lv 0 (List.take 6 (List.drop 0 (List.drop 0 (enc tf s.2.2.1)))))).isSome=Z) (Jd (e.2.1≠0+1->az [e.2.1≠0+1+1->az [e.2.1≠0+1+1+1->az [e.2.1≠0+1+1+1+1->az [e.2.1=0+1+1+1+1+1]]]]) (Jv ((),s.2.1,d,(bif e.2.1==0+1 then (e.2.2.1,a.1,a.2.1,b.1,b.2.1,b.2.2.1,())else bif e.2.1==0+1+1 then (c.1,I6.wrap (a.1+e.2.2.1),a.2.1,b.1,b.2.1,b.2.2.1,())else bif e.2.1==0+1+1+1 then (c.1,a.1,a.2.1,I6.wrap (b.1+e.2.2.1),b.2.1,b.2.2.1,())else bif e.2.1==0+1+1+1+1 then (c.1,a.1,a.2.1,b.1,b.2.1,Y,())else (c.1,a.1,a.2.1,b.1,b.2.1,Z,())),()))))) (Jv ((),s.2.1,d,c,()))
def sK(x:vw.M.X):Int×List ba.q×Df:=(x.1.1,x.1.2.2.1,x.1.2.2.2,x.2)
def Wj(x:vw.M.X):Prop:=x.1.2.1=(x.1.2.2.1.length:Int)
def YY(s:Df):vw.E.X:=((),s.2.1,s.2.2.2.1,())
def zfm:af prog (.loop (au f100 0)) vw.M vw (FF oY sK Wj YY):=
 zT Q5 (λ_ _=>.n .o) ba.j (λx=>x.1.2.1) (λx s=>((I6.wrap (x.1.1+1),x.1.2.1,x.1.2.2.1,s.1),s.2)) (λ_ h=>h)
def zk4(y:vw.M.X):Df:=ft oY ((sK y).2.1.drop (sK y).1.toNat) (sK y).2.2
def zhy(y:vw.M.X):Prop:=kQ oY ((sK y).2.1.drop (sK y).1.toNat) (sK y).2.2
def qvu(x:ap [.d aq]):Fr (aa [aC]):=
 let a:=((0,((List.length x.1.2.1):Int),x.1.2.1,()),(0,0,0,0,0,Y,()),((),(),(),(),(),(),()),(0,0,0,0,0,Z,()),());Jd (InL (Wj a) (sK a)) (Jd (zhy a) (Jv ((YY (zk4 a)).2.2.1,())))
def qvv:ag prog 100 (bg [.d aq] [aC] qvu):=
 cZ Q5 zfm
def lN(p:aC.q)(a:ba.q):aC.q:=
 bif jA a.2.1 1 5 then (bif a.2.1==1 then (a.2.2.1,p.2)else bif a.2.1==2 then (p.1,I6.wrap (p.2.1+a.2.2.1),p.2.2)else bif a.2.1==3 then (p.1,p.2.1,p.2.2.1,I6.wrap (p.2.2.2.1+a.2.2.1),p.2.2.2.2)
  else bif a.2.1==4 then (p.1,p.2.1,p.2.2.1,p.2.2.2.1,p.2.2.2.2.1,Y,())else (p.1,p.2.1,p.2.2.1,p.2.2.2.1,p.2.2.2.2.1,Z,()))else p
def m9(g:aq.q):aC.q:=g.2.1.foldl lN (0,0,0,0,0,Z,())
def zh4{k:Int}(h:1<=k/\k<=5):k=1\/k=2\/k=3\/k=4\/k=5:=by omega
def P1(e:ba.q)(q p:aC.q)(u:tf.q):(oY e ((),q,u,p,())).ok/\(oY e ((),q,u,p,())).get=((),q,u,lN p e,()):=by
 obtain⟨b,k,m,_⟩:=e;cases a:jA k 1 5;have d:lN p (b,k,m,())=p:=by unfold lN;rw[show jA (b,k,m,()).2.1 1 5=Y from a];rfl
 rw[d];exact aN a ⟨uT,rfl⟩;have c:=zry.1 a;have f:=zh4 c;have d:∀ z,(lN p (b,k,m,())=z)=((bif k==1 then (m,p.2)else bif k==2 then (p.1,I6.wrap (p.2.1+m),p.2.2)else bif k==3 then (p.1,p.2.1,p.2.2.1,I6.wrap (p.2.2.2.1+m),p.2.2.2.2)
 else bif k==4 then (p.1,p.2.1,p.2.2.1,p.2.2.2.1,p.2.2.2.2.1,Y,())else (p.1,p.2.1,p.2.2.1,p.2.2.2.1,p.2.2.2.2.1,Z,()):aC.q)=z):=λz=>by unfold lN;rw[show jA (b,k,m,()).2.1 1 5=Z from a];rfl
 refine aV a ?_;rcases f with rfl|rfl|rfl|rfl|rfl <;>
  exact aw (by first|exact(by decide:(0:Int)<=1/\(1:Int)<6)|exact(by decide:(0:Int)<=2/\(2:Int)<6)|exact(by decide:(0:Int)<=3/\(3:Int)<6)|exact(by decide:(0:Int)<=4/\(4:Int)<6)|exact(by decide:(0:Int)<=5/\(5:Int)<6)) (aw (by kernel_rfl) (aw (by simp[az]) ⟨uT,by rw[ueh];exact⟨rfl,by rw[eq_comm] ; rfl⟩⟩))
def qbs(q:aC.q)(u:tf.q):(l:List ba.q)->(p:aC.q)->ft oY l ((),q,u,p,())=((),q,u,l.foldl lN p,())
 |[],_=>rfl
 |e::l,p=>by show ft oY l (oY e ((),q,u,p,())).get=_;rw[(P1 e q p u).2];exact qbs q u l (lN p e)
def qbu(q:aC.q)(u:tf.q):(l:List ba.q)->(p:aC.q)->kQ oY l ((),q,u,p,())
 |[],_=>trivial
 |e::l,p=>⟨(P1 e q p u).1,by rw[(P1 e q p u).2];exact qbu q u l (lN p e)⟩
def qwg{g:aq.q}(h:bJ w F aq g v):((List.length (α:=ba.q) g.2.1:Nat):Int)<=9223372036854775807:=by
 have h1:List.length g.2.1<=maxLen:=(aG.wf h.2.2).2.1.1;unfold maxLen at h1;omega
def nP:Ct:=⟨[.d aq],[aC],λx=>(m9 x.1,()),λ_=>[]⟩
abbrev TJ:aC.q:=(0,0,0,0,0,Y,())
abbrev qdg:tf.q:=((),(),(),(),(),(),())
def qbt:ag prog 100 nP:=
 conv qvv _ _ (λw F x e b _=>by obtain⟨g,_⟩:=x;obtain⟨v,d,rfl,c,_⟩:=b;have a:=qwg c;refine aw ⟨rfl,ufc _,ub4 _,a⟩ (aw ?_ ⟨uT,?_⟩);exact qbu TJ qdg (List.drop 0 g.2.1) _;show((ft oY (List.drop 0 g.2.1) ((),TJ,qdg,(0,0,0,0,0,Z,()),())).2.2.2.1,())=(m9 g,());rw[ueg,qbs];rfl)
section
open Go.Shelf Go.Lib
def qzx:(prog.info? 71).map (λi=>(i.zero,i.size,i.bytes))=U (U (.agg #[.int .i64 0,.int .i64 0,.int .i64 0]),3,24):=by kernel_rfl
def qop:CloneOK prog 124 71 ba 24:=by
 refine⟨enters_of func124 (by kernel_rfl) rfl,λw n c A x O H f r i l m=>?_⟩;obtain⟨R,o,s,t,v⟩:=ufo qzx;have a:∀ (A:Option Addr) (n c:Nat),(binOp .eql 99 (.slice A n c) (.slice V 0 0)).run prog w=.ok (.bool A.isNone) w:=λA n c=>by have i:binOp .eql 99 (.slice A n c) (.slice V 0 0)=(do pure (.bool (<- Op.equal 99 (.slice A n c) (.slice V 0 0)))):=rfl;have G:Op.equal 99 (.slice A n c) (.slice V 0 0)=Op.equalIn (9999+1) 99 (.slice A n c) (.slice V 0 0):=rfl;rw[i,G];simp[NZ underlying99]
 go_enter func124,ntmps124
 cases A with
 |none=>
  have F:=H rfl;subst F;have Q:x=[]:=uab (by simpa using f);subst Q
  go_wp2_with (simp only[a])
  go_ret
  exact⟨_,rfl,⟨rfl,rfl,rfl,ufb _,λ_ _ _=>rfl⟩,ucs _ _ _ _⟩
 |some g=>
  have K:(w.alloc (.cells #[] 71)).ownsRow w.heap.size 71 3 (.slice (U ⟨w.heap.size,0,V⟩) 0 0) 0 []:=World.ownsRow_lit w #[] 0 (ufb _) (by unfold maxLen;omega) rfl;have b:∀ (j:Nat) u,x[j]?= U u->(w.alloc (.cells #[] 71)).cell? (g.add j)=U u:=λj u M=>by have h:=r g rfl j u M;have L:=block_lt_of_cell h;rw[ubd (qM w _ _ L)];exact h
  obtain⟨D,S,z,y,d,T⟩:=tk (P:=prog) (w:=w.alloc (.cells #[] 71)) (B:=w.heap.size) 99 99 71 R _ 3 underlying99 o s t rfl (by decide) _ 0 [] K (U g) n c x (λh=>by cases h) f (λE e=>by cases e;exact b) i (by rw[uey];exact l) (by rw[v,uey];exact m) (by simp);have p:∀ C,(Builtin.append_ #[99,99] C #[.slice (U ⟨w.heap.size,0,V⟩) 0 0,.slice (U g) n c]).run prog (w.alloc (.cells #[] 71))=.ok D S:=λC=>z;clear z
  go_wp2_with (first|(simp only[a];done)|simp only[a]|(at_builtin;refine Lib.wpList_append_run _ rfl _ _ _ _ rfl _ _ rfl rfl _ _ (p _) ?_))
  go_ret
  rw[uey,udn]at y;refine⟨D,rfl,⟨d.os,d.tape,d.output,uep (by simp) d.size,λk N _=>(d.block k (by simp;omega) (λe=>?_)).trans (qM w _ k N)⟩,y⟩;have:k=w.heap.size:=by simpa[Value.ownBlock]using e
  omega
end
def qgc:Cx:=nV [(100,nP),(157,wK),(255,E8)] [] [(124,.clone 71 ba 24)] (λ_ _ _ _=>none)
def qgd:CxOK prog qgc:=pE (cs:=[(100,nP),(157,wK),(255,E8)]) (ps:=[]) (rs:=[(124,.clone 71 ba 24)]) aH ⟨qbt,SN,zbm,uT⟩ trivial ⟨qop,uT⟩ (λ_ _ _ _ _ h=>(nomatch h))
def LL(x:ap [.d aq,.d ba]):Fr (aa [aq,i64]):=
 let h:=nP.f (x.1,());let c:=x.1.2.1;let g:=((x.1.1,c++[x.2.1],()),0,());let b:=((0,0,0,0,0,0,()),[],());let a:=bif x.2.1.2.1==2 then J (x.2.1.2.2.1>I6.wrap (1000000000000000-h.1.2.1))else Y;Jb (!(wK.f (x.2.1,())).1) (Jv (b,1,())) (Jb (J (((List.length c):Int)>=2000)) (Jv (b,2,())) (Jb (J (x.2.1.1<(E8.f (x.1,())).1)) (Jv (b,4,())) (Jb (h.1.2.2.2.2.2.1==(x.2.1.2.1==5)) (Jv (b,10,())) (Jb a (Jb a (Jv (b,5,())) (Jd (List.length c<=maxLen) (Jd (List.length c*24<=140737488355328) (Jd (List.length c + [x.2.1].length<=maxLen/\(List.length c + [x.2.1].length)*24<=140737488355328) (Jv g))))) (Jb (bif x.2.1.2.1==3 then J (x.2.1.2.2.1>I6.wrap (1000000000000000-h.1.2.2.2.1))else Y) (Jv (b,5,())) (Jd (List.length c<=maxLen) (Jd (List.length c*24<=140737488355328) (Jd (List.length c + [x.2.1].length<=maxLen/\(List.length c + [x.2.1].length)*24<=140737488355328) (Jv g)))))))))
def qt1:ag prog 245 (bg [.d aq,.d ba] [aq,i64] LL):=
 aT qgd f245
abbrev BJ:aq.q:=((0,0,0,0,0,0,()),[],())
def A8(g:aq.q)(a:ba.q):Bool:=
 (bif a.2.1==2 then J (a.2.2.1>I6.wrap (1000000000000000-(m9 g).2.1))else Y) || (bif a.2.1==3 then J (a.2.2.1>I6.wrap (1000000000000000-(m9 g).2.2.2.1))else Y)
def eX(g:aq.q)(a:ba.q):aq.q×Int:=
 bif !(lc a)then (BJ,1)else bif J (((List.length (α:=ba.q) g.2.1:Nat):Int)>=2000)then (BJ,2)else bif J (a.1<qb g)then (BJ,4)
  else bif (m9 g).2.2.2.2.2.1==(a.2.1==5)then (BJ,10)else bif A8 g a then (BJ,5)else ((g.1,g.2.1++[a],()),0)
def tw:Ct:=⟨[.d aq,.d ba],[aq,i64],λx=>((eX x.1 x.2.1).1,(eX x.1 x.2.1).2,()),λ_=>[]⟩
def qpr(g:aq.q)(a:ba.q):(LL (g,a,())).ok/\(LL (g,a,())).get=((eX g a).1,(eX g a).2,()):=by
 unfold eX;cases c:lc a;exact aV (by show(!(lc a))=Z;rw[c];rfl) ⟨uT,rfl⟩;refine aN (by show(!(lc a))=Y;rw[c];rfl) ?_;cases h:J (((List.length g.2.1:Nat):Int)>=2000)
 rotate_left
 exact aV rfl ⟨uT,rfl⟩;refine aN rfl ?_;have m:List.length g.2.1<2000:=by have:=uch h;omega
 have i:List.length g.2.1<=maxLen:=by unfold maxLen;omega
 have k:List.length g.2.1*24<=140737488355328:=by omega
 have l:List.length g.2.1 + [a].length<=maxLen/\(List.length (α:=ba.q) g.2.1 + [a].length)*24<=140737488355328:=by rw[ua7];exact⟨by unfold maxLen;omega,by omega⟩
 cases d:J (a.1<qb g)
 rotate_left
 exact aV d ⟨uT,rfl⟩;refine aN d ?_;cases e:(m9 g).2.2.2.2.2.1==(a.2.1==5)
 rotate_left
 exact aV e ⟨uT,rfl⟩;refine aN e ?_;unfold A8;cases b:(bif a.2.1==2 then J (a.2.2.1>I6.wrap (1000000000000000-(m9 g).2.1))else Y)
 rotate_left
 exact aV b (aV (by first|rfl|exact b) ⟨uT,rfl⟩);refine aN b ?_;cases f:(bif a.2.1==3 then J (a.2.2.1>I6.wrap (1000000000000000-(m9 g).2.2.2.1))else Y)
 rotate_left
 exact aV f ⟨uT,rfl⟩;exact aN f (aw i (aw k (aw l ⟨uT,rfl⟩)))
def T4:ag prog 245 tw:=conv qt1 _ _ (λ_ _ x _ _ _=>qpr x.1 x.2.1)
def X0:dF.q:=((1,101,()),(0,36500,0,0,()),[(1,1000,1000,0,10000,())],())
def zid(h:aD.q):(bV h).Pairwise λx y=>kz h x<=kz h y:=
 (oT (key:=kz h) (lt:=NG h) (λ_ _ _ _=>rfl)).1
def qn5(h:aD.q):(rg h).Pairwise λx y=>x.2.1<=y.2.1:=by unfold rg;rw[List.pairwise_map];exact zid h
def qnw{h:aD.q}{i:Int}(a:0<=i/\i<((aO h).length:Int)):cw h i∈aO h:=by unfold cw;exact eT (by omega)
def KC{h:aD.q}{c:ay.q}(a:c∈rg h):c∈aO h:=by obtain⟨i,b,rfl⟩:=ue8.1 a;exact qnw (Cp b)
structure HistOk (h:aD.q):Prop where
 terms:i9 h.2.2.1=true
 a1:1<=h.2.2.1.1.1
 ab:h.2.2.1.1.1<h.2.2.1.1.2.1
 b1:h.2.2.1.1.2.1<=292195
 wide:h.2.2.1.1.2.1-h.2.2.1.1.1<=1100
 chs:∀ c∈aO h,fk c=true/\h.2.2.1.1.1<=c.2.1/\c.2.1<h.2.2.1.1.2.1
def qzj{h:aD.q}:lx h=Z↔i9 h.2.2.1=Z/\h.2.2.2.1.length<=2000/\∀ c∈aO h,fk c=Z/\eH h.2.2.1.1.1 h.2.2.1.1.2.1 c.2.1=true:=by unfold lx;simp only[udc,ucu,uc8,and_assoc]
def zp8{t:dF.q}(h:i9 t=Z):1<=t.1.1/\t.1.1<t.1.2.1/\t.1.2.1<=292195/\t.1.2.1-t.1.1<=1100:=by obtain⟨⟨a,b,_⟩,r,i,_⟩:=t;unfold i9 at h;rw[udc,udc]at h;obtain⟨c,d,_⟩:=h;obtain⟨e,f,g⟩:=oe.1 c;exact⟨e,f,g,ucx d⟩
def Wv{h:aD.q}(f:lx h=Z):HistOk h:=by obtain⟨a,_,d⟩:=qzj.1 f;obtain⟨g,i,k,l⟩:=zp8 a;refine⟨a,g,i,k,l,λc e=>?_⟩;obtain⟨m,n⟩:=d c e;have b:=ucx n;exact⟨m,b.2.2.1,b.2.2.2⟩
def qp2{h:aD.q}(f:lx h=Z):dv (qbq h) h.2.2.1.1.2.1 h.2.2.1.1.1 (ez h):=by
 have e:=Wv f;exact VE (k0:=(Z,h.2.2.1.2.1,h.2.2.1.2.2.1)) (a:=h.2.2.1.1.1) (b:=h.2.2.1.1.2.1) (λc d=>ueu (e.chs c (KC d)).2.2) (rg h) [] rfl (qn5 h) (Oe h) [] (λc d=>(by cases d)) (λc d=>(e.chs c (KC d)).2.1)
  (ueu e.ab) rfl rfl rfl
def cA.filter{a:α->Int}{l:List α}(h:cA a l)(p:α->Bool):cA a (l.filter p):=List.Pairwise.sublist List.filter_sublist h
def hP(p:List Int×List Int)(d:Int):Int:=eG (p.1,p.2,()) d
def zxk(l m:List Int)(d:Int):xk (l++m) d=xk l d+xk m d:=by unfold xk;exact List.countP_append
def zxl(l:List Int)(d:Int):xk l d<=l.length:=by unfold xk;exact List.countP_le_length
def zvj{d:Int}(h:∀ x∈l,x<=d):xk l d=l.length:=by unfold xk;exact List.countP_eq_length.2 λx a=>ueb (h x a)
def zxm(a d:Int):xk [a] d=if a<=d then 1 else 0:=by unfold xk;by_cases h:a<=d;rw[ufw h,List.countP_eq_length.2 (λx b=>by rw[ucf.1 b];exact ueb h)];rfl;rw[ufx h];exact List.countP_eq_zero.2 (λx b c=>by rw[ucf.1 b]at c;exact h (ucx c))
def Good.all{p:List Int×List Int}{m:Int}(h:Good p m):∀ x∈p.1,x<=m:=by
 intro x c;have e:=(OU h.up h.len).1;have d:=h.le;have a:p.1 ≠ []:=List.ne_nil_of_mem c;rw[List.getLast?_eq_some_getLast a]at d;have b:p.1.getLast a<=m:=d;have f:p.1=p.1.dropLast++[p.1.getLast a]:=(List.dropLast_concat_getLast a).symm;rw[f]at c e;rcases udt.1 c with c|c
 have:=(ubp.1 e).2.2 x c _ (ucf.2 rfl);exact ueu (Int.lt_of_lt_of_le this b);rw[ucf.1 c];exact b
def zwl{r:List Int}{v d:Int}(a:l.length=r.length)(e:∀ x∈l,x<day):hP (l++[day],r++[v]) d=if day<=d then v else hP (l,r) d:=by
 unfold hP eG;show(match xk (l++[day]) d with|0=>(0:Int)|k+1=>(r++[v]).getD k 0)=_;rw[zxk,zxm];by_cases h:day<=d;rw[ufw h,ufw h,zvj (λx f=>ue5 (ueu (e x f)) h)];show(r++[v]).getD l.length 0=v;rw[uah,uae (by omega),a];simp;rw[ufx h,ufx h];show(match xk l d+0 with|0=>(0:Int)|k+1=>(r++[v]).getD k 0)=(match xk l d with|0=>(0:Int)|k+1=>r.getD k 0);rw[uez];have c:=zxl l d;cases b:xk l d with
 |zero=>rfl
 |succ k=>rw[b]at c;show(r++[v]).getD k 0=r.getD k 0;rw[uah,uah,uaj (by omega)]
def zzi{p:List Int×List Int}{m d:Int}(h:Good p m)(b:m<=d):hP p d=p.2.getLast?.getD 0:=by
 unfold hP eG;show(match xk p.1 d with|0=>(0:Int)|k+1=>p.2.getD k 0)=_;rw[zvj (λx c=>ue5 (h.all x c) b),h.len];cases a:p.2.length with
 |zero=>have:p.2=[]:=uaz.1 a;rw[this];rfl
 |succ k=>show p.2.getD k 0=_;rw[uao,a,uah];rfl
def zwk{q:List Int×List Int}{m v d:Int}(b:Good q m)(c:m<day)(f:d<=292194):hP (if v≠q.2.getLast?.getD 0/\day<=292194 then (q.1++[day],q.2++[v])else q) d=if day<=d then v else hP q d:=by by_cases a:v≠q.2.getLast?.getD 0/\day<=292194;rw[ufw a];exact zwl b.len (λx i=>Int.lt_of_le_of_lt (b.all x i) c);rw[ufx a];by_cases h:day<=d;rw[ufw h,zzi b (ue5 (ueu c) h)];apply Classical.byContradiction;intro g;exact a ⟨λe=>g e.symm,ue5 h f⟩;rw[ufx h]
def zwi{p:List Int×List Int}{m v d:Int}(h:Good p m)(u:m<=day)(t:1<=day)(k:d<=292194):hP (iC p day v) d=if day<=d then v else hP p d:=by
 unfold iC;by_cases c:p.1.getLast?= U day;have i:=(h.pop c).1;simp only[c,if_true];have:=zwk (v:=v) i (show day-1<day by omega) k;refine this.trans ?_;by_cases b:day<=d;rw[ufw b,ufw b];rw[ufx b,ufx b];have n:=VB c;have a:p.2 ≠ []:=by intro r;have e:=h.len;rw[r]at e;rw[uaz.1 e]at c;cases c
 have o:p.2=p.2.dropLast++[p.2.getLast a]:=(List.dropLast_concat_getLast a).symm;have:hP p d=hP (p.1.dropLast++[day],p.2.dropLast++[p.2.getLast a]) d:=by rw[<- n,<- o]
 rw[this,zwl i.len (λx b=>by have:=i.all x b;omega),ufx b];simp only[c,uft];have g:p.1.getLast?.getD 0<=day-1:=by
  have f:=h.le;cases b:p.1.getLast? with
  |none=>show(0:Int)<=_;omega
  |some x=>rw[b]at f c;have a:x≠day:=λs=>c (by rw[s]);have l:x<=m:=f;show x<=_;omega
 exact zwk (v:=v) (m:=day-1) ⟨h.len,h.up,g,h.pos⟩ (by omega) k
def zwj{p:List Int×List Int}{s:aF.q}{e d:Int}(h:Good p e)(l:1<=e)(m:pT s e=Z)(f:d<=292194):
  hP (addS p s) d=if s.1.2.1<=d then 0 else if s.1.1<=d then s.2.2.2.2.1 else hP p d:=by
 obtain⟨a,c,o,i,k⟩:=V9.1 m;have b:1<=s.1.1:=ue5 l a;have n:1<=s.1.2.1:=ue5 b (ueu c);have g:=h.add a b ⟨i,k⟩;unfold addS;rw[zwi g (ueu c) n f,zwi h a b f]
def QI:List aF.q->Int->Int
 |[],_=>0
 |s::l,d=>if s.1.1<=d/\d<s.1.2.1 then s.2.2.2.2.1 else QI l d
def zvk:{l:List aF.q} -> {e:Int} -> {p:List Int×List Int} -> {q:Int×(List Int×List Int)}->tJ l e p=U q->(d:Int)->d<e->QI l d=0
 |[],_,_,_,_,_,_=>rfl
 |s::l,e,p,q,b,d,g=>by simp only[tJ]at b;split at b;rename_i i;obtain⟨c,f,_⟩:=V9.1 i;unfold QI;have a:d<s.1.1:=Int.lt_of_lt_of_le g c;rw[ufx (λh=>absurd h.1 (ufl.2 a))];exact zvk b d (ue2 a f);cases b
def zvl:{l:List aF.q} -> {e:Int} -> {p:List Int×List Int} -> {q:Int×(List Int×List Int)}->Good p e->1<=e->(∀ d,e<=d->d<=292194->hP p d=0)->tJ l e p=U q->(d:Int)->d<=292194->hP q.2 d=if d<e then hP p d else QI l d
 |[],e,p,q,_,_,n,a,d,f=>by simp only[tJ,ucl]at a;subst a;by_cases h:d<e;rw[ufw h];rw[ufx h];exact n d (ufm.1 h) f
 |s::l,e,p,q,h,i,n,a,d,f=>by
  have v:=a;simp only[tJ]at a;split at a
  ·rename_i k;obtain⟨o,r,_⟩:=V9.1 k;have w:1<=s.1.2.1:=ue5 (ue5 i o) (ueu r);have x:=zvl (h.addS i k) w (λd t u=>by rw[zwj h i k u,ufw t]) a d f;rw[x,zwj h i k f];by_cases b:d<s.1.2.1;rw[ufw b,ufx (ufl.2 b)];by_cases c:s.1.1<=d;rw[ufw c,ufx (ufm.2 (ue5 o c))];unfold QI;rw[ufw ⟨c,b⟩];rw[ufx c];by_cases m:d<e;rw[ufw m];rw[ufx m,n d (ufm.1 m) f];unfold QI;rw[ufx (λg=>c g.1)];exact(zvk a d b).symm
   ·have c:¬ d<e:=λg=>b (Int.lt_of_lt_of_le g (ue5 o (ueu r)));rw[ufx b,ufx c]
    conv=>rhs;unfold QI
    rw[ufx (λg=>b g.2)]
  cases a
def zzh{l:List aF.q}(h:(iY l).isNone=Y){d:Int}(b:1<=d)(c:d<=292194):eG (cB l) d=QI l d:=by
 unfold cB;unfold iY at *;split at h;rename_i e;rw[ufw e];rw[TF]at h |-;cases a:tJ l 1 ([],[])with
 |none=>rw[a]at h;cases h
 |some q=>have:=zvl qyv (by decide) (λd _ _=>rfl) a d c;rw[ufx (ufm.2 b)]at this;exact this
 cases h
def ztq(v:aU.q)(k:gb):Int:=if k.1=Z then (zS v k.2.1 k.2.2).1 else 0
def zyw(v:aU.q){s:aF.q}(a:s.2.2.2.2.1=(0:Int)):(fW v s).2.2.2.2.1=ztq v (iu s):=by unfold fW ztq;have e:(iu s).1=s.2.1:=rfl;rw[e];by_cases h:s.2.1=Z;rw[ufw h,ufw h];rfl;rw[ufx h,ufx h];exact a
def zyx(v:aU.q)(s:aF.q):(fW v s).1=s.1:=by unfold fW;split<;>rfl
def zwc(v:aU.q){k:Int->gb}{b:Int}:{a:Int} -> {l:List aF.q}->dv k b a l->(d:Int)->QI (l.map (fW v)) d=if a<=d/\d<b then ztq v (k d)else 0
 |a,[],h,d=>by have m:a=b:=h;subst m;rw[ufx (λc=>absurd (Int.lt_of_le_of_lt c.1 c.2) (Int.lt_irrefl _))];rfl
 |a,s::l,h,d=>by obtain⟨n,o,p,r,w,i⟩:=h;have u:=zwc v i d;have t:=i.le;show(if (fW v s).1.1<=d/\d<(fW v s).1.2.1 then (fW v s).2.2.2.2.1 else QI (l.map (fW v)) d)=_;rw[(zyx v s),zyw v p,u,n];by_cases e:d<s.1.2.1;by_cases f:a<=d;rw[ufw ⟨f,e⟩,ufw ⟨f,Int.lt_of_lt_of_le e t⟩,r d f e];rw[ufx (λc=>f c.1),ufx (λc=>absurd e (ufm.2 c.1)),ufx (λc=>f c.1)];rw[ufx (λc=>e c.2)];by_cases g:d<b;rw[ufw ⟨ufm.1 e,g⟩,ufw ⟨ue5 (ueu o) (ufm.1 e),g⟩];rw[ufx (λc=>g c.2),ufx (λc=>g c.2)]
def qdr{l:List aF.q}(h:(eq l 292195).2=0):(iY l).isNone=Y/\Pos (cB l)/\Sd (cB l) 292195<=4000000000000000000/\∀ d,eq l d=((Sd (cB l) d+182)/365,0):=by
 have c:(iY l).isNone=false:=by
  cases e:(iY l).isNone with
  |false=>rfl
  |true=>unfold eq at h;rw[ufw e]at h;cases h
 have b:=TH c;have f:∀ d,eq l d=cu (cB l) d:=λd=>ufx (by rw[c];decide);have a:Sd (cB l) 292195<=4000000000000000000:=by apply Classical.byContradiction;intro e;rw[f,PZ b,ufx e]at h;cases h
 refine⟨c,b,a,λd=>?_⟩;rw[f,PZ b,ufw (ue5 (qj1 b d) a)]
def zve{d:Int}(a:1<=d)(b:d<=292195):cP d=d:=by unfold cP;rw[ufx (show ¬ d<1 by omega),ufx (by omega)]
def zw3(f:bG.q){b:Int}(c:1<=a)(e:a<=b)(d:b<=292195):Sd f b=Sd f a+ed f a (b-a).toNat:=by unfold Sd;rw[zve (by omega) d,zve c (by omega),show(b-1).toNat=(a-1).toNat+(b-a).toNat by omega,Lk];congr 2;omega
def qrn(l:List aF.q)(d:Int):Int:=(Sd (cB l) d+182)/365
def qsy{h:aD.q}{t:bh.q}(a:pP h t=Z):cj h/\bf t:=by unfold pP at a;simp only[udc,ucu,uc8]at a;obtain⟨⟨g,i,k⟩,b,d⟩:=a;refine⟨⟨by show h.2.2.2.1.length<=500000;omega,by omega,λc e=>?_⟩,by omega,λv f=>?_⟩;have:c.2.2.2.2.1.length<=50:=ucx (b c e);omega;have:=d v f;unfold xz at this;simp only[udc,ucu]at this;exact⟨by omega,by omega,by omega⟩
def zR(h:aD.q)(t:bh.q):aU.q×Int:=cE h.2.2.1.1.1 t.1.reverse
def zg3{h:aD.q}{t:bh.q}(a:(c9 h t).2=0):lx h=Z/\(zR h t).2=0/\dJ (zR h t).1 (ez h)=0/\(c9 h t).1=(ez h).map (fW (zR h t).1):=by unfold c9 at a |-;by_cases d:lx h=Z;rw[ufw d]at a |-;by_cases b:(cE h.2.2.1.1.1 t.1.reverse).2=0;rw[ufw b]at a |-;by_cases c:dJ (cE h.2.2.1.1.1 t.1.reverse).1 (ez h)=0;rw[ufw c];exact⟨d,b,c,rfl⟩;rw[ufx c]at a;exact absurd a c;rw[ufx b]at a;exact absurd a b;rw[ufx d]at a;cases a
def pm(h:aD.q)(c:ay.q):aD.q:=(h.1,h.2.1,h.2.2.1,([]++h.2.2.2.1)++[c],())
def H4(n m:Nat):Prop:=n+m<=maxLen/\(n+m)*prog.types[67].bytes<=140737488355328
def Ti:prog.types[67].bytes<=1000:=by decide
def dv.mem{g:Int->gb}{b:Int}:{a:Int} -> {l:List aF.q}->dv g b a l->∀ s∈l,a<=s.1.1/\s.1.1<s.1.2.1/\s.1.2.1<=b/\∀ d,s.1.1<=d->d<s.1.2.1->iu s=g d
 |_,[],_,_,c=>by cases c
 |a,t::l,h,s,c=>by
  obtain⟨i,e,o,k,p,f⟩:=h;rcases uej.1 c with rfl|c
  rw[i];exact⟨ufc _,e,f.le,k⟩;obtain⟨m,n⟩:=dv.mem f s c;exact⟨ue5 (ueu e) m,n⟩
def qfm:Cx:=cx [(145,mK ar)] []
def qfn:CxOK prog qfm:=aQ aH ⟨AW,uT⟩ trivial
def EA:Ct:=⟨[.d dF],[dF],λx=>(x.1,()),λx=>[x.1.2.2.1.length<=1000000]⟩
def Zd:ag prog 146 EA:=
 dz (aT qfn f146 (fr:=λx=>Jd (x.1.2.2.1.length<=1000000) (Jv (x.1,()))) (ps:=[.d dF])) _ _
  (λ_ _ _ _ _ a=>aw a ⟨uT,rfl⟩)
def iy:aD.q:=(0,0,((0,0,()),(0,0,0,0,()),[],()),[],())
def yc(h:aD.q):Int:=if (aO h).length=0 then h.2.1 else ((aO h).getD ((aO h).length-1) ay.j).1
def kV(h:aD.q)(c:ay.q):aD.q×Int:=
 if fk c=Z/\eH h.2.2.1.1.1 h.2.2.1.1.2.1 c.2.1=Z then
  (if c.1<yc h then (iy,4)else if 2000<=(aO h).length then (iy,2)else (pm h c,0))
 else (iy,1)
def SM:Ct:=⟨[.d aD,.d ay],[aD,i64],λx=>((kV x.1 x.2.1).1,(kV x.1 x.2.1).2,()),λx=>[cj x.1]⟩
def qfo:Cx:=cx [(145,mK ar),(130,qS),(96,iD),(146,EA)] []
def qfp:CxOK prog qfo:=aQ aH ⟨AW,KA,rC,Zd,uT⟩ trivial
def FV(h:aD.q)(c:ay.q)(last:Int):Fr (aa [aD,i64]):=
 let b:=(none:Option Int);let d:=List.drop (b.getD 0).toNat (aO h);let a:=((aO h).length:Int);Jb (bif !(qS.f (c,())).1 then Z else !(iD.f (h.2.2.1.1,c.2.1,())).1) (Jv (iy,1,()))
  (Jb (J (c.1<last)) (Jv (iy,4,()))
   (Jb (J (a>=2000)) (Jv (iy,2,()))
    (Jd (c.2.2.2.2.1.length<=1000000) (Jd (h.2.2.1.2.2.1.length<=1000000)
     (Jd (0<=b.getD 0/\b.getD 0<=a/\a<=a/\a=a)
      (Jd (0 < [c].length/\H4 (List.take (a-b.getD 0).toNat d).length [c].length)
       (Jv ((h.1,h.2.1,h.2.2.1,List.take (a-b.getD 0).toNat d++[c],()),0,()))))))))
def qxb(x:ap [.d aD,.d ay]):Fr (aa [aD,i64]):=
 let a:=((aO x.1).length:Int);Jb (J (a>0))
  (Jd (0<=I6.wrap (a-1)/\I6.wrap (a-1)<a)
   (FV x.1 x.2.1 (List.getD (aO x.1) (I6.wrap (a-1)).toNat ay.j).1))
  (FV x.1 x.2.1 x.1.2.1)
def zj3:ag prog 81 (bg [.d aD,.d ay] [aD,i64] qxb):=
 aT qfp f81
def zlp(a:n<=2000):H4 n 1:=by refine⟨by unfold maxLen;omega,uep (uef (show n+1<=2001 by omega) Ti) (by decide)⟩
def Su{a b:Bool}:(bif !a then Z else !b)=Y↔a=Z/\b=true:=by cases a<;>cases b<;>simp
def zpy(l:List ay.q):List.take ((l.length:Int)-(none:Option Int).getD 0).toNat (List.drop ((none:Option Int).getD 0).toNat l)=l:=by show List.take ((l.length:Int)-0).toNat l=l;rw[ues,uc0,List.take_length]
def qP{a b:Bool}(h:(bif a then b else Y)=Z):a=Z/\b=true:=by
 cases a with
 |false=>cases h
 |true=>exact⟨rfl,h⟩
def N9(h:((n:Int)==0)=Z):n<=1000000:=by have:(n:Int)=0:=ufr h;omega
def Th{c:ay.q}(h:fk c=Z):c.2.2.2.2.1.length<=1000000:=by unfold fk G8 at h;rw[udc,udc]at h;have a:=h.2.2;split at a;exact N9 (qP (qP a).1).2;split at a;have b:ky c.2.2.2.2.1=true:=(qP (qP a).1).1;unfold ky at b;rw[udc]at b;have:=ucx b.1;exact uep this.2 (by decide);split at a;exact N9 (qP (qP a).1).2;split at a;exact N9 (qP (qP a).1).2;cases a
def Vt{h:aD.q}{c:ay.q}{last:Int}(k:last=yc h)(g:cj h):
  (FV h c last).ok/\(FV h c last).get=((kV h c).1,(kV h c).2,()):=by
 subst k;unfold kV;cases d:(bif !(qS.f (c,())).1 then Z else !(iD.f (h.2.2.1.1,c.2.1,())).1)with
 |true=>
  refine aV d ⟨uT,?_⟩;have a:¬ (fk c=Z/\eH h.2.2.1.1.1 h.2.2.1.1.2.1 c.2.1=Z):=λi=>by have b:(bif !fk c then Z else !eH h.2.2.1.1.1 h.2.2.1.1.2.1 c.2.1)=true:=d;rw[Su.2 i]at b;cases b
  rw[ufx a];rfl
 |false=>refine aN d ?_;have a:fk c=Z/\eH h.2.2.1.1.1 h.2.2.1.1.2.1 c.2.1=true:=Su.1 d;rw[ufw a];by_cases b:c.1<yc h;rw[ufw b];exact aV (ueb b) ⟨uT,rfl⟩;rw[ufx b];refine aN (udw b) ?_;by_cases e:2000<=(aO h).length;rw[ufw e];exact aV (ueb (by omega)) ⟨uT,rfl⟩;rw[ufx e];refine aN (udw (by omega)) (aw (Th a.1) (aw g.2.1 (aw ⟨ufc _,ub4 _,ufc _,rfl⟩ ?_)));rw[zpy];have l:=zlp (n:=(aO h).length) (by omega);refine aw ⟨udv,l⟩ ⟨uT,?_⟩;rfl
def zj2:ag prog 81 SM:=
 dz zj3 _ _ (λw F x l f a=>by obtain⟨h,c,_⟩:=x;obtain⟨v,k,rfl,g,_⟩:=f;have e:((aO h).length:Int)<=9223372036854775807:=yf (aG.wf g.2.2).2.2.2.1.1;have d:=a;by_cases b:(aO h).length=0;refine aN (udw (by show ¬ ((aO h).length:Int)>0;omega)) (Vt ?_ d);unfold yc;rw[ufw b];have i:I6.wrap (((aO h).length:Int)-1)=((aO h).length:Int)-1:=cV (by omega);refine aV (ueb (by show((aO h).length:Int)>0;omega)) (aw ?_ (Vt ?_ d));show 0<=I6.wrap (((aO h).length:Int)-1)/\I6.wrap (((aO h).length:Int)-1)<((aO h).length:Int);omega;show(List.getD (aO h) (I6.wrap (((aO h).length:Int)-1)).toNat ay.j).1=yc h;unfold yc;rw[ufx b,i,show(((aO h).length:Int)-1).toNat=(aO h).length-1 by omega])
section
open Go.Shelf
attribute [local go_sem] Oper.semAt_some
def qy7(w:World)(m:Nat)(z:Array Value)(g:z.size=9)(c:m<=maxLen)(e:TypeId):
  w.grownBy ((w.alloc (.cells (Builtin.zeroCells z m++Builtin.zeroCells z (grownCap w m 0 e-m)) e)).drew) V /\
   ((w.alloc (.cells (Builtin.zeroCells z m++Builtin.zeroCells z (grownCap w m 0 e-m)) e)).drew).ownsRow w.heap.size e 9 (.slice (U ⟨w.heap.size,0,V⟩) 0 (grownCap w m 0 e)) 0 []:=by
 have f:=grownCap_ge w m 0 e;have a:grownCap w m 0 e<=maxLen:=ub7 w m 0 e c;refine⟨⟨rfl,rfl,rfl,by simp,λb d _=>qM w.drew _ b d⟩,rfl,.inr ⟨w.heap.size,_,_,rfl,ufb _,ud8 w.drew _,ufh _,a,?_,?_⟩⟩;simp only[ucp,size_zeroCells,g,<- ufd];congr 1;omega;rfl
def qy2:prog.types[67].bytes=88:=by decide
def zn6(m:Nat)(h:0<m):Builtin.nextslicecap m 0=m:=by unfold Builtin.nextslicecap;rw[ufw (by omega)]
def qy5(n:Nat)(m:Nat)(b:m<=maxLen)(d:m*88<=140737488355328)(w:World):
  CallsIn Fence.wide n prog 186 #[.slice V 0 0,.int .i64 m] w λe w'=>∃ v,e=.returned v/\w.grownBy w' V/\w'.ownsRow w.heap.size 67 9 v 0 []:=by
 have a:t67.bytes=88:=qy2;refine callsIn_of_wp func186 rfl trivial ?_ rfl;simp only[ntmps186,ucq,uc9,udm,Nat.reduceAdd,Nat.reduceSub,ubn,ubo,ucy,ubx,udn,uc4]
 gi_wp2
 all_goals first
  |(exfalso;simp only[a]at *;omega)
  |(exfalso;rename_i c _ _ _ _ _ ; rw[zn6 _ (by omega),a]at *;omega)
  |(go_ret;exact⟨_,rfl,ub8 _ _,ucs _ _ _ _⟩)
  |(go_ret;exact⟨_,rfl,qy7 w m _ rfl b _⟩)
def qy3:GrowOK prog 186 67 ay 88:=
 ⟨enters (fn:=f186) (by kernel_rfl) rfl rfl,λw n a b=>(callsIn_wide.1 (qy5 1 n a b w))⟩
end
abbrev rK:Ty:=.sl (.sl ay)
def CCc:Cx:=dI [] [] (Nc 186 67 ay 88)
def IF:CxOK prog CCc:=dP (cs:=[]) (ps:=[]) aH trivial trivial (qy4 qy3)
abbrev qh:Pt:=⟨36,0,⟨[(0,.d rK),(9,.d rK),(10,.d i64),(11,.d i64),(3,.d i64)],[]⟩,⟨[(0,.d rK),(3,.d i64)],[]⟩,⟨[],[]⟩⟩
abbrev qj:Pt:=⟨36,2,⟨[(25,.d rK),(26,.d i64),(27,.d i64)],[.o 6 67 ay]⟩,⟨[],[.o 6 67 ay]⟩,⟨[],[]⟩⟩
def Mw(x:qh.M.X):Fr qh.Out:=
 let a:List (List ay.q):=x.1.1;let l:List (List ay.q):=x.1.2.1;let n:Int:=x.1.2.2.1;let i:Int:=x.1.2.2.2.1;let s:Int:=x.1.2.2.2.2.1
 Jb (J (i<n))
  (Jd (0<=i/\i<(l.length:Int))
   (Jb (J (I6.wrap (s+((List.length (α:=ay.q) (l.getD i.toNat []):Nat):Int))<0)) (Jd False (Jv (Rd.back ((),()))))
    (Jv (Rd.next ((a,l,n,I6.wrap (i+1),I6.wrap (s+((List.length (α:=ay.q) (l.getD i.toNat []):Nat):Int)),()),())))))
  (Jv (Rd.out ((a,s,()),())))
def zmm:af prog (au f127 0) qh.M qh Mw:=
 ep IF
def Mx(x:qj.M.X):Fr qj.Out:=
 let l:List (List ay.q):=x.1.1;let n:Int:=x.1.2.1;let i:Int:=x.1.2.2.1;let o:List ay.q:=x.2.1
 Jb (J (i<n))
  (Jd (0<=i/\i<(l.length:Int))
   (Jd (H4 o.length (List.length (α:=ay.q) (l.getD i.toNat [])))
    (Jv (Rd.next ((l,n,I6.wrap (i+1),()),(o++l.getD i.toNat [],()))))))
  (Jv (Rd.out ((),(o,()))))
def zmn:af prog (au f127 1) qj.M qj Mx:=
 ep IF
structure InvCc1 (l:List (List ay.q)) (n i s:Int):Prop where
 i0:0<=i
 il:i<=n
 nl:n=l.length
 big:(l.length:Int)<=9223372036854775807
 few:l.flatten.length<=1000000
 s0:s=((l.take i.toNat).flatten.length:Nat)
def Rf(x:qh.M.X):Fr qh.Out:=Jd (x.1.1=x.1.2.1/\InvCc1 x.1.2.1 x.1.2.2.1 x.1.2.2.2.1 x.1.2.2.2.2.1) (Jv (Rd.out ((x.1.1,((List.flatten (α:=ay.q) x.1.2.1).length:Int),()),())))
def qcm(l:List (List ay.q)){k:Nat}(a:k<l.length):(l.take (k+1)).flatten=(l.take k).flatten++l.getD k []:=by rw[List.take_add_one,List.flatten_append,uaq a,uah,uaq a];simp
def qcn(l:List (List ay.q))(k:Nat):(l.take k).flatten.length<=l.flatten.length:=by
 conv=>rhs;rw[<- uba k l]
 rw[List.flatten_append,ub6];omega
def zbw (a l:List (List ay.q)) (n i s:Int) (c:a=l/\InvCc1 l n i s) (Q:qh.Out->Prop) (m:Q (Rd.out ((a,(l.flatten.length:Int),()),()))):(Mw ((a,l,n,i,s,()),())).s7 λ
   |.next b=>(b.1.1=b.1.2.1/\InvCc1 b.1.2.1 b.1.2.2.1 b.1.2.2.2.1 b.1.2.2.2.2.1)/\(b.1.2.2.1-b.1.2.2.2.1).toNat<(n-i).toNat/\(Rf b).s7 Q
   |.out y=>Q (.out y)
   |.back z=>Q (.back z)
   |.pan p=>Q (.pan p):=by
 obtain⟨rfl,B,C,o,r,t,e⟩:=c;obtain⟨k,rfl⟩:∃ k:Nat,i=k:=⟨i.toNat,by omega⟩;subst o;dsimp only[Mw,Fr.s7];rw[uc0]at e |-;refine⟨λf=>?_,λf=>?_⟩;have h:k<a.length:=by have:(k:Int)<(a.length:Int):=ucx f;omega
 have u:=qcm a h;have v:=qcn a (k+1);have d:=ufu List.length u;rw[ub6]at d;have x:I6.wrap ((k:Int)+1)=((k+1:Nat):Int):=by rw[cV (by omega)];omega
 have A:I6.wrap (s+((a.getD k []).length:Int))=(((a.take (k+1)).flatten.length:Nat):Int):=by rw[cV (by omega)];omega
 rw[x,A];refine⟨⟨by omega,by omega⟩,λw=>?_,λ_=>?_⟩;have:((((a.take (k+1)).flatten.length:Nat):Int)<0):=ucx w;omega;have g:InvCc1 a a.length ((k+1:Nat):Int) (((a.take (k+1)).flatten.length:Nat):Int):=⟨by omega,by omega,rfl,r,t,by rw[uc0]⟩;exact⟨⟨rfl,g⟩,by omega,⟨rfl,g⟩,m⟩;have h:¬ (k:Int)<(a.length:Int):=uch f;rw[ua3 (by omega)]at e;rw[e];exact m
def zc5:af prog (.loop (au f127 0)) qh.M qh Rf:=by refine af.loop (n:=36) (id:=0) zmm (inv:=λx=>x.1.1=x.1.2.1/\InvCc1 x.1.2.1 x.1.2.2.1 x.1.2.2.2.1 x.1.2.2.2.2.1) (μ:=λx=>(x.1.2.2.1-x.1.2.2.2.1).toNat) ?_ (λx Q h=>h.1);rintro⟨⟨c,l,n,i,s,_⟩,_⟩ a Q b;exact zbw c l n i s a Q b.2
structure InvCc2 (l:List (List ay.q)) (n i:Int) (o:List ay.q):Prop where
 i0:0<=i
 il:i<=n
 nl:n=l.length
 big:(l.length:Int)<=9223372036854775807
 few:l.flatten.length<=1000000
 o0:o=(l.take i.toNat).flatten
def Rg(x:qj.M.X):Fr qj.Out:=Jd (InvCc2 x.1.1 x.1.2.1 x.1.2.2.1 x.2.1) (Jv (Rd.out ((),(List.flatten (α:=ay.q) x.1.1,()))))
def zlq(h:n+m<=1000000):H4 n m:=by refine⟨by unfold maxLen;omega,uep (uef h Ti) (by decide)⟩
def zbx (l:List (List ay.q)) (n i:Int) (o:List ay.q) (b:InvCc2 l n i o) (Q:qj.Out->Prop) (m:Q (Rd.out ((),(l.flatten,())))):(Mx ((l,n,i,()),(o,()))).s7 λ
   |.next a=>InvCc2 a.1.1 a.1.2.1 a.1.2.2.1 a.2.1/\(a.1.2.1-a.1.2.2.1).toNat<(n-i).toNat/\(Rg a).s7 Q
   |.out y=>Q (.out y)
   |.back z=>Q (.back z)
   |.pan p=>Q (.pan p):=by
 obtain⟨w,x,r,s,t,e⟩:=b;obtain⟨k,rfl⟩:∃ k:Nat,i=k:=⟨i.toNat,by omega⟩;subst r;dsimp only[Mx,Fr.s7];rw[uc0]at e |-;subst e;refine⟨λd=>?_,λd=>?_⟩;have h:k<l.length:=by have:(k:Int)<(l.length:Int):=ucx d;omega
 have g:=qcm l h;have u:=qcn l (k+1);have c:=ufu List.length g;rw[ub6]at c;have v:I6.wrap ((k:Int)+1)=((k+1:Nat):Int):=by rw[cV (by omega)];omega
 rw[v,<- g];have f:InvCc2 l l.length ((k+1:Nat):Int) (l.take (k+1)).flatten:=⟨by omega,by omega,rfl,s,t,by rw[uc0]⟩;exact⟨⟨by omega,by omega⟩,zlq (by omega),f,by omega,f,m⟩;have h:¬ (k:Int)<(l.length:Int):=uch d;rw[ua3 (by omega)];exact m
def zc6:af prog (.loop (au f127 1)) qj.M qj Rg:=by refine af.loop (n:=36) (id:=2) zmn (inv:=λx=>InvCc2 x.1.1 x.1.2.1 x.1.2.2.1 x.2.1) (μ:=λx=>(x.1.2.1-x.1.2.2.1).toNat) ?_ (λx Q h=>h.1);rintro⟨⟨l,n,i,_⟩,o,_⟩ a Q b;exact zbx l n i o a Q b.2
def Ew:Ct:=⟨[.d rK],[.sl ay],λx=>(List.flatten (α:=ay.q) x.1,()),λx=>[(List.flatten (α:=ay.q) x.1).length<=1000000]⟩
def Vp(x:ap [.d rK]):Fr (aa [.sl ay]):=
 let l:List (List ay.q):=x.1
 Jd (l=l/\InvCc1 l l.length 0 0)
  (Jd (0<=((l.flatten.length:Nat):Int)/\((l.flatten.length:Nat):Int)<=maxLen/\((l.flatten.length:Nat):Int)*(88:Nat)<=140737488355328)
   (Jd (InvCc2 l l.length 0 []) (Jv (l.flatten,()))))
def qpc:ag prog 127 (bg [.d rK] [.sl ay] Vp):=
 oc IF zc5 zc6 (fr:=Vp) (ps:=[.d rK]) (rs:=[.sl ay])
def qpb:ag prog 127 Ew:=
 dz qpc _ _ (λw F x g d b=>by obtain⟨l,_⟩:=x;obtain⟨v,f,rfl,e,_⟩:=d;have a:(List.length (α:=List ay.q) l:Int)<=9223372036854775807:=yf (aG.wf e.2.2).1;have c:(List.flatten (α:=ay.q) l).length<=1000000:=b;refine aw ⟨rfl,⟨ufc _,ub4 _,rfl,a,c,rfl⟩⟩ (aw ⟨by omega,?_,?_⟩ (aw ⟨ufc _,ub4 _,rfl,a,c,rfl⟩ ⟨uT,rfl⟩));show((List.flatten (α:=ay.q) l).length:Int)<=(maxLen:Int);unfold maxLen;omega;show((List.flatten (α:=ay.q) l).length:Int)*((88:Nat):Int)<=140737488355328;omega)
def Is:Code:=(f126.body.map qa4).getD .skip
def tnA:Code:=(f126.body.map Wt).getD .skip
def tnR:Code:=(findLabel Is 0).getD .skip
def IM:Cx:=cx [(136,Km)] []
def DL:CxOK prog IM:=aQ aH ⟨Ox,uT⟩ trivial
def qI:LS:=⟨[],[.x 1 80 aD,.r 1 1 0]⟩
def DW:LS:=⟨[(4,.d (.sl i64)),(5,.d i64)],[.x 1 80 aD,.r 1 1 0]⟩
def GZ:Pt:=⟨34,0,DW,⟨[],[]⟩,⟨[(2,.d i64),(3,.d .bool)],[]⟩⟩
def C7:Pt:=⟨34,0,qI,⟨[],[]⟩,⟨[(2,.d i64),(3,.d .bool)],[]⟩⟩
def Ft(x:DW.X):Fr GZ.Out:=
 let l:List Int:=x.1.1;let k:Int:=x.1.2.1;let h:aD.q:=x.2.1
 let v:Int:=l.getD (I6.wrap (k-1)).toNat 0
 Jb (k==0) (Jv (Rd.back ((0,Y,()),())))
  (Jd (0<=I6.wrap (k-1)/\I6.wrap (k-1)<(l.length:Int))
   (Jd (0<=v/\v<((aO h).length:Int))
    (Jb (bif ((aO h).getD v.toNat ay.j).2.2.1 != 3 then ((aO h).getD v.toNat ay.j).2.2.1 != 4 else Y)
     (Jv (Rd.next ((l,I6.wrap (k-1),()),(h,()))))
     (Jd (0<=I6.wrap (k-1)/\I6.wrap (k-1)<(l.length:Int)) (Jv (Rd.back ((v,Z,()),())))))))
def qsh(x:qI.X):Fr GZ.Out:=
 let h:aD.q:=x.2.1
 Jd (((aO h).length:Int)<=1000000) (Ft ((bV h,((bV h).length:Int),()),(h,())))
def zmw:iU prog 0 Is qI GZ qsh:=iU.of_run DL (bs:=0) rfl rfl rfl (λ_=>bm _ 0) (λx=>by kernel_rfl)
def zmv:iU prog 0 tnR DW GZ Ft:=iU.of_run DL (bs:=0) rfl rfl rfl (λ_=>bm _ 0) (λx=>by kernel_rfl)
def mX(c:ay.q):Bool:=c.2.2.1==3 || c.2.2.1==4
def j8(h:aD.q)(l:List Int):Nat->Option Int
 |0=>V
 |k+1=>if mX (cw h (l.getD k 0))=Z then U (l.getD k 0)else j8 h l k
structure InvTn (l:List Int) (k:Int) (h:aD.q):Prop where
 k0:0<=k
 kl:k<=l.length
 big:l.length<=1000000
 mem:∀ v∈l,0<=v/\v<((aO h).length:Int)
def GR(o:Option Int):Rd qI.X (LS.X ⟨[],[]⟩) (LS.X ⟨[(2,.d i64),(3,.d .bool)],[]⟩):=Rd.back ((o.getD 0,o.isSome,()),())
def Rm(x:DW.X):Fr C7.Out:=Jd (InvTn x.1.1 x.1.2.1 x.2.1) (Jv (GR (j8 x.2.1 x.1.1 (x.1.2.1:Int).toNat)))
def Rn(x:qI.X):Fr C7.Out:=Jd (((aO x.2.1).length:Int)<=1000000) (Jv (GR (j8 x.2.1 (bV x.2.1) (bV x.2.1).length)))
def za9(c:ay.q):(bif c.2.2.1 != 3 then c.2.2.1 != 4 else Y)=!mX c:=by unfold mX;show(bif !(c.2.2.1==3)then !(c.2.2.1==4)else Y)=!(c.2.2.1==3 || c.2.2.1==4);cases c.2.2.1==3<;>cases c.2.2.1==4<;>rfl
def Xy(l:List Int)(k:Int)(h:aD.q)(b:InvTn l k h)(Q:C7.Out->Prop)(f:Q (GR (j8 h l k.toNat))):(Ft ((l,k,()),(h,()))).s7 λ
   |.next g=>InvTn g.1.1 g.1.2.1 g.2.1/\(g.1.2.1:Int).toNat<k.toNat/\(Rm g).s7 Q
   |.out y=>Q (.out y)
   |.back z=>Q (.back z)
   |.pan p=>Q (.pan p):=by
 obtain⟨B,C,v,s⟩:=b;obtain⟨n,rfl⟩:∃ n:Nat,k=n:=⟨k.toNat,by omega⟩;rw[uc0]at f |-;cases n with
 |zero=>exact⟨λ_=>f,λi=>(by cases i)⟩
 |succ m=>
  have A:I6.wrap (((m+1:Nat):Int)-1)=(m:Int):=by rw[cV (by omega)];omega
  have u:m<l.length:=by omega
  dsimp only[Ft,Fr.s7];rw[A,uc0];have w:l.getD m 0=l[m]:=by rw[uah,uaq u];rfl
  have d:=s (l.getD m 0) (by rw[w];exact udi u);have i:0<=(m:Int)/\(m:Int)<(l.length:Int):=⟨by omega,by omega⟩;have c:=za9 (cw h (l.getD m 0));refine⟨λx=>?_,λ_=>⟨i,d,λo=>?_,λo=>⟨i,?_⟩⟩⟩;exfalso;have:((m+1:Nat):Int)=0:=ufr x;omega;have r:mX (cw h (l.getD m 0))=false:=by have a:(bif (cw h (l.getD m 0)).2.2.1 != 3 then (cw h (l.getD m 0)).2.2.1 != 4 else Y)=true:=o;rw[c]at a;simpa using a
  have t:InvTn l (m:Int) h:=⟨by omega,by omega,v,s⟩;refine⟨t,Nat.lt_succ_self m,t,?_⟩;show Q (GR (j8 h l (m:Int).toNat));rw[uc0];have e:j8 h l (m+1)=j8 h l m:=ufx (by rw[r];decide);rw[<- e];exact f;have r:mX (cw h (l.getD m 0))=true:=by have a:(bif (cw h (l.getD m 0)).2.2.1 != 3 then (cw h (l.getD m 0)).2.2.1 != 4 else Y)=false:=o;rw[c]at a;simpa using a
  have e:j8 h l (m+1)=U (l.getD m 0):=ufw r;rw[e]at f;exact f
def zmc:af prog (.scope Is) qI C7 Rn:=
 zr8 (n:=34) (id:=0) (N:=qI) (rest:=tnR) (by kernel_rfl) zmw zmv (F:=Rm) (inv:=λx=>InvTn x.1.1 x.1.2.1 x.2.1) (μ:=λx=>(x.1.2.1:Int).toNat)
  (by
   rintro⟨_,h,_⟩ Q c;have d:(bV h).length=(aO h).length:=GQ h;have e:((aO h).length:Int)<=1000000:=c.1;have f:InvTn (bV h) ((bV h).length:Int) h:=⟨ub4 _,ufc _,by omega,λv g=>Cp g⟩;refine⟨e,Fr.satP_mono ?_ (Xy (bV h) ((bV h).length:Int) h f Q ?_)⟩
   ·intro r b;cases r with
    |next i=>exact⟨b.1,b.2.2⟩
    |out y=>exact b
    |back z=>exact b
    |pan p=>exact b
   rw[uc0];exact c.2)
  (by rintro⟨⟨l,k,_⟩,h,_⟩ a Q c;exact Xy l k h a Q c.2)
def pb(h:aD.q):Option Int:=j8 h (bV h) (bV h).length
def t8:Ct:=⟨[.d aD],[i64,.bool],λx=>((pb x.1).getD 0,(pb x.1).isSome,()),λx=>[((aO x.1).length:Int)<=1000000]⟩
def zq1:ag prog 126 t8:=
 dz (VA (run:=vS (cQ prog IM 0 bK tnA 0) (C7.han IM.Γ qI Rn)) (fn:=f126) (c:=.seq tnA (.scope Is)) (ps:=[.d aD]) (rs:=[i64,.bool])
  (fr:=λx=>Jd (((aO x.1).length:Int)<=1000000) (Jv ((pb x.1).getD 0,(pb x.1).isSome,()))) (aD.j,()) (by kernel_rfl) (by kernel_rfl)
  (λE=>D6 (xl DL (bm _ 0)) (af.run DL rfl zmc)) (λx=>by kernel_rfl)) _ _ (λ_ _ _ _ _ a=>aw a ⟨uT,rfl⟩)
end Go.Proofs.YtdadnmgajcfkfaaGreat
