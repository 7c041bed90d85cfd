/-
  Parts of the proof, one behind the other.
-/
import Derived.Test.YtdokapnnagbehaaGreatMf
import Derived.Test.YtdokapnnagbehaaGreatProg
import Derived.WalkKit
import Derived.IntWalk
import Derived.RangeFuncNested
import Derived.RangeFuncBound
import Derived.RangeFuncCalls
import Derived.RangeFuncLeaves
import Derived.Shelf.Abstract
import Derived.Shelf.RegionOpen
import Derived.OwnWalkIn
import Derived.TacticsInMore
import Derived.LoopNIn
import Derived.LoopIn
import Derived.Lib.Hide
set_option linter.all false
set_option maxRecDepth 100000
set_option maxHeartbeats 4000000
open Option renaming some->U,none->V
open Bool renaming true->Z,false->Y
open Decidable renaming decide->J
open Go Go.RowKit
variable {T α σ ρ β:Type} {P:Program} {ad:Addr} {arr cs cur:Array Value} {f:FuncId} {x a y day:Int} {k:IntKind} {l:List Int} {xs vs news:List Value} {off i n b c d j B m len:Nat} {F F' K:Nat->Prop} {R g R':Nat->Value->Prop} {o:Oper} {p:Prop} {e ety t ty el:TypeId} {v u vx:Value} {w w' W' W:World}
namespace Go.Proofs.YtdokapnnagbehaaGreat
open Go Go.Ab Go.RowKit Go.Proofs Tryz Go.Shelf
open Go.Ab.Fr renaming val->Jv,need->Jd,br->Jb
abbrev i64:Ty:=.int .i64
abbrev u64:Ty:=.int .u64
abbrev aK:Ty:=.sl i64
abbrev cn:Ty:=.pair i64 (.pair i64 .unit)
abbrev bm:Ty:=.pair aK (.pair aK .unit)
abbrev dG:Ty:=.pair i64 (.pair i64 (.pair i64 (.pair i64 .unit)))
abbrev ak:Ty:=.pair i64 (.pair i64 (.pair i64 (.pair i64 (.pair i64 .unit))))
abbrev aB:Ty:=.pair cn (.pair .bool (.pair dG (.pair (.sl ak) (.pair i64 .unit))))
def yr:Nat->St->Option Tr:=λ_ _=>V
def C0:Cx:=⟨⟨λ_=>V,λ_=>V⟩,λ_=>V,λ_ _ _ _=>V⟩
def aG:prog.follows .mixedOrders=true:=by kernel_rfl
def s6:CxOK prog C0:=⟨aG,⟨λ_ _ h=>(nomatch h),λ_ _ h=>(nomatch h)⟩,λ_ _ h=>(nomatch h),λ_ _ _ _ _ h=>(nomatch h)⟩
def lN{E:Env}:(c:Code)->(k:Nat)->bP prog E yr c k
 |.seq a b,k=>⟨lN a k,lN b _⟩
 |.cond _ a b,k=>⟨lN a k,lN b _⟩
 |.block _ c,k=>lN c k
 |.loop _,_=>λ_ _ h=>nomatch h
 |.skip,_=>trivial
 |.ret,_=>trivial
 |.exit _,_=>trivial
 |.region _ _ _,_=>trivial
 |.label _,_=>trivial
 |.goto _,_=>trivial
 |.scope c,k=>lN c k
 |.rangeFunc _ _ _ _,_=>trivial
 |.refuse _,_=>trivial
def plain{C:Cx}(b:CxOK prog C){fn:Func}{ps:List PT}{rs:List Ty}{fr:ag ps->Fr (aa rs)}(h:ag ps)(d:prog.funcs[f]?= U fn)(a:∀ xs,mf prog C yr fn ps rs xs=U (fr xs))(g:ag ps->aa rs)(ok:ag ps->List Prop)(e:∀ w F xs vs,cJ prog w F ps xs vs->av (ok xs)->(fr xs).ok/\(fr xs).get=g xs):af prog f ⟨ps,rs,g,ok⟩:=
 conv (cf b h d (λc E _=>lN c 0) a) g ok e
def iQ(v:Int):Bool:=J (v >= -4000000000000000000)&&J (v<=4000000000000000000)
def Gx:Ct:=⟨[.d i64],[.bool],λx=>(iQ x.1,()),λ_=>[]⟩
def qtx:af prog 216 Gx:=
 plain (ps:=[.d i64]) (rs:=[.bool]) s6 (fn:=f216) (fr:=λx=>Jv (bif J (x.1 >= -4000000000000000000)then J (x.1<=4000000000000000000)else Y,())) (0,()) (by kernel_rfl) (λx=>by kernel_rfl) _ _
  (λ_ _ x _ _ _=>⟨uT,by simp only[Fr.get,iQ];cases J (x.1 >= -4000000000000000000)<;>rfl⟩)
def dN(s:cn.den):Bool:=J (s.1>=1)&&(J (s.1<s.2.1)&&J (s.2.1<=292195))
def jT(s:cn.den):Bool:=J (s.1>=1)&&(J (s.1<=s.2.1)&&J (s.2.1<=292195))
def qbr:Ct:=⟨[.d cn],[.bool],λx=>(dN x.1,()),λ_=>[]⟩
def jb:Ct:=⟨[.d cn],[.bool],λx=>(jT x.1,()),λ_=>[]⟩
def Lr(a b c:Bool):(bif bif a then b else Y then c else Y)=(a&&(b&&c)):=by cases a<;>cases b<;>rfl
def ql7:af prog 197 qbr:=
 plain (ps:=[.d cn]) (rs:=[.bool]) s6 (fn:=f197) (fr:=λx=>Jv (bif bif J (x.1.1>=1)then J (x.1.1<x.1.2.1)else Y then J (x.1.2.1<=292195)else Y,())) ((0,0,()),()) (by kernel_rfl) (λx=>by kernel_rfl) _ _
  (λ_ _ x _ _ _=>⟨uT,by simp only[Fr.get,dN,Lr]⟩)
def Ky:af prog 100 jb:=
 plain (ps:=[.d cn]) (rs:=[.bool]) s6 (fn:=f100) (fr:=λx=>Jv (bif bif J (x.1.1>=1)then J (x.1.1<=x.1.2.1)else Y then J (x.1.2.1<=292195)else Y,())) ((0,0,()),()) (by kernel_rfl) (λx=>by kernel_rfl) _ _
  (λ_ _ x _ _ _=>⟨uT,by simp only[Fr.get,jT,Lr]⟩)
def ne(s:aB.den)(e:Int):Bool:=J (s.1.1>=e)&&(J (s.1.1<s.1.2.1)&&(J (s.1.2.1<=292195)&&(J (s.2.2.2.2.1>=0)&&J (s.2.2.2.2.1<=4000000000000000000))))
def qw:Ct:=⟨[.d aB,.d i64],[.bool],λx=>(ne x.1 x.2.1,()),λ_=>[]⟩
def qkv(a b c d e:Bool):(bif bif bif bif a then b else Y then c else Y then d else Y then e else Y)=(a&&(b&&(c&&(d&&e)))):=by cases a<;>cases b<;>cases c<;>cases d<;>rfl
def ql8:af prog 152 qw:=
 plain (ps:=[.d aB,.d i64]) (rs:=[.bool]) s6 (fn:=f152) (fr:=λx=>Jv (bif bif bif bif J (x.1.1.1>=x.2.1)then J (x.1.1.1<x.1.1.2.1)else Y then J (x.1.1.2.1<=292195)else Y then J (x.1.2.2.2.2.1>=0)else Y then J (x.1.2.2.2.2.1<=4000000000000000000)else Y,()))
  (aB.dflt,0,()) (by kernel_rfl) (λx=>by kernel_rfl) _ _ (λ_ _ x _ _ _=>⟨uT,by simp only[Fr.get,ne,qkv]⟩)
def ja:Ct:=⟨[.d i64],[.bool],λ_=>(Y,()),λ_=>[]⟩
def SX:af prog 242 ja:=
 plain (ps:=[.d i64]) (rs:=[.bool]) s6 (fn:=f242) (fr:=λx=>Jv (x.1 != x.1,())) (0,()) (by kernel_rfl) (λx=>by kernel_rfl) _ _ (λ_ _ x _ _ _=>⟨uT,by simp[Fr.get]⟩)
def JG:af prog 202 ja:=
 plain (ps:=[.d i64]) (rs:=[.bool]) s6 (fn:=f202) (fr:=λx=>Jv (x.1 != x.1,())) (0,()) (by kernel_rfl) (λx=>by kernel_rfl) _ _ (λ_ _ x _ _ _=>⟨uT,by simp[Fr.get]⟩)
def WM:FuncId->Option Ct:=λf=>if f=242 then U ja else if f=202 then U ja else V
def C1:Cx:=⟨WM,λ_=>V,λ_ _ _ _=>V⟩
def JP{Γ:FuncId->Option Ct}(h:∀ f a,Γ f=U a->af prog f a):CxOK prog ⟨Γ,λ_=>V,λ_ _ _ _=>V⟩:=
 ⟨aG,⟨h,λ_ _ h=>(nomatch h)⟩,λ_ _ h=>(nomatch h),λ_ _ _ _ _ h=>(nomatch h)⟩
def WU:CxOK prog C1:=JP λf b h=>by
 simp only[WM]at h;split at h;rename_i a;subst a;cases h;exact SX;split at h;rename_i a;subst a;cases h;exact JG;cases h
def wS:Ct:=⟨[.d i64,.d i64],[.bool],λx=>(J (x.1<x.2.1),()),λ_=>[]⟩
def Sy:af prog 213 wS:=
 plain (ps:=[.d i64,.d i64]) (rs:=[.bool]) WU (fn:=f213) (fr:=λx=>Jv (bif bif (ja.f (x.1,())).1 then !(ja.f (x.2.1,())).1 else Y then Z else J (x.1<x.2.1),())) (0,0,()) (by kernel_rfl) (λx=>by kernel_rfl) _ _
  (λ_ _ x _ _ _=>⟨uT,rfl⟩)
abbrev zel:Ty:=.sl aB
def oc(a b:Bool):(bif a then b else Y)=(a&&b):=by cases a<;>rfl
def cz{n:Int}(h : -9223372036854775808<=n/\n<=9223372036854775807):I6.wrap n=n:=IntWalk.i64_in _ h
def eF:Pc:=⟨[.d i64],[],λ_=>(),λx=>!(x.1==0),λx=>⟨47,.i64,x.1⟩,λ_=>[]⟩
def JE:jz prog 149 eF:=by
 refine⟨enters (fn:=f149) (by kernel_rfl) rfl rfl,λw F xs vs g j _=>?_⟩;obtain⟨v,l,rfl,k,i⟩:=j;cases i;obtain⟨n,_⟩:=xs;have e:v=.int .i64 n:=by
  have h:aE prog w F (λ_ _=>True) (dE i64 n) v:=fT k;exact h.2.1
 subst e;by_cases c:n=0
 ·subst c
  go_enter func149,ntmps149
  go_wp2
  go_end0
  refine .inl ⟨rfl,.tuple #[],F,rfl,ufi _ _,λ_ h=>h,λb h=>⟨.inl h,g b h⟩,#[],rfl,rfl⟩
 ·have d:(n==0)=false:=by simpa using c
  have f:(n != 0)=true:=by simpa using c
  have a:eF.bad (n,())=true:=by show(!(n==0))=Z;rw[d];rfl
  go_enter func149,ntmps149
  go_wp2
  exact⟨rfl,.inr ⟨a,rfl,ufi _ _⟩⟩
def ft(a:Int):Int:=IntKind.u64.wrap ((BitVec.ofInt IntKind.u64.bits a &&& BitVec.ofInt IntKind.u64.bits 4294967295).toNat:Int)
def bC(a:Int):Int:=a.fdiv (2 ^ min (Int.toNat 32) IntKind.u64.bits)
def dx{n:Int}(h:0<=n/\n<=18446744073709551615):IntKind.u64.wrap n=n:=IntWalk.u64_in _ h
def CF(h:0<=a/\a<=18446744073709551615):ft a=a%4294967296:=by
 obtain⟨n,rfl⟩:∃ n:Nat,a=n:=⟨a.toNat,by omega⟩;unfold ft;have b:(BitVec.ofInt IntKind.u64.bits (n:Int) &&& BitVec.ofInt IntKind.u64.bits 4294967295).toNat=n%4294967296:=by
  have c:(BitVec.ofInt IntKind.u64.bits (n:Int)).toNat=n:=by
   rw[BitVec.toNat_ofInt];show((n:Int)%((2 ^ 64:Nat):Int)).toNat=n;omega
  have d:(BitVec.ofInt IntKind.u64.bits (4294967295:Int)).toNat=2 ^ 32-1:=by decide
  rw[BitVec.toNat_and,c,d,Nat.and_two_pow_sub_one_eq_mod]
 rw[b,dx (by omega)];omega
def IJ:bC a=a/4294967296:=by
 unfold bC;have:(2:Int) ^ min (Int.toNat 32) IntKind.u64.bits=4294967296:=by decide
 rw[this,uag _ (by decide)]
def uJ(x y:Int):Int:=IntKind.u64.wrap (IntKind.u64.wrap (bC x*ft y)+bC (IntKind.u64.wrap (ft x*ft y)))
def qla(x:ag [.d u64,.d u64]):Fr (aa [u64,u64]):=
 let b:=uJ x.1 x.2.1;let a:=¬ (32:Int)<0;Jd a (Jd a (Jd a (Jd a (Jd a
  (Jv (IntKind.u64.wrap (IntKind.u64.wrap (IntKind.u64.wrap (bC x.1*bC x.2.1)+bC b)+bC (IntKind.u64.wrap (ft b+IntKind.u64.wrap (ft x.1*bC x.2.1)))),
   IntKind.u64.wrap (x.1*x.2.1),()))))))
def mD:Ct:=⟨[.d u64,.d u64],[u64,u64],λx=>(x.1*x.2.1/18446744073709551616,x.1*x.2.1%18446744073709551616,()),λ_=>[]⟩
def Db{b n:Int}(d:0<=a/\a<=n)(c:0<=b/\b<=n):0<=a*b/\a*b<=n*n:=
 ⟨ueb d.1 c.1,Int.mul_le_mul d.2 c.2 c.1 (by omega)⟩
def qt2(b a b1 b0:Int):(b*4294967296+a)*(b1*4294967296+b0)=b*b1*18446744073709551616+(b*b0+a*b1)*4294967296+a*b0:=by grind
def qt1(k:0<=x/\x<=18446744073709551615)(l:0<=y/\y<=18446744073709551615):
  IntKind.u64.wrap (IntKind.u64.wrap (IntKind.u64.wrap (bC x*bC y)+bC (uJ x y))+bC (IntKind.u64.wrap (ft (uJ x y)+IntKind.u64.wrap (ft x*bC y))))=x*y/18446744073709551616:=by
 have ex:x=x/4294967296*4294967296+x%4294967296:=by omega
 have j:y=y/4294967296*4294967296+y%4294967296:=by omega
 have i:=qt2 (x/4294967296) (x%4294967296) (y/4294967296) (y%4294967296);rw[<- ex,<- j]at i;rw[i];unfold uJ;rw[CF k,CF l];simp only[IJ];have b1:0<=x/4294967296/\x/4294967296<=4294967295:=by omega
 have f:0<=x%4294967296/\x%4294967296<=4294967295:=by omega
 have g:0<=y/4294967296/\y/4294967296<=4294967295:=by omega
 have h:0<=y%4294967296/\y%4294967296<=4294967295:=by omega
 have q:=Db b1 g;have p:=Db b1 h;have o:=Db f g;have m:=Db f h;clear i ex j b1 f g h;generalize x/4294967296*(y/4294967296)=e at *;generalize x/4294967296*(y%4294967296)=c at *;generalize x%4294967296*(y/4294967296)=d at *;generalize x%4294967296*(y%4294967296)=b at *;rw[dx (n:=e) (by omega),dx (n:=c) (by omega),dx (n:=d) (by omega),dx (n:=b) (by omega),dx (n:=c+b/4294967296) (by omega),CF (a:=c+b/4294967296) (by omega),
  dx (n:=(c+b/4294967296)%4294967296+d) (by omega)]
 rw[dx (n:=e+(c+b/4294967296)/4294967296) (by omega),dx (by omega)];omega
def pP{n:Int}(h:bu w F u64 n v):0<=n/\n<=18446744073709551615:=h.2.2.2
def uf{n:Int}(h:bu w F i64 n v): -9223372036854775808<=n/\n<=9223372036854775807:=h.2.2.2
def JD:af prog 220 mD:=
 flat (ps:=[.d u64,.d u64]) (rs:=[u64,u64]) (aP (cs:=[]) (ps:=[]) aG trivial trivial) (fn:=f220) (fr:=qla) (0,0,()) (by kernel_rfl) (λx=>by kernel_rfl) _ _
  (λw F x vs h _=>by
   obtain⟨a,b,u⟩:=x;obtain⟨l,j,rfl,f,m,k,rfl,g,_⟩:=h;have c:=pP f;have e:=pP g;refine⟨⟨by decide,by decide,by decide,by decide,by decide,uT⟩,?_⟩;show(IntKind.u64.wrap (IntKind.u64.wrap (IntKind.u64.wrap (bC a*bC b)+bC (uJ a b))+bC (IntKind.u64.wrap (ft (uJ a b)+IntKind.u64.wrap (ft a*bC b)))),IntKind.u64.wrap (a*b),())=(a*b/18446744073709551616,a*b%18446744073709551616,());have i:IntKind.u64.wrap (a*b)=a*b%18446744073709551616:=by
    rw[IntKind.wrap_u64]
   rw[qt1 c e,i])
def Iq(x:ag [.d u64,.d u64,.d u64]):Fr (aa [u64,u64]):=
 let a:=x.2.2.1;Jb (a==0) (Jd False (Jv (0,0,())))
  (Jb (J (a<=x.1)) (Jd False (Jv (0,0,())))
   (Jb (x.1==0) (Jd (a≠0) (Jd (a≠0) (Jv (IntKind.u64.wrap (x.2.1.tdiv a),x.2.1.tmod a,()))))
    (Jd False (Jv (0,0,())))))
def Az:Ct:=⟨[.d u64,.d u64,.d u64],[u64,u64],λx=>(x.2.1/x.2.2.1,x.2.1%x.2.2.1,()),λx=>[x.1=0,0<x.2.2.1]⟩
def qfj{lo:Int}(c:0<=lo/\lo<=18446744073709551615)(g:0<y):(Iq (0,lo,y,())).ok/\(Iq (0,lo,y,())).get=(lo/y,lo%y,()):=by
 have d:(y==0)=false:=by simp;omega
 have e:J (y<=(0:Int))=false:=by simp;omega
 have f:y≠0:=by omega
 refine⟨⟨λb=>?_,λ_=>⟨λb=>?_,λ_=>⟨λ_=>⟨f,f,uT⟩,λb=>by cases b⟩⟩⟩,?_⟩;have a:(y==0)=true:=b;rw[d]at a;cases a;have a:J (y<=(0:Int))=true:=b;rw[e]at a;cases a;show(if (y==0)=Z then ((0:Int),(0:Int),())else if J (y<=(0:Int))=Z then ((0:Int),(0:Int),())else (IntKind.u64.wrap (lo.tdiv y),lo.tmod y,()))=(lo/y,lo%y,());rw[d,e];simp only[ub3,ufs];rw[IntWalk.u64_quo lo y ⟨c.1,c.2,by omega⟩,IntWalk.rem_in lo y c.1]
def qfi:af prog 221 Az:=
 flat (ps:=[.d u64,.d u64,.d u64]) (rs:=[u64,u64]) (aP (cs:=[]) (ps:=[]) aG trivial trivial) (fn:=f221) (fr:=Iq) (0,0,0,()) (by kernel_rfl) (λx=>by kernel_rfl) _ _
  (λw F x vs f b=>by
   obtain⟨hi,lo,y,u⟩:=x;obtain⟨m,h,rfl,k,n,i,rfl,c,o,j,rfl,l,_⟩:=f;obtain⟨e,g⟩:=b;have a:hi=0:=e;subst a;exact qfj (pP c) g)
noncomputable def Af:FuncId->Option (Func×(Nat->St->Option Tr)):=cu [(219,(f219,bw))]
noncomputable def Ag:FuncId->Option (Func×(Nat->St->Option Tr)):=cu [(200,(f200,bw)),(199,(f199,bw))]
abbrev Am:List (FuncId×Ct):=[(220,mD),(221,Az)]
def F8:iz prog Am:=⟨JD,qfi,uT⟩
noncomputable def Mc:Cx:=cx Am []
noncomputable def Md:Cx:=cW Am [] (fU prog Mc Af)
noncomputable def XC:Cx:=cW Am [] (fU prog Md Ag)
def XA:CxOK prog Mc:=aP aG F8 trivial
def N5:∀ f fn Λ,Af f=U (fn,Λ)->prog.funcs[f]?= U fn/\∀ c a,fn.body=U c->bP prog a Λ c 0:=λf fn Λ h=>by
 simp only[Af,cu]at h;split at h;rename_i b;subst b;cases h;exact⟨by kernel_rfl,λc a _=>aY c 0⟩;cases h
def XB:CxOK prog Md:=cZ aG F8 trivial (gG XA N5)
def N6:∀ f fn Λ,Ag f=U (fn,Λ)->prog.funcs[f]?= U fn/\∀ c a,fn.body=U c->bP prog a Λ c 0:=λf fn Λ h=>by
 simp only[Ag,cu]at h;split at h;rename_i b;subst b;cases h;exact⟨by kernel_rfl,λc a _=>aY c 0⟩;split at h;rename_i b;subst b;cases h;exact⟨by kernel_rfl,λc a _=>aY c 0⟩;cases h
def XD:CxOK prog XC:=cZ aG F8 trivial (gG XB N6)
def mR(q:Int):Fr (aa [i64,i64]):=Jb (J (q>4000000000000000000)) (Jv (0,5,())) (Jv (I6.wrap q,0,()))
def oI(q r c:Int):Fr (aa [i64,i64]):=
 Jb (J (q>4000000000000000000)) (Jv (0,5,()))
  (Jd ((r==IntKind.u64.wrap (c-r))=Z->J (r>IntKind.u64.wrap (c-r))=Y->(2:Int)≠0)
   (Jb (bif J (r>IntKind.u64.wrap (c-r))then Z else bif r==IntKind.u64.wrap (c-r)then q.tmod 2==1 else Y) (mR (IntKind.u64.wrap (q+1))) (mR q)))
def PG(h l c:Int):Fr (aa [i64,i64]):=
 Jb (J (h>=c)) (Jv (0,5,())) (Jd (h=0) (Jd (0<c) (oI (Az.f (h,l,c,())).1 (Az.f (h,l,c,())).2.1 c)))
def BS(x:ag [.d i64,.d i64,.d i64]):Fr (aa [i64,i64]):=
 let a:=mD.f (IntKind.u64.wrap x.1,IntKind.u64.wrap x.2.1,());Jb (bif bif J (x.1<0)then Z else J (x.2.1<0)then Z else J (x.2.2.1<0)) (Jv (0,1,()))
  (Jb (x.2.2.1==0) (Jv (0,6,()))
   (PG a.1 a.2.1 (IntKind.u64.wrap x.2.2.1)))
def jF(p c:Int):Int:=if p%c>c-p%c\/(p%c=c-p%c/\p/c%2=1)then p/c+1 else p/c
def cP(a b c:Int):Int×Int:=if a<0\/b<0\/c<0 then (0,1)else if c=0 then (0,6)else if jF (a*b) c>4000000000000000000 then (0,5)else (jF (a*b) c,0)
def NQ(a b c:Bool):(bif bif a then Z else b then Z else c)=(a || (b || c)):=by cases a<;>cases b<;>rfl
def PH{q:Int}(h:0<=q):(mR q).ok/\(mR q).get=if q>4000000000000000000 then (0,5,())else (q,0,()):=by
 refine⟨⟨λ_=>uT,λ_=>uT⟩,?_⟩;show(if J (q>4000000000000000000)=Z then ((0:Int),(5:Int),())else (I6.wrap q,(0:Int),()))=_;by_cases a:q>4000000000000000000;rw[ufv (by simpa using a),ufv a];have b:I6.wrap q=q:=cz (by omega);rw[ufw (by simpa using a),ufw a,b]
def PJ{q r c:Int}(n:0<=r/\r<c)(m:c<=9223372036854775807)(j:0<=q):
  (oI q r c).ok/\(oI q r c).get=if (if r>c-r\/(r=c-r/\q%2=1)then q+1 else q)>4000000000000000000 then (0,5,())else ((if r>c-r\/(r=c-r/\q%2=1)then q+1 else q),0,()):=by
 have l:IntKind.u64.wrap (c-r)=c-r:=dx (by omega);have k:q.tmod 2=q%2:=Int.tmod_eq_emod_of_nonneg j;unfold oI;rw[l,k];by_cases g:q>4000000000000000000;have b:J (q>4000000000000000000)=true:=by simpa using g
 refine⟨⟨λ_=>uT,λi=>by rw[b]at i;cases i⟩,?_⟩;show(if J (q>4000000000000000000)=Z then ((0:Int),(5:Int),())else _)=_;rw[b,ufv rfl,ufv];split<;>omega
 have b:J (q>4000000000000000000)=false:=by simpa using g
 have a:(bif J (r>c-r)then Z else bif r==c-r then q%2==1 else Y)=J (r>c-r\/(r=c-r/\q%2=1)):=by
  rw[udx];simp
 rw[a];have d:IntKind.u64.wrap (q+1)=q+1:=dx (by omega);rw[d];have e:=PH (q:=q+1) (by omega);have f:=PH j;refine⟨⟨λ_=>uT,λ_=>⟨λ_ _=>by decide,λ_=>e.1,λ_=>f.1⟩⟩,?_⟩;show(if J (q>4000000000000000000)=Z then ((0:Int),(5:Int),())else if J (r>c-r\/(r=c-r/\q%2=1))=Z then (mR (q+1)).get else (mR q).get)=_;rw[b,ufw (by decide),e.2,f.2];by_cases h:r>c-r\/(r=c-r/\q%2=1);simp only[h,decide_true,if_true];simp only[h,decide_false,ufs,ub3]
def qg5{b c:Int}(t : -9223372036854775808<=a/\a<=9223372036854775807)(u : -9223372036854775808<=b/\b<=9223372036854775807)(s : -9223372036854775808<=c/\c<=9223372036854775807)(v:0<=a->0<=b->a*b<18446744073709551616):(BS (a,b,c,())).ok/\(BS (a,b,c,())).get=((cP a b c).1,(cP a b c).2,()):=by
 unfold BS;simp only[NQ];by_cases h:a<0\/b<0\/c<0;have l:(J (a<0) || (J (b<0) || J (c<0)))=true:=by simpa using h
 rw[l];refine⟨⟨λ_=>uT,λd=>by cases d⟩,?_⟩;unfold cP;rw[ufv h];rfl;have l:(J (a<0) || (J (b<0) || J (c<0)))=false:=by simpa using h
 rw[l];have i:0<=a:=by omega
 have j:0<=b:=by omega
 have k:0<=c:=by omega
 have g:=ueb i j;rw[show IntKind.u64.wrap a=a from dx (by omega),show IntKind.u64.wrap b=b from dx (by omega),show IntKind.u64.wrap c=c from dx (by omega)];have p:(mD.f (a,b,())).1=0:=by
  show a*b/18446744073709551616=0;omega
 have q:(mD.f (a,b,())).2.1=a*b:=by
  show a*b%18446744073709551616=a*b;omega
 rw[p,q];unfold cP;rw[ufw h];by_cases n:c=0;subst n;refine⟨⟨λd=>(by cases d),λ_=>⟨λ_=>uT,λd=>by cases d⟩⟩,rfl⟩;have o:(c==0)=false:=by simpa using n
 rw[ufw n,o];have e:0<c:=by omega
 have m:J ((0:Int)>=c)=false:=by simpa using e
 have key:=PJ (r:=a*b%c) ⟨Int.emod_nonneg _ (by omega),Int.emod_lt_of_pos _ e⟩ s.2 (udk g k);unfold PG;rw[m];refine⟨⟨λd=>(by cases d),λ_=>⟨λd=>(by cases d),λ_=>⟨λd=>(by cases d),λ_=>⟨rfl,e,key.1⟩⟩⟩⟩,?_⟩;show(oI (a*b/c) (a*b%c) c).get=_;rw[key.2];unfold jF;generalize (if a*b%c>c-a*b%c\/a*b%c=c-a*b%c/\a*b/c%2=1 then a*b/c+1 else a*b/c)=z;split<;>rfl
def qv:Ct:=⟨[.d i64,.d i64,.d i64],[i64,i64],λx=>((cP x.1 x.2.1 x.2.2.1).1,(cP x.1 x.2.1 x.2.2.1).2,()),λx=>[0<=x.1->0<=x.2.1->x.1*x.2.1<18446744073709551616]⟩
def qg4:af prog 150 qv:=
 flat (ps:=[.d i64,.d i64,.d i64]) (rs:=[i64,i64]) XD (fn:=f150) (fr:=BS) (0,0,0,()) (by kernel_rfl) (λx=>by kernel_rfl) _ _
  (λw F x vs i e=>by
   obtain⟨a,b,c,u⟩:=x;obtain⟨m,j,rfl,f,n,k,rfl,g,o,l,rfl,h,_⟩:=i;exact qg5 (uf f) (uf g) (uf h) e)
def sw:Fr α->Fr α
 |.br Z x _=>sw x
 |.br Y _ y=>sw y
 |.need p x=>.need p (sw x)
 |.val v=>.val v
def E5:{f:Fr α}->(sw f).ok->f.ok/\f.get=(sw f).get
 |.br Z x _,h=>by
  have:=E5 (f:=x) h;exact⟨⟨λ_=>this.1,λa=>(by cases a)⟩,this.2⟩
 |.br Y _ y,h=>by
  have:=E5 (f:=y) h;exact⟨⟨λa=>(by cases a),λ_=>this.1⟩,this.2⟩
 |.need _ x,h=>by
  have:=E5 h.2;exact⟨⟨h.1,this.1⟩,this.2⟩
 |.val _,_=>⟨uT,rfl⟩
def zdm{f g:Fr α}(h:sw f=g)(a:g.ok):f.ok/\f.get=g.get:=by
 subst h;exact E5 a
def cQ{ps:List PT}{rs:List Ty}{fr:ag ps->Fr (aa rs)}(h:af P f (bg ps rs fr))(g:ag ps->aa rs)(ok:ag ps->List Prop)(a:∀ w F xs vs,cJ P w F ps xs vs->av (ok xs)->(fr xs).ok/\(fr xs).get=g xs):af P f ⟨ps,rs,g,ok⟩:=
 conv h g ok a
noncomputable def qk8(x:ag [.d u64]):Fr (aa [i64]):=(mf prog (cx [] []) bw f243 [.d u64] [i64] x).getD (Jd False (Jv (0,())))
def qk9:sw (qk8 (10000,()))=Jd (¬ (8:Int)<0) (Jd (0<=(39:Int)/\(39:Int)<((256:Nat):Int)) (Jv (14,()))):=by kernel_rfl
def Gt:Ct:=⟨[.d u64],[i64],λ_=>(14,()),λx=>[x.1=10000]⟩
def qqh:af prog 243 Gt:=
 cQ (aS (aP (cs:=[]) (ps:=[]) aG trivial trivial) f243) _ _
  (λw F x vs _ a=>by
   obtain⟨n,_⟩:=x;have b:=a;subst b;exact zdm qk9 ⟨by decide,⟨by decide,by decide⟩,uT⟩)
def Ov:Ct:=⟨[.d u64],[i64],λ_=>(50,()),λx=>[x.1=10000]⟩
def qtk:af prog 235 Ov:=
 conv (aS (aP (cs:=[(243,Gt)]) (ps:=[]) aG ⟨qqh,uT⟩ trivial) f235 (fr:=λx=>Jd (x.1=10000) (Jv (I6.wrap (64-(Gt.f (x.1,())).1),()))) (ps:=[.d u64])) _ _
  (λw F x vs _ a=>⟨⟨a,uT⟩,rfl⟩)
abbrev dU:PT:=.d u64
def nR:LS:=⟨[(2,dU),(8,dU),(9,dU),(10,dU),(11,dU),(13,dU),(14,dU),(15,dU),(16,dU)],[]⟩
def nS:LS:=⟨[(2,dU),(8,dU),(9,dU),(10,dU),(13,dU),(14,dU),(15,dU),(16,dU),(17,dU),(18,dU)],[]⟩
def uW:Pt:=⟨135,0,nR,nR,⟨[],[]⟩⟩
def uX:Pt:=⟨135,2,nS,nS,⟨[],[]⟩⟩
def iR(q a r u:Int):Bool:=bif J (q>=4294967296)then Z else J (IntKind.u64.wrap (q*a)>IntKind.u64.wrap (IntKind.u64.wrap (4294967296*r)+u))
def PN(x:nR.X):Fr uW.Out:=
 match x with
 |((y,s,a,b,c,d,e,q,r,_),_)=>Jb (iR q b r d)
  (Jb (J (IntKind.u64.wrap (r+a)>=4294967296))
   (Jv (Rd.out ((y,s,a,b,c,d,e,IntKind.u64.wrap (q-1),IntKind.u64.wrap (r+a),()),())))
   (Jv (Rd.next ((y,s,a,b,c,d,e,IntKind.u64.wrap (q-1),IntKind.u64.wrap (r+a),()),()))))
  (Jv (Rd.out ((y,s,a,b,c,d,e,q,r,()),())))
def PO(x:nS.X):Fr uX.Out:=
 match x with
 |((y,s,a,b,d,e,q,r,u,v,_),_)=>Jb (iR v b r e)
  (Jb (J (IntKind.u64.wrap (r+a)>=4294967296))
   (Jv (Rd.out ((y,s,a,b,d,e,q,IntKind.u64.wrap (r+a),u,IntKind.u64.wrap (v-1),()),())))
   (Jv (Rd.next ((y,s,a,b,d,e,q,IntKind.u64.wrap (r+a),u,IntKind.u64.wrap (v-1),()),()))))
  (Jv (Rd.out ((y,s,a,b,d,e,q,r,u,v,()),())))
def Zu(x:nR.X):Fr uW.Out:=Jd (iR x.1.2.2.2.2.2.2.2.1 x.1.2.2.2.1 x.1.2.2.2.2.2.2.2.2.1 x.1.2.2.2.2.2.1=Y) (Jv (.out x))
def Zv(x:nS.X):Fr uX.Out:=Jd (iR x.1.2.2.2.2.2.2.2.2.2.1 x.1.2.2.2.1 x.1.2.2.2.2.2.2.2.1 x.1.2.2.2.2.2.1=Y) (Jv (.out x))
noncomputable def CD:Cx:=cx [(235,Ov)] []
def EE:CxOK prog CD:=aP aG ⟨qtk,uT⟩ trivial
def qyv:ae prog (au f221 0) nR uW PN:=ae.of_run EE (bs:=0) rfl rfl rfl (λ_=>aY _ 0) (λx=>by kernel_rfl)
def qyw:ae prog (au f221 1) nS uX PO:=ae.of_run EE (bs:=0) rfl rfl rfl (λ_=>aY _ 0) (λx=>by kernel_rfl)
def qf2:ae prog (.loop (au f221 0)) nR uW Zu:=
 ae.loop qyv (μ:=λ_=>0)
  (by
   rintro⟨⟨y,s,a,b,c,d,e,q,r,_⟩,_⟩ f Q g;exact⟨λh=>(by rw[show iR q b r d=Y from f]at h;cases h),λ_=>g.2⟩)
  (λx Q h=>h.1)
def qf3:ae prog (.loop (au f221 1)) nS uX Zv:=
 ae.loop qyw (μ:=λ_=>0)
  (by
   rintro⟨⟨y,s,a,b,d,e,q,r,u,v,_⟩,_⟩ c Q f;exact⟨λh=>(by rw[show iR v b r e=Y from c]at h;cases h),λ_=>f.2⟩)
  (λx Q h=>h.1)
abbrev wU(n:Int):Int:=IntKind.u64.wrap n
def eh(a:Int):Int:=wU (a*2 ^ min (wU 50).toNat IntKind.u64.bits)
def l9(hi lo:Int):Int:=wU ((BitVec.ofInt IntKind.u64.bits (eh hi) ||| BitVec.ofInt IntKind.u64.bits (lo.fdiv (2 ^ min (wU (64-wU 50)).toNat IntKind.u64.bits))).toNat:Int)
def dQ(u y:Int):Int:=wU (u.tdiv (bC (eh y)))
def dR(u y:Int):Int:=wU (u-wU (dQ u y*bC (eh y)))
def mJ(hi lo y:Int):Int:=wU (wU (wU (l9 hi lo*4294967296)+bC (eh lo))-wU (dQ (l9 hi lo) y*eh y))
def qk4(hi lo y:Int):Fr (aa [u64,u64]):=
 let k:=¬ (32:Int)<0;let h:=ft (eh y);let g:=bC (eh y)≠0;let d:=eh lo;let c:=l9 hi lo;let b:=¬ wU 50<0;let a:=mJ hi lo y;Jd (y=10000) (Jd b (Jd k (Jd b (Jd (¬ wU (64-wU 50)<0) (Jd b (Jd k
  (Jd g
   (Jd (iR (dQ c y) h (dR c y) (bC d)=Y)
    (Jd g
     (Jd (iR (dQ a y) h (dR a y) (ft d)=Y)
      (Jd b
       (Jv (wU (wU (dQ c y*4294967296)+dQ a y),
        (wU (wU (wU (mJ hi lo y*4294967296)+ft d)-wU (dQ a y*eh y))).fdiv (2 ^ min (wU 50).toNat IntKind.u64.bits),())))))))))))))
def xD(x:ag [dU,dU,dU]):Fr (aa [u64,u64]):=
 let a:=x.2.2.1;Jb (a==0) (Jd False (Jv (0,0,())))
  (Jb (J (a<=x.1)) (Jd False (Jv (0,0,())))
   (Jb (x.1==0) (Jd (a≠0) (Jd (a≠0) (Jv (IntKind.u64.wrap (x.2.1.tdiv a),x.2.1.tmod a,()))))
    (qk4 x.1 x.2.1 a)))
def aR{b:Bool}{x y:Fr α}{v:α}(a:b=Y)(h:y.ok/\y.get=v):(Jb b x y).ok/\(Jb b x y).get=v:=by
 subst a;exact⟨⟨λh=>(by cases h),λ_=>h.1⟩,h.2⟩
def aZ{b:Bool}{x y:Fr α}{v:α}(a:b=Z)(h:x.ok/\x.get=v):(Jb b x y).ok/\(Jb b x y).get=v:=by
 subst a;exact⟨⟨λ_=>h.1,λh=>(by cases h)⟩,h.2⟩
def aF{x:Fr α}{v:α}(a:p)(h:x.ok/\x.get=v):(Jd p x).ok/\(Jd p x).get=v:=⟨⟨a,h.1⟩,h.2⟩
def qfk:af prog 221 (bg [dU,dU,dU] [u64,u64] xD):=
 oP EE qf2 qf3
def Vi:eh a=wU (a*1125899906842624):=by
 have b:wU 50=50:=by decide
 have c:min (50:Int).toNat IntKind.u64.bits=50:=by decide
 unfold eh;rfl
def qvg{b:Int}(g:0<=a)(h:0<=b)(j:b<1125899906842624)(k:a*1125899906842624<18446744073709551616):
  wU ((BitVec.ofInt IntKind.u64.bits (a*1125899906842624) ||| BitVec.ofInt IntKind.u64.bits b).toNat:Int)=a*1125899906842624+b:=by
 obtain⟨m,rfl⟩:∃ m:Nat,a=m:=⟨a.toNat,by omega⟩;obtain⟨n,rfl⟩:∃ n:Nat,b=n:=⟨b.toNat,by omega⟩;have c:(BitVec.ofInt IntKind.u64.bits ((m:Int)*1125899906842624)).toNat=m*1125899906842624:=by
  show(((m:Int)*1125899906842624)%((2 ^ 64:Nat):Int)).toNat=m*1125899906842624;omega
 have d:(BitVec.ofInt IntKind.u64.bits (n:Int)).toNat=n:=by
  show((n:Int)%((2 ^ 64:Nat):Int)).toNat=n;omega
 have f:(m*1125899906842624 ||| n)=m*1125899906842624+n:=by
  have:=Nat.shiftLeft_add_eq_or_of_lt (i:=50) (b:=n) (by omega) m;rw[Nat.shiftLeft_eq]at this;have e:(2:Nat) ^ 50=1125899906842624:=by decide
  exact this.symm
 rw[BitVec.toNat_or,c,d,f];show IntKind.u64.wrap _=_;rw[dx (by omega)];omega
def qfh{hi lo f e d b a g h c:Int}(u:0<=hi/\hi<10000)(v:0<=lo/\lo<=18446744073709551615)(o:d=hi*1125899906842624+lo/16384)(m:b=lo*1125899906842624%18446744073709551616)(s:a=b/4294967296)(r:g=b%4294967296)(p:f=d/2621440000)(t:h=d-f*2621440000)(n:c=h*4294967296+a)(eq0:e=c/2621440000):
  g=0/\0<=a/\a<4294967296/\0<=f/\f<4294967296/\0<=h/\h<2621440000/\0<=e/\e<4294967296/\f*4294967296+e=(hi*18446744073709551616+lo)/10000/\(c-e*2621440000)*4294967296/1125899906842624=(hi*18446744073709551616+lo)%10000:=by
 have q:a=(lo%16384)*262144:=by omega
 have l:g=0:=by omega
 have i:0<=a/\a<4294967296:=by omega
 have b1:0<=f/\f<4294967296:=by omega
 have j:0<=h/\h<2621440000:=by omega
 have k:0<=e/\e<4294967296:=by omega
 refine⟨l,i.1,i.2,b1.1,b1.2,j.1,j.2,k.1,k.2,?_,?_⟩;omega;omega
def SV{q r u:Int}(c:0<=q/\q<4294967296):iR q 0 r u=false:=by
 unfold iR;have a:J (q>=4294967296)=false:=by simp;omega
 rw[a,Int.mul_zero];have b:IntKind.u64.wrap 0=0:=by decide
 have:0<=IntKind.u64.wrap (IntKind.u64.wrap (4294967296*r)+u):=by
  rw[IntKind.wrap_u64];omega
 simp;omega
def Pv{u:Int}(h:0<=u/\u<18446744073709551616):wU (u.tdiv 2621440000)=u/2621440000:=by
 rw[Int.tdiv_eq_ediv_of_nonneg h.1];exact dx (by omega)
def g1L{a b:Int}(d:0<=a/\a<4294967296)(c:0<=b/\b<4294967296):wU (wU (a*4294967296)+b)=a*4294967296+b:=by
 rw[show wU (a*4294967296)=a*4294967296 from dx (by omega)];exact dx (by omega)
def g2L{u a:Int}(b:a=u/2621440000)(c:0<=u/\u<18446744073709551616):wU (wU (wU (u*4294967296)+0)-wU (a*11258999068426240000))=(u-a*2621440000)*4294967296:=by
 simp only[IntKind.wrap_u64];omega
def qgd{u a b:Int}(h:0<=u-a*2621440000/\u-a*2621440000<2621440000)(c:0<=b/\b<4294967296):wU (wU (wU (u*4294967296)+b)-wU (a*11258999068426240000))=(u-a*2621440000)*4294967296+b:=by
 simp only[IntKind.wrap_u64];omega
def zch{r a:Int}(h:0<=r/\r<2621440000)(b:0<=a/\a<4294967296):0<=r*4294967296+a/\r*4294967296+a<18446744073709551616:=by omega
def zci{hi lo:Int}(a:0<=hi/\hi<10000)(b:0<=lo/\lo<=18446744073709551615):0<=hi*1125899906842624+lo/16384/\hi*1125899906842624+lo/16384<18446744073709551616:=by omega
def qfg{hi lo:Int}(B:hi≠0)(p:0<=hi/\hi<10000)(q:0<=lo/\lo<=18446744073709551615):
  (xD (hi,lo,10000,())).ok/\(xD (hi,lo,10000,())).get=((hi*18446744073709551616+lo)/10000,(hi*18446744073709551616+lo)%10000,()):=by
 have y:eh 10000=11258999068426240000:=by decide
 have b:bC (eh 10000)=2621440000:=by decide
 have d:ft (eh 10000)=0:=by decide
 have es:eh hi=hi*1125899906842624:=by rw[Vi];exact dx (by omega)
 have o:l9 hi lo=hi*1125899906842624+lo/16384:=by
  unfold l9;have x:lo.fdiv (2 ^ min (wU (64-wU 50)).toNat IntKind.u64.bits)=lo/16384:=by
   have:(2:Int) ^ min (wU (64-wU 50)).toNat IntKind.u64.bits=16384:=by decide
   rw[this,uag _ (by decide)]
  rw[x,es];exact qvg (by omega) (by omega) (by omega) (by omega)
 have el:eh lo=lo*1125899906842624%18446744073709551616:=by rw[Vi];exact IntKind.wrap_u64 _
 have C:0<=eh lo/\eh lo<=18446744073709551615:=by rw[el];omega
 have j:bC (eh lo)=eh lo/4294967296:=IJ;have i:=CF C;have k:dQ (l9 hi lo) 10000=l9 hi lo/2621440000:=by
  unfold dQ;rw[b,o];exact Pv (zci p q)
 obtain⟨D,r,s,t,u,v,w,e,f,n,c⟩:=qfh p q o el j i k rfl rfl rfl;have g:mJ hi lo 10000=(l9 hi lo-dQ (l9 hi lo) 10000*2621440000)*4294967296+bC (eh lo):=by
  unfold mJ;exact qgd ⟨v,w⟩ ⟨r,s⟩
 have a:=zch ⟨v,w⟩ ⟨r,s⟩;rw[<- g]at e f n c a;have eq0:dQ (mJ hi lo 10000) 10000=mJ hi lo 10000/2621440000:=by
  unfold dQ;exact Pv a
 rw[<- eq0]at e f n c;have z:wU (wU (dQ (l9 hi lo) 10000*4294967296)+dQ (mJ hi lo 10000) 10000)=(hi*18446744073709551616+lo)/10000:=by
  rw[<- n];exact g1L ⟨t,u⟩ ⟨e,f⟩
 have A:(wU (wU (wU (mJ hi lo 10000*4294967296)+ft (eh lo))-wU (dQ (mJ hi lo 10000) 10000*eh 10000))).fdiv (2 ^ min (wU 50).toNat IntKind.u64.bits)=(hi*18446744073709551616+lo)%10000:=by
  have h:(2:Int) ^ min (wU 50).toNat IntKind.u64.bits=1125899906842624:=by decide
  rw[h,y,D,uag _ (by decide),<- c,g2L eq0 a]
 have m:¬ (10000:Int)<=hi:=by omega
 have l:(hi==0)=false:=by simpa using B
 refine aR rfl (aR (udv m) (aR l ?_));refine aF rfl (aF (by decide) (aF (by decide) (aF (by decide) (aF (by decide) (aF (by decide) (aF (by decide) (aF ?_ (aF ?_ (aF ?_ (aF ?_ (aF (by decide) ⟨uT,?_⟩)))))))))));rw[b];decide;rw[d];exact SV ⟨t,u⟩;rw[b];decide;rw[d];exact SV ⟨e,f⟩;exact ufu z (ufu A rfl)
def A0:Ct:=⟨[dU,dU,dU],[u64,u64],λx=>((x.1*18446744073709551616+x.2.1)/x.2.2.1,(x.1*18446744073709551616+x.2.1)%x.2.2.1,()),λx=>[(x.1=0/\0<x.2.2.1)\/(x.2.2.1=10000/\x.1<10000)]⟩
def qfe{lo:Int}(a:0<=lo/\lo<=18446744073709551615)(e:0<y):(xD (0,lo,y,())).ok/\(xD (0,lo,y,())).get=((0*18446744073709551616+lo)/y,(0*18446744073709551616+lo)%y,()):=by
 rw[Int.zero_mul,Int.zero_add];have c:(y==0)=false:=by simp;omega
 have d:¬ y<=(0:Int):=by omega
 have b:y≠0:=by omega
 refine aR c (aR (udv d) (aZ rfl (aF b (aF b ⟨uT,?_⟩))));exact ufu (IntWalk.u64_quo lo y ⟨a.1,a.2,by omega⟩) (ufu (IntWalk.rem_in lo y a.1) rfl)
def qff: af prog 221 A0 :=
  cQ qfk _ _ (λw F x vs hr hok => by
    obtain⟨hi, lo, y, _⟩ := x
    obtain⟨v1, vs1, rfl, h1, v2, vs2, rfl, h2, v3, vs3, rfl, h3, _⟩ := hr
    have b1 := pP h1
    have b2 := pP h2
    have hok' : (hi = 0 /\ 0 < y) \/ (y = 10000 /\ hi < 10000) := hok
    have hcase : (hi = 0 /\ 0 < y) \/ (hi ≠ 0 /\ y = 10000 /\ hi < 10000) := by
      by_cases hz : hi = 0
      · exact .inl ⟨hz, by rcases hok' with h | h
                           · exact h.2
                           · rw[h.1];decide⟩
      · rcases hok' with h | h
        · exact absurd h.1 hz
        · exact .inr ⟨hz, h⟩
    rcases hcase with ⟨rfl, hy⟩ | ⟨h0, rfl, hlt⟩
    · exact qfe b2 hy
    · exact qfg h0 ⟨b1.1, hlt⟩ b2)
abbrev An:List (FuncId×Ct):=[(220,mD),(221,A0)]
def F9:iz prog An:=⟨JD,qff,uT⟩
noncomputable def M8:Cx:=cx An []
noncomputable def M9:Cx:=cW An [] (fU prog M8 Af)
noncomputable def Zq:Cx:=cW An [] (fU prog M9 Ag)
def Zo:CxOK prog M8:=aP aG F9 trivial
def Zp:CxOK prog M9:=cZ aG F9 trivial (gG Zo N5)
def Zr:CxOK prog Zq:=cZ aG F9 trivial (gG Zp N6)
def Bq(h l c:Int):Fr (aa [i64,i64]):=
 Jb (J (h>=c)) (Jv (0,5,())) (Jd ((h=0/\0<c)\/(c=10000/\h<10000)) (oI (A0.f (h,l,c,())).1 (A0.f (h,l,c,())).2.1 c))
def BT(x:ag [.d i64,.d i64,.d i64]):Fr (aa [i64,i64]):=
 let a:=mD.f (IntKind.u64.wrap x.1,IntKind.u64.wrap x.2.1,());Jb (bif bif J (x.1<0)then Z else J (x.2.1<0)then Z else J (x.2.2.1<0)) (Jv (0,1,()))
  (Jb (x.2.2.1==0) (Jv (0,6,()))
   (Bq a.1 a.2.1 (IntKind.u64.wrap x.2.2.1)))
def qgx{p c:Int}(k:0<=p)(f:0<c)(g:c<=9223372036854775807)(h:p<18446744073709551616\/c=10000):
  (Bq (p/18446744073709551616) (p%18446744073709551616) c).ok/\(Bq (p/18446744073709551616) (p%18446744073709551616) c).get=if jF p c>4000000000000000000 then (0,5,())else (jF p c,0,()):=by
 have e:p/18446744073709551616*18446744073709551616+p%18446744073709551616=p:=by omega
 have i:=Int.emod_nonneg p (b:=c) (by omega);have j:=Int.emod_lt_of_pos p f;have l:=udk k (uet f);by_cases d:p/18446744073709551616>=c;refine aZ (uea d) ⟨uT,?_⟩;rcases h with h|h
 omega;subst h;have:jF p 10000>4000000000000000000:=by
  unfold jF;split<;>omega
 rw[ufv this];rfl;have a:(p/18446744073709551616=0/\0<c)\/(c=10000/\p/18446744073709551616<10000):=by
  rcases h with h|h
  exact .inl ⟨by omega,f⟩;exact .inr ⟨h,by omega⟩
 refine aR (udv d) (aF a ?_);show(oI ((p/18446744073709551616*18446744073709551616+p%18446744073709551616)/c) ((p/18446744073709551616*18446744073709551616+p%18446744073709551616)%c) c).ok/\(oI ((p/18446744073709551616*18446744073709551616+p%18446744073709551616)/c) ((p/18446744073709551616*18446744073709551616+p%18446744073709551616)%c) c).get=_;rw[e];have key:=PJ ⟨i,j⟩ g l;refine⟨key.1,?_⟩;rw[key.2];rfl
def qg3{b c:Int}(l : -9223372036854775808<=a/\a<=9223372036854775807)(m : -9223372036854775808<=b/\b<=9223372036854775807)(j : -9223372036854775808<=c/\c<=9223372036854775807)(k:0<=a->0<=b->a*b<18446744073709551616\/c=10000):(BT (a,b,c,())).ok/\(BT (a,b,c,())).get=((cP a b c).1,(cP a b c).2,()):=by
 unfold BT;simp only[NQ];by_cases g:a<0\/b<0\/c<0;have h:(J (a<0) || (J (b<0) || J (c<0)))=true:=by simpa using g
 refine aZ h ⟨uT,?_⟩;unfold cP;rw[ufv g];rfl;have h:(J (a<0) || (J (b<0) || J (c<0)))=false:=by simpa using g
 have d:0<=a:=by omega
 have f:0<=b:=by omega
 have e:=ueb d f;refine aR h ?_;rw[show IntKind.u64.wrap a=a from dx (by omega),show IntKind.u64.wrap b=b from dx (by omega),show IntKind.u64.wrap c=c from dx (by omega)];unfold cP;rw[ufw g];by_cases i:c=0;refine aZ (by simpa using i) ⟨uT,?_⟩;rw[ufv i];rfl;refine aR (by simpa using i) ?_;have key:=qgx e (by omega) j.2 (k d f);refine⟨key.1,?_⟩;show(Bq (a*b/18446744073709551616) (a*b%18446744073709551616) c).get=_;rw[key.2];split<;>rfl
def Gj:Ct:=⟨[.d i64,.d i64,.d i64],[i64,i64],λx=>((cP x.1 x.2.1 x.2.2.1).1,(cP x.1 x.2.1 x.2.2.1).2,()),λx=>[0<=x.1->0<=x.2.1->x.1*x.2.1<18446744073709551616\/x.2.2.1=10000]⟩
def qg2:af prog 150 Gj:=
 flat (ps:=[.d i64,.d i64,.d i64]) (rs:=[i64,i64]) Zr (fn:=f150) (fr:=BT) (0,0,0,()) (by kernel_rfl) (λx=>by kernel_rfl) _ _
  (λw F x vs i e=>by
   obtain⟨a,b,c,u⟩:=x;obtain⟨m,j,rfl,f,n,k,rfl,g,o,l,rfl,h,_⟩:=i;exact qg3 (uf f) (uf g) (uf h) e)
def bpF(m b:Int):Int×Int:=cP m b 10000
def iC:Ct:=⟨[.d i64,.d i64],[i64,i64],λx=>((bpF x.1 x.2.1).1,(bpF x.1 x.2.1).2,()),λ_=>[]⟩
noncomputable def Zs:Cx:=cx [(150,Gj)] []
def Zt:CxOK prog Zs:=aP aG ⟨qg2,uT⟩ trivial
def wL:af prog 95 iC:=
 flat (ps:=[.d i64,.d i64]) (rs:=[i64,i64]) Zt (fn:=f95) (fr:=λx=>Jd (0<=x.1->0<=x.2.1->x.1*x.2.1<18446744073709551616\/(10000:Int)=10000) (Jv (Gj.f (x.1,x.2.1,10000,())))) (0,0,()) (by kernel_rfl) (λx=>by kernel_rfl) _ _
  (λw F x vs b a=>⟨⟨λ_ _=>.inr rfl,uT⟩,rfl⟩)
def Ln:ByteArray:=⟨(0::1::(List.replicate 2 2++(List.replicate 4 3++(List.replicate 8 4++(List.replicate 16 5++(List.replicate 32 6++(List.replicate 64 7++List.replicate 128 8))))))).toArray⟩
def kb(m:Nat):Nat:=(Ln.data.getD m 0).toNat
def ro(x n:Int):Fr (aa [i64]):=Jd (0<=IntKind.u8.wrap x/\IntKind.u8.wrap x<(Ln.size:Int)) (Jv (I6.wrap (n+I6.wrap (kb (IntKind.u8.wrap x).toNat:Int)),()))
def mh(k:Nat)(x:Int):Int:=x.fdiv (2 ^ min (Int.toNat k) IntKind.u64.bits)
def Jr(x n:Int):Fr (aa [i64]):=Jb (J (x>=256)) (Jd (¬ (8:Int)<0) (ro (mh 8 x) (I6.wrap (n+8)))) (ro x n)
def CA(x n:Int):Fr (aa [i64]):=Jb (J (x>=65536)) (Jd (¬ (16:Int)<0) (Jr (mh 16 x) (I6.wrap (n+16)))) (Jr x n)
def yi(x:ag [.d u64]):Fr (aa [i64]):=Jb (J (x.1>=4294967296)) (Jd (¬ (32:Int)<0) (CA (mh 32 x.1) 32)) (CA x.1 0)
def qz6(h:0<=x):mh 8 x=x/2 ^ 8:=by
 unfold mh;rw[uag _ (by decide)];rfl
def qz4(h:0<=x):mh 16 x=x/2 ^ 16:=by
 unfold mh;rw[uag _ (by decide)];rfl
def qz5(h:0<=x):mh 32 x=x/2 ^ 32:=by
 unfold mh;rw[uag _ (by decide)];rfl
def nP(x n K:Int)(f:Fr (aa [i64])):Prop:=f.ok/\∃ k:Nat,(f.get).1=n+k/\1<=k/\(k:Int)<=K/\(2:Int) ^ (k-1)<=x/\x<2 ^ k
def zbl:(Ln.size:Int)=256:=by decide +kernel
def zbm:∀ x:Fin 256,x.val≠0->1<=kb x.val/\kb x.val<=8/\2 ^ (kb x.val-1)<=x.val/\x.val<2 ^ kb x.val:=by decide +kernel
def Su{n:Int}(g:1<=x/\x<256)(f:0<=n/\n<=1000):nP x n 8 (ro x n):=by
 obtain⟨m,rfl⟩:∃ m:Nat,x=m:=⟨x.toNat,by omega⟩;have e:IntKind.u8.wrap (m:Int)=m:=by show(m:Int)%((2 ^ 8:Nat):Int)=m;omega
 obtain⟨a,d,b,c⟩:1<=kb m/\kb m<=8/\2 ^ (kb m-1)<=m/\m<2 ^ kb m:=zbm ⟨m,by omega⟩ (show m≠0 by omega);refine⟨⟨?_,uT⟩,_,?_,a,by omega,by exact_mod_cast b,by exact_mod_cast c⟩;rw[e];rw[zbl];omega;show I6.wrap (n+I6.wrap (kb (IntKind.u8.wrap (m:Int)).toNat:Int))=_;rw[e,uc0];rw[show I6.wrap (kb m:Int)=(kb m:Int) from cz (by omega)];exact cz (by omega)
def qz7{k:Nat}(f:1<=k)(d:(2:Int) ^ (k-1)<=x/2 ^ j)(e:x/2 ^ j<2 ^ k):(2:Int) ^ (j+k-1)<=x/\x<2 ^ (j+k):=by
 have a:(0:Int)<2 ^ j:=Int.pow_pos (by decide);have b:(2:Int) ^ (j+k-1)=2 ^ (k-1)*2 ^ j:=by rw[<- Int.pow_add];congr 1;omega
 have c:(2:Int) ^ (j+k)=2 ^ k*2 ^ j:=by rw[<- Int.pow_add];congr 1;omega
 rw[b,c];exact⟨(Int.le_ediv_iff_mul_le a).1 d,(Int.ediv_lt_iff_lt_mul a).1 e⟩
def Js{n K:Int}{b:Bool}{f g:Fr (aa [i64])}(t:p)(r:b=Z->nP (x/2 ^ j) (n+j) K f)(s:b=Y->nP x n K g):nP x n (K+j) (Jb b (Jd p f) g):=by
 cases l:b with
 |true=>
  obtain⟨i,k,a,c,m,d,e⟩:=r l;obtain⟨o,q⟩:=qz7 c d e;exact⟨⟨λ_=>⟨t,i⟩,λh=>(by cases h)⟩,j+k,a.trans (Int.add_assoc _ _ _),by omega,by omega,o,q⟩
 |false=>
  obtain⟨i,k,a,c,m,d,e⟩:=s l;exact⟨⟨λh=>(by cases h),λ_=>i⟩,k,a,c,by omega,d,e⟩
def Sv{n:Int}(c:1<=x/\x<65536)(b:0<=n/\n<=900):nP x n (8+(8:Nat)) (Jr x n):=
 Js (j:=8) (by decide) (λh=>by
  have a:x>=256:=by simpa using h
  rw[qz6 (by omega),show I6.wrap (n+8)=n+8 from cz (by omega)];exact Su ⟨by omega,by omega⟩ ⟨by omega,by omega⟩) (λh=>by
  have a:¬ x>=256:=by simpa using h
  exact Su ⟨by omega,by omega⟩ ⟨by omega,by omega⟩)
def Sw{n:Int}(c:1<=x/\x<4294967296)(b:0<=n/\n<=800):nP x n (8+(8:Nat)+(16:Nat)) (CA x n):=
 Js (j:=16) (by decide) (λh=>by
  have a:x>=65536:=by simpa using h
  rw[qz4 (by omega),show I6.wrap (n+16)=n+16 from cz (by omega)];exact Sv ⟨by omega,by omega⟩ ⟨by omega,by omega⟩) (λh=>by
  have a:¬ x>=65536:=by simpa using h
  exact Sv ⟨by omega,by omega⟩ ⟨by omega,by omega⟩)
def Sx(b:1<=x/\x<18446744073709551616):nP x 0 (8+(8:Nat)+(16:Nat)+(32:Nat)) (yi (x,())):=
 Js (j:=32) (by decide) (λh=>by
  have a:x>=4294967296:=by simpa using h
  show nP (x/2 ^ 32) _ _ (CA (mh 32 x) 32);rw[qz5 (by omega)];exact Sw ⟨by omega,by omega⟩ ⟨by omega,by omega⟩) (λh=>by
  have a:¬ x>=4294967296:=by simpa using h
  exact Sw ⟨by omega,by omega⟩ ⟨by omega,by omega⟩)
def Gu:Ct:=⟨[.d u64],[i64],λx=>(yi x).get,λx=>[1<=x.1]⟩
def qqd:af prog 243 Gu:=
 cQ (aS (aP (cs:=[]) (ps:=[]) aG trivial trivial) f243 (fr:=yi)) _ _
  (λw F x vs d b=>by
   obtain⟨n,_⟩:=x;obtain⟨f,e,rfl,c,_⟩:=d;have b1:=pP c;have a:1<=n:=b;exact⟨(Sx ⟨a,by omega⟩).1,rfl⟩)
def qy:Ct:=⟨[.d u64],[i64],λx=>(I6.wrap (64-(yi x).get.1),()),λx=>[1<=x.1]⟩
def qti:af prog 235 qy:=
 conv (aS (aP (cs:=[(243,Gu)]) (ps:=[]) aG ⟨qqd,uT⟩ trivial) f235 (fr:=λx=>Jd (1<=x.1) (Jv (I6.wrap (64-(Gu.f (x.1,())).1),()))) (ps:=[.d u64])) _ _
  (λw F x vs _ a=>⟨⟨a,uT⟩,rfl⟩)
def jk(a b d q r:Int):Int×Int:=
 if iR q b r d=Z then
  if h:IntKind.u64.wrap (r+a)<4294967296/\r<IntKind.u64.wrap (r+a)then jk a b d (IntKind.u64.wrap (q-1)) (IntKind.u64.wrap (r+a))
  else (IntKind.u64.wrap (q-1),IntKind.u64.wrap (r+a))
 else (q,r)
termination_by (4294967296-r).toNat
decreasing_by omega
abbrev mw(a r:Int):Prop:=(1<=a/\a<4294967296)/\0<=r/\r<4294967296
def Zw(x:nR.X):Fr uW.Out:=
 match x with
 |((y,s,a,b,c,d,e,q,r,_),_)=>Jd (mw a r) (Jv (Rd.out ((y,s,a,b,c,d,e,(jk a b d q r).1,(jk a b d q r).2,()),())))
def Zx(x:nS.X):Fr uX.Out:=
 match x with
 |((y,s,a,b,d,e,q,r,u,v,_),_)=>Jd (mw a r) (Jv (Rd.out ((y,s,a,b,d,e,q,(jk a b e v r).2,u,(jk a b e v r).1,()),())))
noncomputable def WX:Cx:=cx [(235,qy)] []
def ED:CxOK prog WX:=aP aG ⟨qti,uT⟩ trivial
def RV{b d q r:Int}(hi:mw a r)(f:iR q b r d=Z)(c:J (IntKind.u64.wrap (r+a)>=4294967296)=Y):
  mw a (IntKind.u64.wrap (r+a))/\(4294967296-IntKind.u64.wrap (r+a)).toNat<(4294967296-r).toNat/\jk a b d q r=jk a b d (IntKind.u64.wrap (q-1)) (IntKind.u64.wrap (r+a)):=by
 have e:IntKind.u64.wrap (r+a)=r+a:=dx (by omega);have g:¬ (r+a>=4294967296):=by rw[e]at c;simpa using c
 refine⟨?_,?_,?_⟩;rw[e];omega;rw[e];omega;rw[jk,ufv f,dif_pos (by rw[e];omega)]
def RU{b d q r:Int}(e:iR q b r d=Z)(c:J (IntKind.u64.wrap (r+a)>=4294967296)=Z):jk a b d q r=(IntKind.u64.wrap (q-1),IntKind.u64.wrap (r+a)):=by
 have f:IntKind.u64.wrap (r+a)>=4294967296:=by simpa using c
 rw[jk,ufv e,dif_neg (by omega)]
def RT{b d q r:Int}(c:iR q b r d=Y):jk a b d q r=(q,r):=by
 rw[jk,ufw (by rw[c];decide)]
def qf4:ae prog (.loop (au f221 0)) nR uW Zw:=
 ae.loop (ae.of_run ED (bs:=0) (f:=PN) rfl rfl rfl (λ_=>aY _ 0) (λx=>by kernel_rfl)) (inv:=λx=>mw x.1.2.2.1 x.1.2.2.2.2.2.2.2.2.1) (μ:=λx=>(4294967296-x.1.2.2.2.2.2.2.2.2.1).toNat)
  (by
   rintro⟨⟨y,s,a,b,c,d,e,q,r,_⟩,_⟩ i Q g;have g:=g.2;refine⟨λh=>⟨λj=>?_,λj=>?_⟩,λh=>?_⟩;rw[RU h j]at g;exact g;obtain⟨k,l,m⟩:=RV i h j;rw[m]at g;exact⟨k,l,k,g⟩;rw[RT h]at g;exact g)
  (λx Q h=>h.1)
def qf5:ae prog (.loop (au f221 1)) nS uX Zx:=
 ae.loop (ae.of_run ED (bs:=0) (f:=PO) rfl rfl rfl (λ_=>aY _ 0) (λx=>by kernel_rfl)) (inv:=λx=>mw x.1.2.2.1 x.1.2.2.2.2.2.2.2.1) (μ:=λx=>(4294967296-x.1.2.2.2.2.2.2.2.1).toNat)
  (by
   rintro⟨⟨y,s,a,b,d,e,q,r,u,v,_⟩,_⟩ g Q c;have c:=c.2;refine⟨λh=>⟨λi=>?_,λi=>?_⟩,λh=>?_⟩;rw[RU h i]at c;exact c;obtain⟨j,k,l⟩:=RV g h i;rw[l]at c;exact⟨j,k,j,c⟩;rw[RT h]at c;exact c)
  (λx Q h=>h.1)
def mi(s a:Int):Int:=wU (a*2 ^ min s.toNat IntKind.u64.bits)
def Wm(s hi lo:Int):Int:=wU ((BitVec.ofInt IntKind.u64.bits (mi s hi) ||| BitVec.ofInt IntKind.u64.bits (lo.fdiv (2 ^ min (wU (64-s)).toNat IntKind.u64.bits))).toNat:Int)
def qG(u y:Int):Int:=wU (u.tdiv (bC y))
def rG(u y:Int):Int:=wU (u-wU (qG u y*bC y))
def CW(u y d:Int):Int×Int:=jk (bC y) (ft y) d (qG u y) (rG u y)
def Es(u y l:Int):Int:=wU (wU (wU (u*4294967296)+bC l)-wU ((CW u y (bC l)).1*y))
def Q6(s u l y:Int)(z:Fr (aa [u64,u64])):Fr (aa [u64,u64]):=
 let a:=¬ (32:Int)<0;Jd (¬ s<0) (Jd a (Jd (¬ s<0) (Jd (¬ wU (64-s)<0) (Jd (¬ s<0) (Jd a
  (Jd (bC y≠0) (Jd (mw (bC y) (rG u y)) (Jd (bC y≠0) (Jd (mw (bC y) (rG (Es u y l) y)) (Jd (¬ s<0) z))))))))))
def zG(s u l y:Int):aa [u64,u64]:=
 (wU (wU ((CW u y (bC l)).1*4294967296)+(CW (Es u y l) y (ft l)).1),
  (wU (wU (wU (Es u y l*4294967296)+ft l)-wU ((CW (Es u y l) y (ft l)).1*y))).fdiv (2 ^ min s.toNat IntKind.u64.bits),())
def Ir(x:ag [dU,dU,dU]):Fr (aa [u64,u64]):=
 let b:=x.2.2.1;let a:=wU (qy.f (b,())).1;let d:=mi a x.2.1;let c:=Wm a x.1 x.2.1;Jb (b==0) (Jd False (Jv (0,0,())))
  (Jb (J (b<=x.1)) (Jd False (Jv (0,0,())))
   (Jb (x.1==0) (Jd (b≠0) (Jd (b≠0) (Jv (IntKind.u64.wrap (x.2.1.tdiv b),x.2.1.tmod b,()))))
    (Jd (1<=b) (Q6 a c d (mi a b)
     (Jv (zG a c d (mi a b)))))))
def qfd:af prog 221 (bg [dU,dU,dU] [u64,u64] Ir):=
 oP ED qf4 qf5
def LD(x:Int):0<=wU x/\wU x<18446744073709551616:=by
 show 0<=IntKind.u64.wrap x/\IntKind.u64.wrap x<_;rw[IntKind.wrap_u64];omega
def qwy{u:Int}(a:0<=u/\u<18446744073709551616)(f:1<=bC y):rG u y=u%bC y:=by
 have e:qG u y=u/bC y:=by
  unfold qG;rw[Int.tdiv_eq_ediv_of_nonneg a.1];exact dx ⟨udk a.1 (by omega),by have:=Int.ediv_le_self (bC y) a.1;omega⟩
 have c:=Int.mul_ediv_add_emod u (bC y);have b:=Int.emod_nonneg u (show bC y≠0 by omega);have d:=ueb (show 0<=bC y by omega) (udk a.1 (show 0<=bC y by omega));unfold rG;rw[e,show wU (u/bC y*bC y)=u/bC y*bC y from dx (by rw[ue0];omega)];rw[show u-u/bC y*bC y=u%bC y by rw[ue0];omega];exact dx (by omega)
def RW{u:Int}(b:0<=u/\u<18446744073709551616)(a:1<=bC y/\bC y<4294967296):mw (bC y) (rG u y):=by
 refine⟨a,?_⟩;rw[qwy b a.1];have c:=Int.emod_nonneg u (show bC y≠0 by omega);have d:=Int.emod_lt_of_pos u (show 0<bC y by omega);omega
def qtj(e:1<=y/\y<18446744073709551616):∃ s:Nat,s<=63/\wU (qy.f (y,())).1=s/\(9223372036854775808:Int)<=y*2 ^ s/\y*2 ^ s<18446744073709551616:=by
 obtain⟨_,k,a,g,i,c,d⟩:=Sx e;have b:k<=64:=by omega
 refine⟨64-k,by omega,?_,?_,?_⟩;show wU (I6.wrap (64-(yi (y,())).get.1))=_;rw[a,show I6.wrap (64-(0+(k:Int)))=64-(0+(k:Int)) from cz (by omega)];rw[show wU (64-(0+(k:Int)))=64-(0+(k:Int)) from dx (by omega)];omega;have h:=Int.mul_le_mul_of_nonneg_right c (show(0:Int)<=2 ^ (64-k) from uet (Int.pow_pos (by decide)));rw[<- Int.pow_add,show k-1+(64-k)=63 by omega]at h;exact h;have h:=Int.mul_lt_mul_of_pos_right d (show(0:Int)<2 ^ (64-k) from Int.pow_pos (by decide));rw[<- Int.pow_add,show k+(64-k)=64 by omega]at h;exact h
def qfc{hi lo:Int}(b1:0<=hi)(i:y<=18446744073709551615)(b:hi<y):(Ir (hi,lo,y,())).ok:=by
 obtain⟨s,s1,g,j,k⟩:=qtj (y:=y) ⟨by omega,by omega⟩;refine⟨λh=>?_,λ_=>⟨λh=>?_,λ_=>⟨λ_=>⟨?_,?_,uT⟩,λ_=>⟨?_,?_⟩⟩⟩⟩;have:y=0:=by simpa using h
 omega;have:y<=hi:=by simpa using h
 omega;show y≠0;omega;show y≠0;omega;show 1<=y;omega;show(Q6 (wU (qy.f (y,())).1) (Wm (wU (qy.f (y,())).1) hi lo) _ (mi (wU (qy.f (y,())).1) y) _).ok;rw[g];have d:mi (s:Int) y=y*2 ^ s:=by
  unfold mi;rw[uc0,show min s IntKind.u64.bits=s from udp (by show s<=64;omega)];exact dx (by omega)
 have c:1<=bC (mi (s:Int) y)/\bC (mi (s:Int) y)<4294967296:=by
  rw[IJ,d];omega
 have e:=LD ((BitVec.ofInt IntKind.u64.bits (mi s hi) ||| BitVec.ofInt IntKind.u64.bits (lo.fdiv (2 ^ min (wU (64-(s:Int))).toNat IntKind.u64.bits))).toNat:Int);have a:¬ wU (64-(s:Int))<0:=by have:=LD (64-(s:Int));omega
 exact⟨by omega,by decide,by omega,a,by omega,by decide,by omega,RW e c,by omega,RW (LD _) c,by omega,uT⟩
def Gg:Ct:=⟨[dU,dU,dU],[u64,u64],λx=>(Ir x).get,λx=>[x.1<x.2.2.1]⟩
def qfb:af prog 221 Gg:=
 cQ qfd _ _ (λw F x vs d a=>by
  obtain⟨hi,lo,y,_⟩:=x;obtain⟨i,e,rfl,b,j,f,rfl,h,k,g,rfl,c,_⟩:=d;exact⟨qfc (pP b).1 (pP c).2 a,rfl⟩)
noncomputable def ZQ:FuncId->Option (Func×(Nat->St->Option Tr)):=cu [(237,(f237,bw))]
noncomputable def ZR:FuncId->Option (Func×(Nat->St->Option Tr)):=cu [(200,(f200,bw)),(225,(f225,bw))]
noncomputable def ZS:FuncId->Option (Func×(Nat->St->Option Tr)):=cu [(204,(f204,bw)),(224,(f224,bw))]
abbrev Al:List (FuncId×Ct):=[(220,mD),(221,Gg)]
def F7:iz prog Al:=⟨JD,qfb,uT⟩
noncomputable def M5:Cx:=cx Al []
noncomputable def M6:Cx:=cW Al [] (fU prog M5 ZQ)
noncomputable def Zk:Cx:=cW Al [] (fU prog M6 ZR)
def Zi:CxOK prog M5:=aP aG F7 trivial
def qe:∀ f fn Λ,cu (α:=Func×(Nat->St->Option Tr)) [] f=U (fn,Λ)->prog.funcs[f]?= U fn/\∀ c a,fn.body=U c->bP prog a Λ c 0:=λ_ _ _ h=>(nomatch h)
def lk{g:FuncId}{b:Func}{r:List (FuncId×(Func×(Nat->St->Option Tr)))}(e:prog.funcs[g]?= U b)(i:∀ f fn Λ,cu r f=U (fn,Λ)->prog.funcs[f]?= U fn/\∀ c a,fn.body=U c->bP prog a Λ c 0):
  ∀ f fn Λ,cu ((g,(b,bw))::r) f=U (fn,Λ)->prog.funcs[f]?= U fn/\∀ c a,fn.body=U c->bP prog a Λ c 0:=λf fn Λ h=>by
 simp only[cu]at h;split at h;rename_i d;subst d;cases h;exact⟨e,λc a _=>aY c 0⟩;exact i f fn Λ h
def Zj:CxOK prog M6:=cZ aG F7 trivial (gG Zi (lk (by kernel_rfl) qe))
def Zl:CxOK prog Zk:=cZ aG F7 trivial (gG Zj (lk (by kernel_rfl) (lk (by kernel_rfl) qe)))
def qee{ps:List PT}{rs:List Ty}{fr:ag ps->Fr (aa rs)}(h:af P f (bg ps rs fr))(ok:ag ps->List Prop)(b:∀ w F xs vs,cJ P w F ps xs vs->av (ok xs)->(fr xs).ok):af P f ⟨ps,rs,λx=>(fr x).get,ok⟩:=
 cQ h _ ok (λw F xs vs c a=>⟨b w F xs vs c a,rfl⟩)
def my(A:σ->Prop)(B:ρ->Prop):σ ⊕ ρ->Prop
 |.inl s=>A s
 |.inr y=>B y
def Tm{step:Int->T->σ->Fr (σ ⊕ ρ)}(I:Nat->σ->Prop)(Q:ρ->Prop)(a:List T)(h:∀ (i:Nat) e s,a[i]?= U e->I i s->(step (i:Int) e s).satP (my (I (i+1)) Q)):
  (l:List T)->(i:Nat)->a.drop i=l->(s:σ)->I i s->eJ step (i:Int) l s/\my (I (i+l.length)) Q (da step (i:Int) l s)
 |[],_,_,_,c=>⟨uT,c⟩
 |e::r,i,g,s,c=>by
  have j:a[i]?= U e:=by
   have:=uft (·[0]?) g;simpa using this
  have k:a.drop (i+1)=r:=by
   have:=uft (List.drop 1) g;simpa[List.drop_drop]using this
  obtain⟨d,b⟩:=cO (h i e s j c);unfold eJ da;cases f:(step (i:Int) e s).get with
  |inl m=>
   rw[f]at b;have:=Tm I Q a h r (i+1) k m b;rw[show i+(e::r).length=i+1+r.length by simp;omega];exact⟨⟨d,this.1⟩,this.2⟩
  |inr y=>
   rw[f]at b;exact⟨⟨d,uT⟩,b⟩
def nm{step:Int->T->σ->Fr (σ ⊕ ρ)}(I:Nat->σ->Prop)(Q:ρ->Prop)(l:List T)(h:∀ (i:Nat) e s,l[i]?= U e->I i s->(step (i:Int) e s).satP (my (I (i+1)) Q))(s:σ)(a:I 0 s):
  eJ step 0 l s/\my (I l.length) Q (da step 0 l s):=by
 have:=Tm I Q l h l 0 rfl s a
 rwa [uex]at this
def Tl{step:Int->T->σ->Fr σ}(I:Nat->σ->Prop)(a:List T)(h:∀ (i:Nat) e s,a[i]?= U e->I i s->(step (i:Int) e s).satP (λk=>I (i+1) k)):
  (l:List T)->(i:Nat)->a.drop i=l->(s:σ)->I i s->bM step (i:Int) l s/\I (i+l.length) (bO step (i:Int) l s)
 |[],_,_,_,b=>⟨uT,b⟩
 |e::r,i,c,s,b=>by
  have g:a[i]?= U e:=by
   have:=uft (·[0]?) c;simpa using this
  have j:a.drop (i+1)=r:=by
   have:=uft (List.drop 1) c;simpa[List.drop_drop]using this
  obtain⟨d,f⟩:=cO (h i e s g b);have:=Tl I a h r (i+1) j _ f;unfold bM bO;rw[show i+(e::r).length=i+1+r.length by simp;omega];exact⟨⟨d,this.1⟩,this.2⟩
def dk{step:Int->T->σ->Fr σ}(I:Nat->σ->Prop)(l:List T)(h:∀ (i:Nat) e s,l[i]?= U e->I i s->(step (i:Int) e s).satP (λb=>I (i+1) b))(s:σ)(a:I 0 s):bM step 0 l s/\I l.length (bO step 0 l s):=by
 have:=Tl I l h l 0 rfl s a
 rwa [uex]at this
def iY(p q:Prop)(g:σ ⊕ ρ)(d:σ)(a:ρ)(k:σ->Fr α)(r:ρ->Fr α):Fr α:=.need p (.need q (.br (dF g) (k (dO d g)) (r (zej a g))))
def cI(p q:Prop)(g:σ)(k:σ->Fr α):Fr α:=.need p (.need q (k g))
def E3{q:Prop}{g:σ ⊕ ρ}{d:σ}{b:ρ}{k:σ->Fr α}{r:ρ->Fr α}{Q:α->Prop}{A:σ->Prop}{B:ρ->Prop}(e:p)(h:q/\my A B g)(c:∀ s,A s->(k s).satP Q)(f:∀ y,B y->(r y).satP Q):(iY p q g d b k r).satP Q:=by
 refine⟨e,h.1,?_⟩;have a:=h.2;cases g with
 |inl s=>exact⟨λ_=>c s a,λh=>(by cases h)⟩
 |inr y=>exact⟨λh=>(by cases h),λ_=>f y a⟩
def fz{q:Prop}{g:σ}{k:σ->Fr α}{Q:α->Prop}{A:σ->Prop}(b:p)(h:q/\A g)(a:∀ s,A s->(k s).satP Q):(cI p q g k).satP Q:=⟨b,h.1,a g h.2⟩
def dnT(q:Int):Fr (aa [i64,i64]):=Jb (J (q>4000000000000000000)) (Jv (0,5,())) (Jb Y (mR (IntKind.u64.wrap (q+1))) (mR q))
def Pq(h l c:Int):Fr (aa [i64,i64]):=Jb (J (h>=c)) (Jv (0,5,())) (Jd (h<c) (dnT (Gg.f (h,l,c,())).1))
def Q7(x:ag [.d i64,.d i64,.d i64]):Fr (aa [i64,i64]):=
 let a:=mD.f (IntKind.u64.wrap x.1,IntKind.u64.wrap x.2.1,());Jb (bif bif J (x.1<0)then Z else J (x.2.1<0)then Z else J (x.2.2.1<0)) (Jv (0,1,()))
  (Jb (x.2.2.1==0) (Jv (0,6,()))
   (Pq a.1 a.2.1 (IntKind.u64.wrap x.2.2.1)))
def PI(q:Int):(mR q).ok:=⟨λ_=>uT,λ_=>uT⟩
def qfl(h l c:Int):(Pq h l c).ok:=⟨λ_=>uT,λa=>⟨by have:=uch a;omega,λ_=>uT,λ_=>⟨λ_=>PI _,λ_=>PI _⟩⟩⟩
def Gi:Ct:=⟨[.d i64,.d i64,.d i64],[i64,i64],λx=>(Q7 x).get,λ_=>[]⟩
def qf7:af prog 205 Gi:=
 qee (aS Zl f205 (fr:=Q7)) _ (λ_ _ _ _ _ _=>⟨λ_=>uT,λ_=>⟨λ_=>uT,λ_=>qfl _ _ _⟩⟩)
noncomputable def EK:Cx:=cW [(205,Gi)] [] (fU prog (cx [] []) ZS)
def wy:CxOK prog EK:=cZ aG ⟨qf7,uT⟩ trivial (gG (aP (cs:=[]) (ps:=[]) aG trivial trivial) (lk (by kernel_rfl) (lk (by kernel_rfl) qe)))
abbrev pu:Pt:=⟨105,0,⟨[(35,.d i64),(34,.d i64),(33,.d aK),(0,.d i64),(7,.d .bool)],[.o 8 3 i64,.x 280001 3 i64,.g 6 224 [280001]]⟩,⟨[(7,.d .bool),(0,.d i64)],[.o 8 3 i64]⟩,⟨[(4,.d aK),(5,.d i64)],[]⟩⟩
def wa(k:Int×(List Int)×Int)(b:Prop)(i:Int)(e:i64.den)(s:Bool×(List Int)×Int):Fr ((Bool×(List Int)×Int) ⊕ pu.R.X):=
 Jd b (Jb (J (e<0)) (Jb (1==1) (Jv (.inr (([],1,()),()))) (Jd (s.2.1.length + [0].length<=maxLen/\(s.2.1.length + [0].length)*8<=140737488355328) (Jv (.inl (bif s.1 then Z else 1==5,s.2.1++[0],s.2.2))))) (Jb (bif J (I6.wrap (s.2.2+e)>4000000000000000000)then Z else J (I6.wrap (s.2.2+e)<0)) (Jb (5==1) (Jv (.inr (([],5,()),()))) (Jd (s.2.1.length + [0].length<=maxLen/\(s.2.1.length + [0].length)*8<=140737488355328) (Jv (.inl (bif s.1 then Z else 5==5,s.2.1++[0],4000000000000000001))))) (Jb (0==1) (Jv (.inr (([],0,()),()))) (Jd (s.2.1.length + [I6.wrap (s.2.2+e)].length<=maxLen/\(s.2.1.length + [I6.wrap (s.2.2+e)].length)*8<=140737488355328) (Jv (.inl (bif s.1 then Z else 0==5,s.2.1++[I6.wrap (s.2.2+e)],I6.wrap (s.2.2+e))))))))
def Ni:pu.M.X->Fr pu.Out:=FK (λx=>(x.1.1,(x.1.2.1,x.1.2.2.1,x.1.2.2.2.1),(x.1.2.2.2.2.1,x.2.1,x.2.2.1))) (λk=>k.1) (λk=>k.2.1) wa (λk s=>((s.1,k.2.2,()),s.2.1,())) (λ_ y=>Rd.back y) (Y,[],0) (aW _,bN _)
def qsl:ae prog (.loop (au f174 0)) pu.M pu Ni:=
 lm wy (λi k s=>((i,k.1,k.2.1,k.2.2,s.1,()),s.2.1,s.2.2,())) i64.dflt
def qml:=λk s=>da (wa k True) 0 k.2.1 s
def qus:=λk s=>eJ (wa k True) 0 k.2.1 s
def zea(Γ:Gm):St->Option Tr:=pu.han Γ pu.M Ni
abbrev vz:Pt:=⟨105,3,⟨[(84,.d i64),(83,.d i64),(0,.d i64),(13,.d i64),(15,.d i64)],[.o 82 3 i64,.o 14 3 i64]⟩,⟨[],[.o 14 3 i64]⟩,⟨[],[]⟩⟩
def zl(k:Int×Int×Int×(List Int))(b:Prop)(i:Int)(e:i64.den)(s:Int×(List Int)):Fr (Int×(List Int)):=
 let a:=Gi.f (k.2.1,e,k.2.2.1,());Jd b (Jd (Int.toNat i<k.2.2.2.length) (Jd (0<=i/\i<(s.2.length:Int)) (Jd (Int.toNat i<s.2.length) (Jv (a.1,s.2.set (Int.toNat i) (I6.wrap (a.1-s.1)))))))
def Nj:vz.M.X->Fr vz.Out:=FG (λx=>(x.1.1,(x.1.2.1,x.1.2.2.1,x.1.2.2.2.1,x.2.1),(x.1.2.2.2.2.1,x.2.2.1))) (λk=>k.1) (λk=>k.2.2.2) zl (λk s=>((),s.2,()))
def qsm:ae prog (.loop (au f174 1)) vz.M vz Nj:=
 cN wy (λi k s=>((i,k.1,k.2.1,k.2.2.1,s.1,()),k.2.2.2,s.2,())) i64.dflt
def qmm:=λk s=>bO (zl k True) 0 k.2.2.2 s
def qut:=λk s=>bM (zl k True) 0 k.2.2.2 s
def zeb(Γ:Gm):St->Option Tr:=vz.han Γ vz.M Nj
def xy(x:ag [.d i64,.d aK]):Fr (aa [aK,i64]):=
 Jb (bif J (x.1<0)then Z else J (((List.length x.2.1):Int)>2000)) (Jv ([],1,())) (Jd ((0:Int)<=0/\0<=((List.length x.2.1):Int)/\((List.length x.2.1):Int)<=(maxLen:Int)/\((List.length x.2.1):Int)*(8:Int)<=140737488355328) (iY (InK (((List.length x.2.1):Int)) 0 (List.length x.2.1)) (qus (((List.length x.2.1):Int),x.2.1,x.1) (J (x.1>4000000000000000000),List.replicate (Int.toNat 0) 0,0)) (qml (((List.length x.2.1):Int),x.2.1,x.1) (J (x.1>4000000000000000000),List.replicate (Int.toNat 0) 0,0)) (Y,[],0) (aW _,bN _) (λa=>Jb a.1 (Jv ([],5,())) (Jd (((a.2.1.length:Int)==0)=Y->0<=I6.wrap ((a.2.1.length:Int)-1)/\I6.wrap ((a.2.1.length:Int)-1)<(a.2.1.length:Int)) (Jd (((a.2.1.length:Int)==0)=Y->(I6.wrap ((a.2.1.length:Int)-1)).toNat<a.2.1.length) (Jb (bif (a.2.1.length:Int)==0 then Z else a.2.1.getD (I6.wrap ((a.2.1.length:Int)-1)).toNat i64.dflt==0) (Jv ([],6,())) (Jd (0<=I6.wrap ((a.2.1.length:Int)-1)/\I6.wrap ((a.2.1.length:Int)-1)<(a.2.1.length:Int)) (Jd ((I6.wrap ((a.2.1.length:Int)-1)).toNat<a.2.1.length) (Jd (0<=(a.2.1.length:Int)/\(a.2.1.length:Int)<=(a.2.1.length:Int)/\(a.2.1.length:Int)<=(maxLen:Int)/\(a.2.1.length:Int)*(8:Int)<=140737488355328) (cI (InK ((a.2.1.length:Int)) 0 a.2.1.length) (qut ((a.2.1.length:Int),x.1,a.2.1.getD (I6.wrap ((a.2.1.length:Int)-1)).toNat i64.dflt,a.2.1) (0,List.replicate ((a.2.1.length:Int)).toNat 0)) (qmm ((a.2.1.length:Int),x.1,a.2.1.getD (I6.wrap ((a.2.1.length:Int)-1)).toNat i64.dflt,a.2.1) (0,List.replicate ((a.2.1.length:Int)).toNat 0)) (λs1=>Jv (s1.2,0,())))))))))) (λb=>Jv b.1)))
def qjm:af prog 174 ⟨[.d i64,.d aK],[aK,i64],λxs=>(xy xs).get,λxs=>[(xy xs).ok]⟩:=
 cf wy (Λ:=(λk=>if k=0 then zea EK.Γ else zeb EK.Γ)) (fn:=f174) (aW [.d i64,.d aK]) (by kernel_rfl) (λc E a=>C8 a (by kernel_rfl) (b0:=au f174 0) (b1:=au f174 1) (by kernel_rfl) (by kernel_rfl) (ae.han wy rfl qsl) (ae.han wy rfl qsm)) (λx=>by kernel_rfl)
def ew:1000000<=maxLen:=by decide
def dI{l:Nat}(h:l<=1000000000):InK (l:Int) 0 l:=⟨rfl,by decide,ub4 _,by omega⟩
def uH{l:Nat}(h:l<=1000000):0<=(l:Int)/\(l:Int)<=(l:Int)/\(l:Int)<=(maxLen:Int)/\(l:Int)*(8:Int)<=140737488355328:=by
 have:=ew;omega
def zah(a:Int)(l:List Int)(h:l.length<=2000)(b:Bool):
  eJ (wa ((l.length:Int),l,a) True) 0 l (b,[],0)/\my (λs=>s.2.1.length=l.length) (λy=>y.1.1=[]) (da (wa ((l.length:Int),l,a) True) 0 l (b,[],0)):=
 nm (step:=wa ((l.length:Int),l,a) True) (λ(i:Nat) (s:Bool×List Int×Int)=>s.2.1.length=i) (λ(y:pu.R.X)=>y.1.1=[]) l (λi e s g f=>by
  have hi:i<l.length:=(uak.1 g).1;have j:=ew;have d:∀ z:Int,s.2.1.length + [z].length<=maxLen/\(s.2.1.length + [z].length)*8<=140737488355328:=λz=>by
   rw[f,ua7];omega
  have c:∀ z:Int,(s.2.1++[z]).length=i+1:=λz=>by rw[ub6,f];rfl
  exact⟨uT,λ_=>⟨λ_=>rfl,λ_=>⟨d 0,c 0⟩⟩,λ_=>⟨λ_=>⟨λ_=>rfl,λ_=>⟨d 0,c 0⟩⟩,λ_=>⟨λ_=>rfl,λ_=>⟨d (I6.wrap (s.2.2+e)),c (I6.wrap (s.2.2+e))⟩⟩⟩⟩) _ rfl
def zai(k:Int×Int×Int×List Int)(s:Int×List Int)(a:s.2.length=k.2.2.2.length):
  bM (zl k True) 0 k.2.2.2 s/\(bO (zl k True) 0 k.2.2.2 s).2.length=k.2.2.2.length:=
 dk (λ_ (s:Int×List Int)=>s.2.length=k.2.2.2.length) k.2.2.2 (λi e s b a=>by
  have hi:i<k.2.2.2.length:=(uak.1 b).1;refine⟨uT,?_,⟨?_,?_⟩,?_,?_⟩;rw[uc0];exact hi;exact ub4 i;rw[a];exact Int.ofNat_lt.2 hi;rw[uc0,a];exact hi;show(List.set _ _ _).length=_;rw[udo];exact a) s a
def Vr(a:Int)(l:List Int):(xy (a,l,())).satP (λy=>y.1=[]\/y.1.length=l.length):=by
 unfold xy;dsimp only;refine⟨λ_=>.inl rfl,λo=>?_⟩;have p:l.length<=2000:=by
  by_cases h:(l.length:Int)>2000;have e:J ((l.length:Int)>2000)=true:=uea h;have b:(bif J (a<0)then Z else J ((l.length:Int)>2000))=false:=o;rw[e]at b;cases n:J (a<0)<;>rw[n]at b<;>cases b
  omega
 have r:=ew;refine⟨⟨by decide,(uH (by omega)).1,(uH (by omega)).2.2⟩,E3 (dI (by omega)) (zah a l p _) (λs c=>⟨λ_=>.inl rfl,λ_=>?_⟩) (λy q=>.inl q)⟩;have c:s.2.1.length=l.length:=c;have j:(s.2.1.length:Int)≠0->I6.wrap ((s.2.1.length:Int)-1)=(s.2.1.length:Int)-1:=λ_=>cz (by omega);have f:(s.2.1.length:Int)≠0->0<=I6.wrap ((s.2.1.length:Int)-1)/\I6.wrap ((s.2.1.length:Int)-1)<(s.2.1.length:Int):=λh=>by
  rw[j h];omega
 have g:(s.2.1.length:Int)≠0->(I6.wrap ((s.2.1.length:Int)-1)).toNat<s.2.1.length:=λh=>by
  rw[j h];omega
 have k:((s.2.1.length:Int)==0)=Y->(s.2.1.length:Int)≠0:=λh=>by simpa using h
 refine⟨λh=>f (k h),λh=>g (k h),λ_=>.inl rfl,λh=>?_⟩;have i:(s.2.1.length:Int)≠0:=λe=>by
  have m:((s.2.1.length:Int)==0)=true:=by simpa using e
  have b:(bif (s.2.1.length:Int)==0 then Z else s.2.1.getD (I6.wrap ((s.2.1.length:Int)-1)).toNat i64.dflt==0)=false:=h;rw[m]at b;cases b
 refine⟨f i,g i,uH (by omega),fz (A:=λ(s1:Int×List Int)=>s1.2.length=s.2.1.length) (dI (by omega)) (zai _ _ ?_) (λs1 d=>.inr (d.trans c))⟩;show(List.replicate _ _).length=_;rw[ubc,uc0]
def wW:Ct:=⟨[.d i64,.d aK],[aK,i64],λx=>(xy x).get,λ_=>[]⟩
def zak:af prog 174 wW:=
 conv qjm _ _ (λ_ _ x _ _ _=>⟨(cO (Vr x.1 x.2.1)).1,rfl⟩)
def zaj(a:Int)(l:List Int):(wW.f (a,l,())).1=[]\/(wW.f (a,l,())).1.length=l.length:=(cO (Vr a l)).2
def dC:Code->Nat->Option Code
 |.loop c,0=>U c
 |.seq a b,k=>if k<ce a then dC a k else dC b (k-ce a)
 |.cond _ a b,k=>if k<ce a then dC a k else dC b (k-ce a)
 |.block _ c,k=>dC c k
 |.scope c,k=>dC c k
 |_,_=>V
def uF(f:Func)(k:Nat):Code:=(f.body.bind (dC · k)).getD .skip
def LJ:FuncId->Option Ct:=λf=>if f=242 then U ja else if f=213 then U wS else V
def C2:Cx:=⟨LJ,λ_=>V,λ_ _ _ _=>V⟩
def E7:CxOK prog C2:=JP λf b h=>by
 simp only[LJ]at h;split at h;rename_i a;subst a;cases h;exact SX;split at h;rename_i a;subst a;cases h;exact Sy;cases h
def bI(l:List Int)(x:Int):Nat:=l.countP λy=>J (y<x)
def qd0(f:∀ k y,k<i->l[k]?= U y->y<x)(g:∀ k y,i<=k->l[k]?= U y->¬ y<x)(hi:i<=l.length):bI l x=i:=by
 unfold bI;rw[<- uba i l,List.countP_append];have d:(l.take i).countP (λy=>J (y<x))=(l.take i).length:=by
  rw[List.countP_eq_length];intro y c;obtain⟨k,a⟩:=ua9.1 c;rw[ub2]at a;split at a;rename_i b;simpa using f k y b a;cases a
 have e:(l.drop i).countP (λy=>J (y<x))=0:=by
  rw[List.countP_eq_zero];intro y c;obtain⟨k,a⟩:=ua9.1 c;rw[ub1]at a;simpa using g (i+k) y (by omega) a
 rw[d,e,uc5];omega
abbrev kV:Pt:=⟨54,0,⟨[(0,.d aK),(1,.d i64),(6,.d i64),(7,.d i64),(8,.d i64)],[]⟩,⟨[(0,.d aK),(1,.d i64),(6,.d i64),(7,.d i64)],[]⟩,⟨[],[]⟩⟩
def aX(i j:Int):Int:=I6.wrap ((IntKind.u64.wrap (I6.wrap (i+j))).fdiv (2 ^ min (Int.toNat 1) IntKind.u64.bits))
def Ik(x:kV.M.X):Fr kV.Out:=
 let b:=x.1.2;let a:=b.2.2;Jb (J (a.1<a.2.1))
  (Jd (¬ (1:Int)<0)
   (Jd (0<=aX a.1 a.2.1/\aX a.1 a.2.1<x.1.1.length)
    (Jb (wS.f (x.1.1.getD (aX a.1 a.2.1).toNat i64.dflt,b.1,())).1
     (Jv (Rd.next ((x.1.1,b.1,b.2.1,I6.wrap (aX a.1 a.2.1+1),a.2.1,()),())))
     (Jv (Rd.next ((x.1.1,b.1,b.2.1,a.1,aX a.1 a.2.1,()),()))))))
  (Jv (Rd.out ((x.1.1,b.1,b.2.1,a.1,()),())))
def qyo:ae prog (uF f234 0) kV.M kV Ik:=
 ae.of_run E7 (bs:=0) (Λ:=yr) rfl rfl rfl (λE=>lN _ 0) (λx=>by kernel_rfl)
def qtv{i j:Int}(hi:0<=i)(c:i<=j)(d:j<=9223372036854775807):aX i j=(i+j)/2:=by
 unfold aX;have a:IntKind.u64.wrap (I6.wrap (i+j))=i+j:=by
  rw[udf,IntKind.wrap_u64];omega
 have b:(2:Int) ^ min (Int.toNat 1) IntKind.u64.bits=2:=by decide
 rw[a,b,uag _ (by decide),IntWalk.i64_in _ (by omega)]
structure InvB (l:List Int) (x i j:Int):Prop where
 lo:0<=i
 le:i<=j
 hi:j<=l.length
 big:(l.length:Int)<=9223372036854775807
 up:l.Pairwise (· < ·)
 below:∀ (k:Nat) (y:Int),(k:Int)<i->l[k]?= some y->y<x
 above:∀ (k:Nat) (y:Int),j<=k->l[k]?= some y->¬ y<x
def FB(x:kV.M.X):Fr kV.Out:=
 Jd (InvB x.1.1 x.1.2.1 x.1.2.2.2.1 x.1.2.2.2.2.1) (Jv (Rd.out ((x.1.1,x.1.2.1,x.1.2.2.1,(bI x.1.1 x.1.2.1:Int),()),())))
def L6(h:l.Pairwise (· < ·)){a:Nat}{z:Int}(c:a<b)(f:l[a]?= U y)(g:l[b]?= U z):y<z:=by
 obtain⟨d,rfl⟩:=uak.1 f;obtain⟨e,rfl⟩:=uak.1 g;exact(uan.1 h) a b d e c
def qpk (l:List Int) (x n i j:Int) (m:InvB l x i j) (Q:kV.Out->Prop) (g:Q (Rd.out ((l,x,n,(bI l x:Int),()),()))) :
  (Ik ((l,x,n,i,j,()),())).satP λ
   |.next f=>InvB f.1.1 f.1.2.1 f.1.2.2.2.1 f.1.2.2.2.2.1/\(f.1.2.2.2.2.1-f.1.2.2.2.1).toNat<(j-i).toNat/\(FB f).satP Q
   |.out y=>Q (.out y)
   |.back z=>Q (.back z)
   |.pan p=>Q (.pan p):=by
 obtain⟨t,B,C,u,r,v,w⟩:=m;simp only[Ik,Fr.satP,ucu,uav];refine⟨λb=>?_,λb=>?_⟩;have b:i<j:=b;have E:=qtv t B (by omega);have o:0<=(i+j)/2/\(i+j)/2<l.length:=by omega
 rw[E];refine⟨by omega,o,?_⟩;obtain⟨y,c⟩:∃ y,l[((i+j)/2).toNat]?= U y:=by
  have:((i+j)/2).toNat<l.length:=by omega
  exact⟨_,uaq this⟩
 have h:l.getD ((i+j)/2).toNat i64.dflt=y:=by
  rw[uah,c];rfl
 rw[h];show(J (y<x)=Z->_)/\(J (y<x)=Y->_);simp only[ucu,uav];refine⟨λa=>?_,λa=>?_⟩;have a:=a;have F:I6.wrap ((i+j)/2+1)=(i+j)/2+1:=IntWalk.i64_in _ (by omega);rw[F];have q:InvB l x ((i+j)/2+1) j:=⟨by omega,by omega,C,u,r,λk z s e=>by
  by_cases d:k<((i+j)/2).toNat;exact Int.lt_trans (L6 r d e c) a;have:k=((i+j)/2).toNat:=by omega
  subst this;rw[c]at e;cases e;exact a,w⟩
 exact⟨q,by show(j-((i+j)/2+1)).toNat<(j-i).toNat;omega,q,g⟩;have a:=a;have q:InvB l x i ((i+j)/2):=⟨t,by omega,by omega,u,r,v,λk z s e=>by
  by_cases d:((i+j)/2).toNat<k;have:=L6 r d c e;omega;have:k=((i+j)/2).toNat:=by omega
  subst this;rw[c]at e;cases e;exact a⟩
 exact⟨q,by show((i+j)/2-i).toNat<(j-i).toNat;omega,q,g⟩;have b:¬ i<j:=b;have A:i=j:=by omega
 have D:bI l x=i.toNat:=qd0 (λk y s c=>v k y (by omega) c) (λk y s c=>w k y (by omega) c) (by omega);rw[D]at g;have:((i.toNat:Nat):Int)=i:=by omega
 rw[this]at g;exact g
def loopB:ae prog (.loop (uF f234 0)) kV.M kV FB:=by
 refine ae.loop qyo (μ:=λx=>(x.1.2.2.2.2.1-x.1.2.2.2.1).toNat) ?_ (λx Q h=>h.1);rintro⟨⟨l,x,n,i,j,_⟩,_⟩ a Q b;exact qpk l x n i j a Q b.2
def ot:{c:Code} -> {k:Nat} -> {b:Code}->dC c k=U b->k<ce c
 |.loop _,0,_,_=>udu
 |.loop _,_+1,_,h=>by simp[dC]at h
 |.seq x y,k,b,h=>by
  simp only[dC]at h;simp only[ce];split at h;omega;have:=ot h;omega
 |.cond _ x y,k,b,h=>by
  simp only[dC]at h;simp only[ce];split at h;omega;have:=ot h;omega
 |.block _ c,k,b,h=>ot (c:=c) h
 |.scope c,k,b,h=>ot (c:=c) h
 |.skip,_,_,h=>by simp[dC]at h
 |.region _ _ _,_,_,h=>by simp[dC]at h
 |.ret,_,_,h=>by simp[dC]at h
 |.exit _,_,_,h=>by simp[dC]at h
 |.label _,_,_,h=>by simp[dC]at h
 |.goto _,_,_,h=>by simp[dC]at h
 |.rangeFunc _ _ _ _,_,_,h=>by simp[dC]at h
 |.refuse _,_,_,h=>by simp[dC]at h
def oX{E:Env}{Λ:Nat->St->Option Tr}:(c:Code)->(k:Nat)->(∀ i b,dC c i=U b->i5 prog E b (Λ (k+i)))->bP prog E Λ c k
 |.loop b,k,h=>h 0 b rfl
 |.seq x y,k,h=>⟨oX x k λi b a=>h i b (by simp only[dC];rw[ufv (ot a)];exact a),oX y _ λi b a=>by
   have:=h (ce x+i) b (by simp only[dC];rw[ufw (by omega),uax];exact a)
   rwa [<- ueh]at this⟩
 |.cond _ x y,k,h=>⟨oX x k λi b a=>h i b (by simp only[dC];rw[ufv (ot a)];exact a),oX y _ λi b a=>by
   have:=h (ce x+i) b (by simp only[dC];rw[ufw (by omega),uax];exact a)
   rwa [<- ueh]at this⟩
 |.block _ c,k,h=>oX c k h
 |.skip,_,_=>trivial
 |.ret,_,_=>trivial
 |.exit _,_,_=>trivial
 |.region _ _ _,_,_=>trivial
 |.label _,_,_=>trivial
 |.goto _,_,_=>trivial
 |.scope c,k,h=>oX c k h
 |.rangeFunc _ _ _ _,_,_=>trivial
 |.refuse _,_,_=>trivial
def Sn{E:Env}{Λ:Nat->St->Option Tr}{fn:Func}{c b:Code}(f:fn.body=U c)(e:(fn.body.map ce)=U 1)(d:fn.body.bind (dC · 0)=U b)(h:i5 prog E b (Λ 0)):bP prog E Λ c 0:=by
 refine oX c 0 λi g a=>?_;have j:=ot a;rw[f]at e d;simp at e;have hi:i=0:=by omega
 subst hi;simp at d;rw[d]at a;cases a;exact h
def ΛB:Nat->St->Option Tr:=λ_=>kV.han LJ kV.M FB
def I4(x:ag [.d aK,.d i64]):Fr (aa [i64,.bool]):=
 let a:=(bI x.1 x.2.1:Int);let b:=Int.toNat a;Jd (InvB x.1 x.2.1 0 x.1.length)
  (Jd (J (a<x.1.length)=Z->0<=a/\a<x.1.length)
  (Jd ((x.1.getD b i64.dflt==x.2.1)=Y->J (a<x.1.length)=Z->0<=a/\a<x.1.length)
   (Jv
    (a,
     bif J (a<x.1.length)then
      bif x.1.getD b i64.dflt==x.2.1 then Z
      else
       bif (ja.f (x.1.getD b i64.dflt,())).1 then (ja.f (x.2.1,())).1 else Y
     else Y,
     ()))))
def qyk:af prog 234 (bg [.d aK,.d i64] [i64,.bool] I4):=
 cf E7 (Λ:=ΛB) (fn:=f234) ([],0,()) (by kernel_rfl) (λc E a=>Sn a (by kernel_rfl) (b:=uF f234 0) (by kernel_rfl) (ae.han E7 rfl loopB)) (λxs=>by kernel_rfl)
def ON:{l:List Int}->l.Pairwise (· < ·)->(∀ k y,k<bI l x->l[k]?= U y->y<x)/\∀ k y,bI l x<=k->l[k]?= U y->¬ y<x
 |[],_=>⟨λk y _ h=>by simp at h,λk y _ h=>by simp at h⟩
 |a::r,h=>by
  obtain⟨c,f⟩:=uca.1 h;obtain⟨i,j⟩:=ON f;by_cases d:a<x;have m:bI (a::r) x=bI r x+1:=by simp[bI,d]
  refine⟨λk y e b=>?_,λk y e b=>?_⟩;cases k with
  |zero=>simp at b;omega
  |succ k=>exact i k y (by omega) (by simpa using b)
  cases k with
  |zero=>omega
  |succ k=>exact j k y (by omega) (by simpa using b)
  have n:bI (a::r) x=0:=by
   unfold bI;rw[List.countP_eq_zero];intro y b;rcases uei.1 b with rfl|b
   simpa using d;have:=c y b;simp;omega
  refine⟨λk y e _=>by omega,λk y _ b=>?_⟩;cases k with
  |zero=>simp at b;omega
  |succ k=>
   have g:=ubg (by simpa using b);have:=c y g;omega
def OM(h:l.Pairwise (· < ·)):x∈l↔l[bI l x]?= U x:=by
 obtain⟨d,e⟩:=ON h;constructor;intro i;obtain⟨k,a⟩:=ua9.1 i;by_cases b:k<bI l x;have:=d k x b a;omega;by_cases f:k=bI l x;rw[<- f];exact a;have g:=(uak.1 a).1;have c:l[bI l x]?= U (l[bI l x]'(by omega)):=uaq (by omega);have j:=L6 h (by omega) c a;have m:=e _ _ (ue9 _) c;omega;exact λa=>ubg a
def qd1(l:List Int)(x:Int):bI l x<=l.length:=List.countP_le_length
def qof(h:l.Pairwise (· < ·))(b:(l.length:Int)<=9223372036854775807):InvB l x 0 l.length:=
 ⟨ufa _,by omega,ufa _,b,h,λk y a _=>by omega,λk y a c=>by
  have:=(uak.1 c).1;omega⟩
def qlf(h:l.Pairwise (· < ·))(hl:(l.length:Int)<=9223372036854775807):(I4 (l,x,())).ok/\(I4 (l,x,())).get=((bI l x:Int),l.contains x,()):=by
 refine⟨⟨qof h hl,λhd=>?_,λ_ hd=>?_,uT⟩,?_⟩
 ·have hd':(bI l x:Int)<l.length:=by simpa using hd
  exact⟨by omega,hd'⟩
 ·have hd':(bI l x:Int)<l.length:=by simpa using hd
  exact⟨by omega,hd'⟩
 ·show((bI l x:Int),(bif decide ((bI l x:Int)<l.length)then bif l.getD (bI l x) i64.dflt==x then true else (bif false then false else false)else false),())=_;have hb:(bif decide ((bI l x:Int)<l.length)then bif l.getD (bI l x) i64.dflt==x then true else (bif false then false else false)else false)=l.contains x:=by
   have hm:=OM (x:=x) h;by_cases hlt:bI l x<l.length
   ·have h1:decide ((bI l x:Int)<l.length)=true:=by simpa using hlt
    have hg:=uaq hlt;have hd:l.getD (bI l x) i64.dflt=l[bI l x]'hlt:=by rw[uah,hg];rfl
    rw[h1,hd];by_cases he:l[bI l x]'hlt=x
    ·have:=hm.2 (by rw[hg,he]);simp[he,this]
    ·have:¬ x∈l:=λhx=>he (by have:=hm.1 hx;rw[hg]at this;simpa using this);simp[he,this]
   ·have h1:decide ((bI l x:Int)<l.length)=false:=by simpa using hlt
    have:¬ x∈l:=λhx=>by
     have:=hm.1 hx;rw[ua4 (by omega)]at this;cases this
    rw[h1];simp[this]
  rw[hb]
def G4:Ct:=⟨[.d aK,.d i64],[i64,.bool],λx=>((bI x.1 x.2.1:Int),x.1.contains x.2.1,()),λx=>[x.1.Pairwise (· < ·)]⟩
def qyl:af prog 234 G4:=
 conv qyk _ _ λw F xs vs d b=>by
  obtain⟨l,x,_⟩:=xs;obtain⟨v,f,rfl,e,_⟩:=d;have c:=aA.wf e.2.2;have a:(l.length:Int)<=9223372036854775807:=by
   have:=c.1;simp only[maxLen]at this;omega
  exact qlf b a
def tH(l:List Int)(x:Int):Nat:=l.countP λy=>J (y<=x)
def OL{x:Int}:{l:List Int}->l.Pairwise (· < ·)->tH l x=bI l x+(if l.contains x then 1 else 0)
 |[],_=>rfl
 |a::r,h=>by
  obtain⟨e,f⟩:=uca.1 h;have n:=OL (x:=x) f;have c:a=x->¬ x∈r:=λo m=>by have:=e x m;omega
  unfold tH bI at *;rw[List.countP_cons,List.countP_cons,n];rcases Int.lt_trichotomy a x with b|d|k
  have:¬ x=a:=by omega
  simp[b,uet b,this];omega;subst d;have:=c rfl;simp[this];have g:¬ a<=x:=by omega
  have i:¬ a<x:=by omega
  have j:¬ x=a:=by omega
  simp[g,i,j]
def dz(f:bm.den)(d:Int):Int:=match tH f.1 d with
 |0=>0
 |k+1=>f.2.1.getD k 0
def LK:FuncId->Option Ct:=λf=>if f=234 then U G4 else if f=216 then U Gx else V
def C3:Cx:=⟨LK,λ_=>V,λ_ _ _ _=>V⟩
def zJ:CxOK prog C3:=JP λf b h=>by
 simp only[LK]at h;split at h;rename_i a;subst a;cases h;exact qyl;split at h;rename_i a;subst a;cases h;exact qtx;cases h
def I5(x:ag [.d bm,.d i64]):Fr (aa [i64]):=
 let r:=G4.f (x.1.1,x.2.1,())
 Jd (x.1.1.Pairwise (· < ·))
  (Jb (!r.2.1)
   (Jb (J (I6.wrap (r.1-1)<0)) (Jv (0,()))
    (Jd (0<=I6.wrap (r.1-1)/\I6.wrap (r.1-1)<x.1.2.1.length) (Jv (x.1.2.1.getD (I6.wrap (r.1-1)).toNat i64.dflt,()))))
   (Jb (J (r.1<0)) (Jv (0,()))
    (Jd (0<=r.1/\r.1<x.1.2.1.length) (Jv (x.1.2.1.getD r.1.toNat i64.dflt,())))))
def zcz:af prog 218 (bg [.d bm,.d i64] [i64] I5):=
 cf zJ (Λ:=yr) (fn:=f218) (([],[],()),0,()) (by kernel_rfl) (λc E _=>lN c 0) (λxs=>by kernel_rfl)
def qli{at_ val:List Int}{d:Int}(h:at_.Pairwise (· < ·))(s:(at_.length:Int)<=9223372036854775807)(m:at_.length=val.length):
  (I5 ((at_,val,()),d,())).ok/\(I5 ((at_,val,()),d,())).get=(dz (at_,val,()) d,()):=by
 have p:=qd1 at_ d;have e:=OL (x:=d) h;have f:=OM (x:=d) h;by_cases i:d∈at_;have b:at_.contains d=true:=by simpa using i
 have q:bI at_ d<at_.length:=(uak.1 (f.1 i)).1;have j:dz (at_,val,()) d=val.getD (bI at_ d) 0:=by
  unfold dz;simp only[e,b,if_true]
 refine⟨⟨h,λc=>?_,λ_=>⟨λc=>?_,λ_=>⟨⟨by show(0:Int)<=(bI at_ d:Int);omega,by show(bI at_ d:Int)<val.length;omega⟩,uT⟩⟩⟩,?_⟩;have a:(!at_.contains d)=true:=c;rw[b]at a;cases a;trivial;show(if (!at_.contains d)=Z then _ else if J ((bI at_ d:Int)<0)=Z then ((0:Int),())else (val.getD (Int.toNat (bI at_ d:Int)) i64.dflt,()))=_;have g:J ((bI at_ d:Int)<0)=false:=by simp
 rw[b,g,j];rfl;have b:at_.contains d=false:=by simpa using i
 have l:I6.wrap ((bI at_ d:Int)-1)=(bI at_ d:Int)-1:=IntWalk.i64_in _ (by omega);have j:dz (at_,val,()) d=(match bI at_ d with|0=>0|k+1=>val.getD k 0):=by
  unfold dz;simp only[e,b,ub3,ufs,uey]
 refine⟨⟨h,λ_=>⟨λ_=>uT,λc=>?_⟩,λc=>?_⟩,?_⟩;have a:J (I6.wrap ((bI at_ d:Int)-1)<0)=false:=c;rw[l]at a;have o:¬ ((bI at_ d:Int)-1<0):=by simpa using a
 refine⟨?_,uT⟩;show 0<=I6.wrap ((bI at_ d:Int)-1)/\I6.wrap ((bI at_ d:Int)-1)<val.length;rw[l];omega;have a:(!at_.contains d)=false:=c;rw[b]at a;cases a;show(if (!at_.contains d)=Z then (if J (I6.wrap ((bI at_ d:Int)-1)<0)=Z then ((0:Int),())else (val.getD (I6.wrap ((bI at_ d:Int)-1)).toNat i64.dflt,()))else _)=_;rw[b,l,j];cases r:bI at_ d with
 |zero=>rfl
 |succ k=>
  have g:J (((k+1:Nat):Int)-1<0)=false:=by simp
  have n:(((k+1:Nat):Int)-1).toNat=k:=by omega
  rw[g,n];rfl
def qbx:Ct:=⟨[.d bm,.d i64],[i64],λx=>(dz x.1 x.2.1,()),λx=>[x.1.1.Pairwise (· < ·),x.1.1.length=x.1.2.1.length]⟩
def zc0:af prog 218 qbx:=
 conv zcz _ _ λw F xs vs e b=>by
  obtain⟨⟨at_,val,_⟩,d,_⟩:=xs;obtain⟨v,g,rfl,f,_⟩:=e;have c:=aA.wf f.2.2;have a:(at_.length:Int)<=9223372036854775807:=by
   have:=c.1.1;simp only[maxLen]at this;omega
  exact qli b.1 a b.2
def ga:List Int->List Int->Int->Int->Bool
 |d::l,v::r,day,last=>(J (day<d)&&(J (d<=292194)&&(!(v==last)&&iQ v)))&&ga l r d v
 |_,_,_,_=>Z
abbrev jQ:Pt:=⟨48,0,⟨[(18,.d i64),(17,.d i64),(16,.d aK),(3,.d i64),(4,.d i64)],[.x 1 219 bm,.r 1 1 0]⟩,⟨[],[]⟩,⟨[(2,.d .bool)],[]⟩⟩
def Q9(x:jQ.M.X):Fr jQ.Out:=
 let b:=x.2.1.2.1;let a:=x.1.2.2;Jb (J (x.1.1<x.1.2.1))
  (Jd (0<=x.1.1/\x.1.1<a.1.length)
   (Jd (0<=x.1.1/\x.1.1<b.length)
    (Jb
     (bif bif bif J (a.1.getD x.1.1.toNat i64.dflt<=a.2.1)then Z else J (a.1.getD x.1.1.toNat i64.dflt>292194)then Z
       else b.getD x.1.1.toNat i64.dflt==a.2.2.1 then Z
      else !(Gx.f (b.getD x.1.1.toNat i64.dflt,())).1)
     (Jv (Rd.back ((Y,()),())))
     (Jv (Rd.next ((I6.wrap (x.1.1+1),x.1.2.1,a.1,a.1.getD x.1.1.toNat i64.dflt,b.getD x.1.1.toNat i64.dflt,()),(x.2.1.1,b,()),()))))))
  (Jv (Rd.out ((),())))
def qy1:ae prog (uF f196 0) jQ.M jQ Q9:=
 ae.of_run zJ (bs:=0) (Λ:=yr) rfl rfl rfl (λE=>lN _ 0) (λx=>by kernel_rfl)
def qud{b:Bool}(h:(!b)=Z):b=false:=by cases b<;>first|rfl|cases h
def quc{b:Bool}(h:(!b)=Y):b=true:=by cases b<;>first|rfl|cases h
structure InvR (i n:Int) (l at_ val:List Int):Prop where
 same:l=at_
 len:n=l.length
 both:at_.length=val.length
 lo:0<=i
 hi:i<=n
 big:(l.length:Int)<=9223372036854775807
def FR(x:jQ.M.X):Fr jQ.Out:=
 Jd (InvR x.1.1 x.1.2.1 x.1.2.2.1 x.2.1.1 x.2.1.2.1)
  (Jb (ga (x.1.2.2.1.drop x.1.1.toNat) (x.2.1.2.1.drop x.1.1.toNat) x.1.2.2.2.1 x.1.2.2.2.2.1) (Jv (Rd.out ((),()))) (Jv (Rd.back ((Y,()),()))))
def qpz (i n:Int) (l:List Int) (d v:Int) (at_ val:List Int) (g:InvR i n l at_ val) (Q:jQ.Out->Prop)
  (a:(Jb (ga (l.drop i.toNat) (val.drop i.toNat) d v) (Jv (Rd.out ((),()))) (Jv (Rd.back ((Y,()),()))):Fr jQ.Out).satP Q) :
  (Q9 ((i,n,l,d,v,()),(at_,val,()),())).satP λ
   |.next b=>InvR b.1.1 b.1.2.1 b.1.2.2.1 b.2.1.1 b.2.1.2.1/\(b.1.2.1-b.1.1).toNat<(n-i).toNat/\(FR b).satP Q
   |.out y=>Q (.out y)
   |.back z=>Q (.back z)
   |.pan p=>Q (.pan p):=by
 obtain⟨rfl,rfl,C,o,G,D⟩:=g;refine⟨λhi=>?_,λhi=>?_⟩;have f:i<l.length:=by simpa using hi
 have j:i.toNat<l.length:=by omega
 have r:i.toNat<val.length:=by omega
 have u:=ual j;have w:=ual r;have A:l.getD i.toNat i64.dflt=l[i.toNat]:=by rw[uah,uaq j];rfl
 have B:val.getD i.toNat i64.dflt=val[i.toNat]:=by rw[uah,uaq r];rfl
 rw[u,w]at a;generalize H:l[i.toNat]=x at *;generalize K:val[i.toNat]=y at *;have F:I6.wrap (i+1)=i+1:=IntWalk.i64_in _ (by omega);have E:(i+1).toNat=i.toNat+1:=by omega
 refine⟨⟨o,f⟩,⟨o,by show i<(val.length:Int);omega⟩,?_⟩;show((bif bif bif J (l.getD i.toNat i64.dflt<=d)then Z else J (l.getD i.toNat i64.dflt>292194)then Z else val.getD i.toNat i64.dflt==v then Z else !(iQ (val.getD i.toNat i64.dflt)))=Z->Q (Rd.back ((Y,()),()))) /\
  ((bif bif bif J (l.getD i.toNat i64.dflt<=d)then Z else J (l.getD i.toNat i64.dflt>292194)then Z else val.getD i.toNat i64.dflt==v then Z else !(iQ (val.getD i.toNat i64.dflt)))=Y ->
   InvR (I6.wrap (i+1)) l.length l l val/\((l.length:Int)-I6.wrap (i+1)).toNat<((l.length:Int)-i).toNat /\
    (FR ((I6.wrap (i+1),(l.length:Int),l,l.getD i.toNat i64.dflt,val.getD i.toNat i64.dflt,()),(l,val,()),())).satP Q)
 rw[A,B,F];have e:(bif bif bif J (x<=d)then Z else J (x>292194)then Z else y==v then Z else !(iQ y))=!(J (d<x)&&(J (x<=292194)&&(!(y==v)&&iQ y))):=by
  have s:J (x<=d)=!J (d<x):=by by_cases h:x<=d<;>simp[h]<;>omega
  have t:J (x>292194)=!J (x<=292194):=by by_cases h:x<=292194<;>simp[h]<;>omega
  rw[s,t];cases J (d<x)<;>cases J (x<=292194)<;>cases (y==v)<;>cases iQ y<;>rfl
 rw[e];have m:ga (x::l.drop (i.toNat+1)) (y::val.drop (i.toNat+1)) d v=((J (d<x)&&(J (x<=292194)&&(!(y==v)&&iQ y)))&&ga (l.drop (i.toNat+1)) (val.drop (i.toNat+1)) x y):=rfl;rw[m]at a;refine⟨λk=>?_,λk=>?_⟩;have c:=qud k;rw[c]at a;exact a.2 rfl;have c:=quc k;rw[c,uel]at a;have q:InvR (i+1) l.length l l val:=⟨rfl,rfl,C,by omega,by omega,D⟩;refine⟨q,by omega,q,?_⟩;rw[E];exact a;have f:¬ i<l.length:=by simpa using hi
 have j:l.drop i.toNat=[]:=ua2 (by omega);rw[j]at a;exact a.1 rfl
def qq8:ae prog (.loop (uF f196 0)) jQ.M jQ FR:=by
 refine ae.loop qy1 (μ:=λx=>(x.1.2.1-x.1.1).toNat) ?_ (λx Q h=>h.1);rintro⟨⟨i,n,l,d,v,_⟩,⟨at_,val,_⟩,_⟩ a Q b;exact qpz i n l d v at_ val a Q b.2
def ΛR:Nat->St->Option Tr:=λ_=>jQ.han LK jQ.M FR
def qle(x:ag [.d bm]):Fr (aa [.bool]):=
 let a:=Int.toNat 0;Jb ((x.1.1.length:Int) != (x.1.2.1.length:Int)) (Jv (Y,()))
  (Jd (InvR 0 x.1.1.length x.1.1 x.1.1 x.1.2.1)
   (Jb (ga (x.1.1.drop a) (x.1.2.1.drop a) 0 0) (Jv (Z,())) (Jv (Y,()))))
def qxs:af prog 196 (bg [.d bm] [.bool] qle):=
 cf zJ (Λ:=ΛR) (fn:=f196) (([],[],()),()) (by kernel_rfl) (λc E a=>Sn a (by kernel_rfl) (b:=uF f196 0) (by kernel_rfl) (ae.han zJ rfl qq8)) (λxs=>by kernel_rfl)
def jU(f:bm.den):Bool:=J (f.1.length=f.2.1.length)&&ga f.1 f.2.1 0 0
def qbu:Ct:=⟨[.d bm],[.bool],λx=>(jU x.1,()),λ_=>[]⟩
def qxt:af prog 196 qbu:=
 conv qxs _ _ λw F xs vs g _=>by
  obtain⟨⟨at_,val,_⟩,_⟩:=xs;obtain⟨v,i,rfl,h,_⟩:=g;have e:=aA.wf h.2.2;have c:(at_.length:Int)<=9223372036854775807:=by
   have:=e.1.1;simp only[maxLen]at this;omega
  by_cases d:at_.length=val.length;have a:((at_.length:Int) != (val.length:Int))=false:=by simp[d]
  refine⟨⟨λf=>?_,λ_=>⟨⟨rfl,rfl,d,ufa _,by omega,c⟩,⟨λ_=>uT,λ_=>uT⟩⟩⟩,?_⟩;trivial;show(if ((at_.length:Int) != (val.length:Int))=Z then (Y,())else if ga at_ val 0 0=Z then (Z,())else (Y,()))=(J (at_.length=val.length)&&ga at_ val 0 0,());rw[a,uea d];cases ga at_ val 0 0<;>rfl
  have a:((at_.length:Int) != (val.length:Int))=true:=by simp;omega
  refine⟨⟨λ_=>uT,λf=>?_⟩,?_⟩;have b:=f;rw[a]at b;cases b;show(if ((at_.length:Int) != (val.length:Int))=Z then (Y,())else _)=(J (at_.length=val.length)&&ga at_ val 0 0,());rw[a,udv d];rfl
section
attribute [local go_sem] Oper.semAt_some
def KN(h:aA w F aK l (λ_ u=>u=v)):
  ∃ A c,v=.slice A l.length c/\l.length<=c/\c<=maxLen/\(0<l.length->∃ b off,A=U ⟨b,off,V⟩/\F b/\∀ (i:Nat) (x:Int),l[i]?= U x->w.cell? ⟨b,off+i,V⟩=U (.int .i64 x) /\ -9223372036854775808<=x/\x<=9223372036854775807):=by
 obtain⟨A,c,rfl,n,o,k⟩:=h;refine⟨A,c,rfl,n,o,λs=>?_⟩;obtain⟨ad,rfl,q,r,_⟩:=k 0 l[0] (uaq s);have m:ad.spot=none:=by
  have a:w.cell? (ad.add (0*i64.size+0))=U (.int .i64 l[0]):=r;have j:ad.add (0*i64.size+0)=ad:=by simp[Addr.add]
  rw[j]at a;unfold World.cell? at a;split at a;split at a;cases a;rename_i e;cases f:ad.spot with
  |none=>rfl
  |some _=>rw[f]at e;exact absurd rfl e
  cases a
 obtain⟨b,off,sp⟩:=ad;simp only at m;subst m;refine⟨b,off,rfl,q,λi x y=>?_⟩;obtain⟨ad,p,_,g,t⟩:=k i x y;cases p;have d:w.cell? ((⟨b,off,V⟩:Addr).add (i*1+0))=U (.int .i64 x):=g;have j:(⟨b,off,V⟩:Addr).add (i*1+0)=⟨b,off+i,V⟩:=by
  unfold Addr.add;split;have:i=0:=by omega
  subst this;rfl;simp
 rw[j]at d;exact⟨d,t⟩
def eL(f:bm.den)(e:Int):List Int->Int->List (Int×Int×Int)
 |[],a=>[(a,e,dz f a)]
 |d::l,a=>if d<=a\/e<=d then eL f e l a else (a,d,dz f a)::eL f e l d
def cw(a b c:Nat)(W W':World):Prop:=Below a W W'/\W'.heap[b]?= W.heap[b]? /\ W'.heap[c]?= W.heap[c]?
def cw.refl(a b c:Nat)(W:World):cw a b c W W:=⟨ufi _ _,rfl,rfl⟩
def cw.trans{a b c:Nat}{A B C:World}(h:cw a b c A B)(k:cw a b c B C):cw a b c A C:=⟨h.1.trans k.1,k.2.1.trans h.2.1,k.2.2.trans h.2.2⟩
def cw.below{a b c:Nat}(h:Below W.heap.size W W')(d:a<=W.heap.size)(e:b<W.heap.size)(f:c<W.heap.size):cw a b c W W':=⟨h.mono d,h.block _ e,h.block _ f⟩
def Ah{d:β->World->Prop}(b:AbidesFrom B d){s:β}(h:d s W)(a:Below W.heap.size W W'):d s W':=
 b s W W' V h ⟨a.os,a.tape,a.output,a.size,λk c _=>a.block k c⟩ (λr e=>nomatch e)
abbrev TZ(x:Int×Int×Int):Array Value:=#[.agg #[.int .i64 x.1,.int .i64 x.2.1],.int .i64 x.2.2]
def Ad(f:bm.den)(a:Value)(W:World):Prop:=∀ d:Int,-9223372036854775808<=d->d<=9223372036854775807->Calls prog 218 #[a,.int .i64 d] W λe W'=>e=.returned (.int .i64 (dz f d))/\Below W.heap.size W W'
def zcy{f:bm.den}{c:Value}(n:∀ b,F b->b<W.heap.size)(o:bu W F bm f c)(l:f.1.Pairwise (· < ·))(m:f.1.length=f.2.1.length):Ad f c W:=λd g i=>by
 have hi:bu W F i64 d (.int .i64 d):=⟨rfl,⟨λh=>(by cases h),λ⟨cs,h⟩=>(by cases h)⟩,rfl,g,i⟩;refine(zc0.2 W F (f,d,()) [c,.int .i64 d] n ⟨c,_,rfl,o,_,[],rfl,hi,rfl⟩ ⟨l,m⟩).mono ?_;rintro e W' ⟨v,F',rfl,a,_,_,p⟩;have j:aE prog W' F' (λ_ _=>True) (dE i64 (dz f d)) v:=fT p;have k:v=.int .i64 (dz f d):=j.2.1;exact⟨by rw[k],a⟩
def aO{x:Nat×Nat}(h:W.heap[b]?= U (.cells cs t x))(i:Nat):W.cell? ⟨b,i,V⟩=cs[i]? := by
 simp[World.cell?,h]
def zj4{P:Nat->Prop}(h:∀ j,j<9->P j):P 0/\P 1/\P 2/\P 3/\P 4/\P 5/\P 6/\P 7/\P 8:=⟨h 0 (by decide),h 1 (by decide),h 2 (by decide),h 3 (by decide),h 4 (by decide),h 5 (by decide),h 6 (by decide),h 7 (by decide),h 8 (by decide)⟩
def als:World->List Obj->World
 |w,[]=>w
 |w,o::l=>als (w.alloc o) l
def zj8:(l:List Obj)->(w:World)->Below w.heap.size w (als w l)/\(als w l).heap.size=w.heap.size+l.length/\∀ i o,l[i]?= U o->(als w l).heap[w.heap.size+i]?= U o
 |[],w=>⟨ufi _ _,rfl,λi o h=>by simp at h⟩
 |a::l,w=>by
  obtain⟨c,d,e⟩:=zj8 l (w.alloc a);have b:=(ufi _ w).alloc (ue9 _) a;refine⟨b.trans (c.mono b.size),by unfold als;rw[d];simp;omega,λi o h=>?_⟩;cases i with
  |zero=>
   simp at h;subst h;exact(c.block _ (by simp)).trans (World.alloc_heap_new w _)
  |succ i=>
   have:=e i o (by simpa using h);rw[udg]at this;rw[<- ueh,Nat.add_right_comm];exact this
structure RoundAt (n₀ B1 B2:Nat) (A:Option Addr) (at_:List Int) (va vb:Value) (e0 e1:Int) (f:bm.den) (W:World):Prop where
 b1:W.heap[B1]?= some (.cells #[va,vb] 219 (0,0))
 b2:W.heap[B2]?= some (.cells #[.int .i64 e0,.int .i64 e1] 31 (0,0))
 cells:0<at_.length->∃ b off,A=some ⟨b,off,none⟩/\b<n₀/\∀ (i:Nat) (x:Int),at_[i]?= some x->W.cell? ⟨b,off+i,none⟩=some (.int .i64 x) /\ -9223372036854775808<=x/\x<=9223372036854775807
 vals:Ad f (.agg #[va,vb]) W
section
variable {α:Type} {g:α->Int×Int×Int}
def Ta{g:α->β}{all a:List α}{y:β}{rest:List β}(h:a.map g++y::rest=all.map g)(c:a <+: all):∃ x,g x=y/\a++[x] <+: all:=by
 obtain⟨t,rfl⟩:=c;rw[udw]at h;have b:=List.append_cancel_left h;cases t with
 |nil=>cases b
 |cons x t=>
  simp at b;exact⟨x,b.1.symm,t,by simp⟩
def mz(g:α->Int×Int×Int)(f:bm.den)(b:Int)(at_:List Int)(all:List α)(k:Nat)(cur:Int)(a:List α):Prop:=a <+: all/\a.map g++eL f b (at_.drop k) cur=all.map g
def mz.skip{f:bm.den}{b:Int}{at_:List Int}{all:List α}{k:Nat}{cur:Int}{a:List α}(h:mz g f b at_ all k cur a){d:Int}(i:at_[k]?= U d)(e:d<=cur\/b<=d):mz g f b at_ all (k+1) cur a:=by
 obtain⟨j,rfl⟩:=uak.1 i;refine⟨h.1,?_⟩;have c:=h.2;rw[ual j]at c;rw[<- c]
 conv=>rhs;unfold eL
 rw[ufv e]
def mz.step{f:bm.den}{c:Int}{at_:List Int}{all:List α}{k:Nat}{cur:Int}{a:List α}(h:mz g f c at_ all k cur a){d:Int}(l:at_[k]?= U d)(j:¬ (d<=cur\/c<=d)):
  ∃ x,g x=(cur,d,dz f cur)/\mz g f c at_ all (k+1) d (a++[x])/\a.length<all.length:=by
 obtain⟨m,rfl⟩:=uak.1 l;have b:=h.2;rw[ual m]at b;unfold eL at b;rw[ufw j]at b;obtain⟨x,i,e⟩:=Ta b h.1;refine⟨x,i,⟨e,?_⟩,?_⟩;rw[<- b];simp[i];have:=e.length_le;simp at this;omega
def mz.last{f:bm.den}{c:Int}{at_:List Int}{all:List α}{k:Nat}{cur:Int}{a:List α}(h:mz g f c at_ all k cur a)(d:at_.length<=k):
  ∃ x,g x=(cur,c,dz f cur)/\a++[x]=all/\a.length<all.length:=by
 have b:=h.2;rw[ua2 d]at b;obtain⟨x,j,i⟩:=Ta b h.1;have e:=uft List.length b;simp[eL]at e;refine⟨x,j,i.eq_of_length (by simp;omega),by omega⟩
end
def qwg (g:α->Int×Int×Int) (all:List α) (n:Nat) (hn:1<=n) (l B1 B2 n₀:Nat) (A:Option Addr) (c:Nat) (at_:List Int) (vb:Value) (hvb:∃ A' n' c',vb=.slice A' n' c') (e0 e1:Int) (f:bm.den) (hlen:at_.length<=9223372036854775807) (he0 : -9223372036854775808<=e0/\e0<=9223372036854775807)
  (hall:all.map g=eL f e1 at_ e0) (J Jx:List α->World->Prop) (W:World) (hJ:AbidesFrom W.heap.size J) (hn0:n₀<=W.heap.size)
  (hY:∀ pre x W1,J pre W1->pre.length<all.length->YieldAt Fence.wide (n-1) prog l (TZ (g x)) W1 λe W'=>
   (e=.returned (.bool true)/\J (pre++[x]) W'/\cw n₀ B1 B2 W1 W')\/(e=.returned (.bool false)/\Jx (pre++[x]) W'))
  (hat:∀ W',cw n₀ B1 B2 W W'->RoundAt n₀ B1 B2 A at_ (.slice A at_.length c) vb e0 e1 f W') (h0:J [] W) :
  CallsIn Fence.wide n prog 217 #[.func (.yield l) #[] #[],.pointer (some ⟨B2,0,none⟩),.pointer (some ⟨B1,0,none⟩)] W λe W'=>(∃ v,e=.returned v) /\
   ((∃ xs,xs=all/\J xs W')\/(∃ pre,pre <+: all/\Jx pre W')):=by
 obtain⟨A',n',c',rfl⟩:=hvb;have hro:Fence.wide.round=none:=rfl;refine callsIn_of_wp func217 rfl trivial ?_ hro;simp only[ntmps217,ucq,uc9,udl,Nat.reduceAdd,Nat.reduceSub,ubn,ubo,ucy,ubx,udm,uc4];have r0:=hat W (cw.refl _ _ _ _);have c10:W.cell? ⟨B1,0,none⟩=some (.slice A at_.length c):=aO r0.b1 0;have c11:W.cell? ⟨B1,1,none⟩=some (.slice A' n' c'):=aO r0.b1 1;have c20:W.cell? ⟨B2,0,none⟩=some (.int .i64 e0):=aO r0.b2 0;have c21:W.cell? ⟨B2,1,none⟩=some (.int .i64 e1):=aO r0.b2 1;have hlen':=hlen
 gi_wp2
 gi_loopw [4,12] (λu i wr=>∃ (k:Nat) (cur:Int) (pre:List α),k<=at_.length/\i=.int .i64 k/\u=.int .i64 cur/\(-9223372036854775808<=cur/\cur<=9223372036854775807)/\mz g f e1 at_ all k cur pre/\J pre wr/\cw n₀ B1 B2 W wr)
  (λ_ i _=>at_.length-(intOf i).toNat)
 case atStart=>exact⟨0,e0,[],uff _,rfl,rfl,he0,⟨List.nil_prefix,hall.symm⟩,h0,cw.refl _ _ _ _⟩
 case round=>
  obtain⟨k,cur,pre,hk,rfl,rfl,hcur,hrel,hJs,hkp⟩:=hrel;clear c10 c11 c20 c21 r0;have rr:=hat _ hkp;have c10:wr.cell? ⟨B1,0,none⟩=some (.slice A at_.length c):=aO rr.b1 0;have c11:wr.cell? ⟨B1,1,none⟩=some (.slice A' n' c'):=aO rr.b1 1;have c21:wr.cell? ⟨B2,1,none⟩=some (.int .i64 e1):=aO rr.b2 1;by_cases hlt:k<at_.length
  ·obtain⟨b,off,rfl,hb,hcx⟩:=rr.cells (by omega);obtain⟨d,hd⟩:∃ d,at_[k]?= some d:=⟨_,uaq hlt⟩;obtain⟨hcd,hdr⟩:=hcx k d hd;clear hcx;have hb1:B1<wr.heap.size:=(uaf.1 rr.b1).1;have hb2:B2<wr.heap.size:=(uaf.1 rr.b2).1;have hn1:n₀<=wr.heap.size:=ueo hn0 hkp.1.size;by_cases t1:d<=cur
   ·have ht1:decide (d<=cur)=true:=by simpa using t1
    have hn:=hrel.skip hd (.inl t1)
    gi_wp2
    exact⟨⟨k+1,cur,pre,by omega,by simp,rfl,hcur,hn,hJs,hkp⟩,by simp[intOf];omega⟩
   ·have ht1:decide (d<=cur)=false:=by simpa using t1
    by_cases t2:e1<=d
    ·have ht2:decide (d>=e1)=true:=by simpa using t2
     have hn:=hrel.skip hd (.inr t2)
     gi_wp2
     exact⟨⟨k+1,cur,pre,by omega,by simp,rfl,hcur,hn,hJs,hkp⟩,by simp[intOf];omega⟩
    ·have ht2:decide (d>=e1)=false:=by simpa using t2
     obtain⟨x,hgx,hst,hln⟩:=hrel.step hd (by omega)
     gi_wp2
     refine⟨uT,?_⟩;refine(callsIn_wide.2 (rr.vals cur hcur.1 hcur.2)).mono ?_;rintro e w1 ⟨rfl,hbel⟩;have hk1:=hkp.trans (cw.below hbel hn1 hb1 hb2);obtain⟨fn,tmps,assign,body,hy,hR⟩:=hY pre x w1 (Ah hJ hJs hbel) hln;rw[hgx]at hy
     gi_wp2
     refine hR.mono ?_;rintro e W3 (⟨rfl,hJ3,hk3⟩|⟨rfl,hJx3⟩)
     ·gi_wp2
      go_roundw
      case rel=>exact⟨k+1,d,pre++[x],by omega,by simp,rfl,hdr,hst,hJ3,hk1.trans hk3⟩
      case measure=>simp[intOf];omega
     ·gi_wp2
      refine ue1 (ue2 rfl _ _ _) rfl ?_;exact⟨⟨_,rfl⟩,.inr ⟨_,hst.1,hJx3⟩⟩
  ·obtain rfl:k=at_.length:=by omega
   obtain⟨x,hgx,hl,hln⟩:=hrel.last (ue9 _);have hb1:B1<wr.heap.size:=(uaf.1 rr.b1).1;have hb2:B2<wr.heap.size:=(uaf.1 rr.b2).1;have hn1:n₀<=wr.heap.size:=ueo hn0 hkp.1.size;have hmx:prog.follows .mixedOrders=true:=by kernel_rfl
   have hkd:cw n₀ B1 B2 W wr.drew:=hkp.trans ⟨⟨rfl,rfl,rfl,ue9 _,λ_ _=>rfl⟩,rfl,rfl⟩;have rd:=hat _ hkd;have hJd:J pre wr.drew:=Ah hJ hJs ⟨rfl,rfl,rfl,ue9 _,λ_ _=>rfl⟩
   gi_wp2
   gi_region_with_o (first
    |(refine⟨uT,?_⟩;gi_at_call 218;refine(callsIn_wide.2 (rd.vals cur hcur.1 hcur.2)).mono ?_;rintro e w1 ⟨rfl,hbel⟩;have d21:w1.cell? ⟨B2,1,none⟩=some (.int .i64 e1):=aO (hat _ (hkd.trans (cw.below hbel hn1 hb1 hb2))).b2 1;obtain⟨fn,tmps,assign,body,hy,hR⟩:=hY pre x w1 (Ah hJ hJd hbel) hln;rw[hgx]at hy)
    |(refine(hR.mono (R':=λe W'=>∃ bv,e=.returned (.bool bv)/\(if bv=true then J (pre++[x]) W' else Jx (pre++[x]) W')) (λe W' h=>h.elim (λh=>⟨true,h.1,h.2.1⟩) (λh=>⟨false,h.1,h.2⟩))).mono ?_;rintro e W3 ⟨bv,rfl,hJ3⟩))
   all_goals go_end0
   all_goals (refine⟨⟨_,rfl⟩,?_⟩;cases bv;exact .inr ⟨_,⟨[],by rw[udr];exact hl⟩,hJ3⟩;exact .inl ⟨_,hl,hJ3⟩)
end
end Go.Proofs.YtdokapnnagbehaaGreat
