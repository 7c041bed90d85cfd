/-
  Parts of the proof, one behind the other.
-/
import Derived.Test.YtmcjmjbeknbddaaGreatMd
import Derived.IntWalk
import Derived.RangeFuncNested
import Derived.RangeFuncBound
import Derived.RangeFuncCalls
import Derived.RangeFuncLeaves
import Derived.Shelf.Abstract
import Derived.Shelf.RegionOpen
import Derived.WalkKit
import Derived.OwnWalkIn
import Derived.TacticsInMore
import Derived.LoopNIn
import Derived.LoopIn
import Derived.Lib.Hide
import Derived.Tactics2
import Derived.Laws.Pointers
set_option linter.all false
set_option maxRecDepth 100000
set_option maxHeartbeats 4000000
open Go Go.RowKit
variable {T α σ ρ β:Type} {P:Program} {ad:Addr} {arr cs cur:Array Value} {f:FuncId} {x a y day:Int} {k:IntKind} {l:List Int} {xs vs news:List Value} {off i n b c d j B m len:Nat} {F F' K:Nat->Prop} {R g R':Nat->Value->Prop} {o:Oper} {p:Prop} {e ety t ty el:TypeId} {v u vx:Value} {w w' W' W:World}
namespace Go.Proofs.YtmcjmjbeknbddaaGreat
open Go Go.Ab Go.RowKit Go.Proofs Tryz Go.Shelf
open Go.Ab.Fr renaming val->Jv,need->Jd,br->Jb
def Ln:ByteArray:=⟨(0::1::(List.replicate 2 2++(List.replicate 4 3++(List.replicate 8 4++(List.replicate 16 5++(List.replicate 32 6++(List.replicate 64 7++List.replicate 128 8))))))).toArray⟩
def kb (m:Nat):Nat:=(Ln.data.getD m 0).toNat
def ro (x n:Int):Fr (aa [i64]):=Jd (0<=IntKind.u8.wrap x/\IntKind.u8.wrap x<(Ln.size:Int)) (Jv (I6.wrap (n+I6.wrap (kb (IntKind.u8.wrap x).toNat:Int)),()))
def mh (k:Nat) (x:Int):Int:=x.fdiv (2 ^ min (Int.toNat k) IntKind.u64.bits)
def Jr (x n:Int):Fr (aa [i64]):=Jb (decide (x>=256)) (Jd (¬ (8:Int)<0) (ro (mh 8 x) (I6.wrap (n+8)))) (ro x n)
def CA (x n:Int):Fr (aa [i64]):=Jb (decide (x>=65536)) (Jd (¬ (16:Int)<0) (Jr (mh 16 x) (I6.wrap (n+16)))) (Jr x n)
def yi (x:ag [.d u64]):Fr (aa [i64]):=Jb (decide (x.1>=4294967296)) (Jd (¬ (32:Int)<0) (CA (mh 32 x.1) 32)) (CA x.1 0)
def qz6 (h:0<=x):mh 8 x=x/2 ^ 8:=by
 unfold mh; rw[uag _ (by decide)]; rfl
def qz4 (h:0<=x):mh 16 x=x/2 ^ 16:=by
 unfold mh; rw[uag _ (by decide)]; rfl
def qz5 (h:0<=x):mh 32 x=x/2 ^ 32:=by
 unfold mh; rw[uag _ (by decide)]; rfl
def nP (x n K:Int) (f:Fr (aa [i64])):Prop:=f.ok/\∃ k:Nat,(f.get).1=n+k/\1<=k/\(k:Int)<=K/\(2:Int) ^ (k-1)<=x/\x<2 ^ k
def zbl:(Ln.size:Int)=256:=by decide +kernel
def zbm:∀ x:Fin 256,x.val≠0->1<=kb x.val/\kb x.val<=8/\2 ^ (kb x.val-1)<=x.val/\x.val<2 ^ kb x.val:=by decide +kernel
def Su {n:Int} (hx:1<=x/\x<256) (hn:0<=n/\n<=1000):nP x n 8 (ro x n):=by
 obtain⟨m,rfl⟩:∃ m:Nat,x=m:=⟨x.toNat,by omega⟩;have e:IntKind.u8.wrap (m:Int)=m:=by show(m:Int)%((2 ^ 8:Nat):Int)=m; omega
 obtain⟨h1,h2,h3,h4⟩:1<=kb m/\kb m<=8/\2 ^ (kb m-1)<=m/\m<2 ^ kb m:=zbm ⟨m,by omega⟩ (show m≠0 by omega);refine⟨⟨?_,uT⟩,_,?_,h1,by omega,by exact_mod_cast h3,by exact_mod_cast h4⟩
 ·rw[e]; rw[zbl]; omega
 ·show I6.wrap (n+I6.wrap (kb (IntKind.u8.wrap (m:Int)).toNat:Int))=_;rw[e,ucy];rw[show I6.wrap (kb m:Int)=(kb m:Int) from cz (by omega)];exact cz (by omega)
def qz7 {k:Nat} (hk:1<=k) (h1:(2:Int) ^ (k-1)<=x/2 ^ j) (h2:x/2 ^ j<2 ^ k):(2:Int) ^ (j+k-1)<=x/\x<2 ^ (j+k):=by
 have hp:(0:Int)<2 ^ j:=Int.pow_pos (by decide);have e1:(2:Int) ^ (j+k-1)=2 ^ (k-1)*2 ^ j:=by rw[<- Int.pow_add]; congr 1; omega
 have e2:(2:Int) ^ (j+k)=2 ^ k*2 ^ j:=by rw[<- Int.pow_add]; congr 1; omega
 rw[e1,e2];exact⟨(Int.le_ediv_iff_mul_le hp).1 h1,(Int.ediv_lt_iff_lt_mul hp).1 h2⟩
def Js {n K:Int} {b:Bool} {f g:Fr (aa [i64])} (hp:p) (h1:b=true->nP (x/2 ^ j) (n+j) K f) (h2:b=false->nP x n K g):nP x n (K+j) (Jb b (Jd p f) g):=by
 cases hb:b with
 |true=>
  obtain⟨ho,k,e1,e2,e3,e4,e5⟩:=h1 hb;obtain⟨e6,e7⟩:=qz7 e2 e4 e5;exact⟨⟨λ_=>⟨hp,ho⟩,λh=>(by cases h)⟩,j+k,e1.trans (Int.add_assoc _ _ _),by omega,by omega,e6,e7⟩
 |false=>
  obtain⟨ho,k,e1,e2,e3,e4,e5⟩:=h2 hb;exact⟨⟨λh=>(by cases h),λ_=>ho⟩,k,e1,e2,by omega,e4,e5⟩
def Sv {n:Int} (hx:1<=x/\x<65536) (hn:0<=n/\n<=900):nP x n (8+(8:Nat)) (Jr x n):=
 Js (j:=8) (by decide) (λh=>by
  have h':x>=256:=by simpa using h
  rw[qz6 (by omega),show I6.wrap (n+8)=n+8 from cz (by omega)];exact Su ⟨by omega,by omega⟩ ⟨by omega,by omega⟩) (λh=>by
  have h':¬ x>=256:=by simpa using h
  exact Su ⟨by omega,by omega⟩ ⟨by omega,by omega⟩)
def Sw {n:Int} (hx:1<=x/\x<4294967296) (hn:0<=n/\n<=800):nP x n (8+(8:Nat)+(16:Nat)) (CA x n):=
 Js (j:=16) (by decide) (λh=>by
  have h':x>=65536:=by simpa using h
  rw[qz4 (by omega),show I6.wrap (n+16)=n+16 from cz (by omega)];exact Sv ⟨by omega,by omega⟩ ⟨by omega,by omega⟩) (λh=>by
  have h':¬ x>=65536:=by simpa using h
  exact Sv ⟨by omega,by omega⟩ ⟨by omega,by omega⟩)
def Sx (hx:1<=x/\x<18446744073709551616):nP x 0 (8+(8:Nat)+(16:Nat)+(32:Nat)) (yi (x,())):=
 Js (j:=32) (by decide) (λh=>by
  have h':x>=4294967296:=by simpa using h
  show nP (x/2 ^ 32) _ _ (CA (mh 32 x) 32);rw[qz5 (by omega)];exact Sw ⟨by omega,by omega⟩ ⟨by omega,by omega⟩) (λh=>by
  have h':¬ x>=4294967296:=by simpa using h
  exact Sw ⟨by omega,by omega⟩ ⟨by omega,by omega⟩)
def Gu:Ct:=⟨[.d u64],[i64],λx=>(yi x).get,λx=>[1<=x.1]⟩
def qqd:af prog 236 Gu:=
 cQ (aS (aP (cs:=[]) (ps:=[]) aG trivial trivial) f236 (fr:=yi)) _ _
  (λw F x vs hr hok=>by
   obtain⟨n,_⟩:=x;obtain⟨v1,vs1,rfl,h1,_⟩:=hr;have b1:=pP h1;have hok':1<=n:=hok;exact⟨(Sx ⟨hok',by omega⟩).1,rfl⟩)
def qy:Ct:=⟨[.d u64],[i64],λx=>(I6.wrap (64-(yi x).get.1),()),λx=>[1<=x.1]⟩
def qti:af prog 227 qy:=
 conv (aS (aP (cs:=[(236,Gu)]) (ps:=[]) aG ⟨qqd,uT⟩ trivial) f227 (fr:=λx=>Jd (1<=x.1) (Jv (I6.wrap (64-(Gu.f (x.1,())).1),()))) (ps:=[.d u64])) _ _
  (λw F x vs _ hok=>⟨⟨hok,uT⟩,rfl⟩)
def jk (a b d q r:Int):Int×Int:=
 if iR q b r d=true then
  if h:IntKind.u64.wrap (r+a)<4294967296/\r<IntKind.u64.wrap (r+a) then jk a b d (IntKind.u64.wrap (q-1)) (IntKind.u64.wrap (r+a))
  else (IntKind.u64.wrap (q-1),IntKind.u64.wrap (r+a))
 else (q,r)
termination_by (4294967296-r).toNat
decreasing_by omega
abbrev mw (a r:Int):Prop:=(1<=a/\a<4294967296)/\0<=r/\r<4294967296
def Zw (x:nR.X):Fr uW.Out:=
 match x with
 |((y,s,a,b,c,d,e,q,r,_),_)=>Jd (mw a r) (Jv (Rd.out ((y,s,a,b,c,d,e,(jk a b d q r).1,(jk a b d q r).2,()),())))
def Zx (x:nS.X):Fr uX.Out:=
 match x with
 |((y,s,a,b,d,e,q,r,u,v,_),_)=>Jd (mw a r) (Jv (Rd.out ((y,s,a,b,d,e,q,(jk a b e v r).2,u,(jk a b e v r).1,()),())))
noncomputable def WX:Cx:=cx [(227,qy)] []
def ED:CxOK prog WX:=aP aG ⟨qti,uT⟩ trivial
def RV {b d q r:Int} (hi:mw a r) (hm:iR q b r d=true) (h2:decide (IntKind.u64.wrap (r+a)>=4294967296)=false) :
  mw a (IntKind.u64.wrap (r+a))/\(4294967296-IntKind.u64.wrap (r+a)).toNat<(4294967296-r).toNat/\jk a b d q r=jk a b d (IntKind.u64.wrap (q-1)) (IntKind.u64.wrap (r+a)):=by
 have e:IntKind.u64.wrap (r+a)=r+a:=dx (by omega);have h3:¬ (r+a>=4294967296):=by rw[e] at h2; simpa using h2
 refine⟨?_,?_,?_⟩
 ·rw[e]; omega
 ·rw[e]; omega
 ·rw[jk,if_pos hm,dif_pos (by rw[e]; omega)]
def RU {b d q r:Int} (hm:iR q b r d=true) (h2:decide (IntKind.u64.wrap (r+a)>=4294967296)=true):jk a b d q r=(IntKind.u64.wrap (q-1),IntKind.u64.wrap (r+a)):=by
 have h3:IntKind.u64.wrap (r+a)>=4294967296:=by simpa using h2
 rw[jk,if_pos hm,dif_neg (by omega)]
def RT {b d q r:Int} (hm:iR q b r d=false):jk a b d q r=(q,r):=by
 rw[jk,if_neg (by rw[hm]; decide)]
def qf4:ae prog (.loop (au f211 0)) nR uW Zw:=
 ae.loop (ae.of_run ED (bs:=0) (f:=PN) rfl rfl rfl (λ_=>aY _ 0) (λx=>by kernel_rfl)) (inv:=λx=>mw x.1.2.2.1 x.1.2.2.2.2.2.2.2.2.1) (μ:=λx=>(4294967296-x.1.2.2.2.2.2.2.2.2.1).toNat)
  (by
   rintro⟨⟨y,s,a,b,c,d,e,q,r,_⟩,_⟩ hinv Q hq;have hq:=hq.2;refine⟨λh=>⟨λh2=>?_,λh2=>?_⟩,λh=>?_⟩
   ·rw[RU h h2] at hq; exact hq
   ·obtain⟨k1,k2,k3⟩:=RV hinv h h2;rw[k3] at hq;exact⟨k1,k2,k1,hq⟩
   ·rw[RT h] at hq; exact hq)
  (λx Q h=>h.1)
def qf5:ae prog (.loop (au f211 1)) nS uX Zx:=
 ae.loop (ae.of_run ED (bs:=0) (f:=PO) rfl rfl rfl (λ_=>aY _ 0) (λx=>by kernel_rfl)) (inv:=λx=>mw x.1.2.2.1 x.1.2.2.2.2.2.2.2.1) (μ:=λx=>(4294967296-x.1.2.2.2.2.2.2.2.1).toNat)
  (by
   rintro⟨⟨y,s,a,b,d,e,q,r,u,v,_⟩,_⟩ hinv Q hq;have hq:=hq.2;refine⟨λh=>⟨λh2=>?_,λh2=>?_⟩,λh=>?_⟩
   ·rw[RU h h2] at hq; exact hq
   ·obtain⟨k1,k2,k3⟩:=RV hinv h h2;rw[k3] at hq;exact⟨k1,k2,k1,hq⟩
   ·rw[RT h] at hq; exact hq)
  (λx Q h=>h.1)
def mi (s a:Int):Int:=wU (a*2 ^ min s.toNat IntKind.u64.bits)
def Wm (s hi lo:Int):Int:=wU ((BitVec.ofInt IntKind.u64.bits (mi s hi) ||| BitVec.ofInt IntKind.u64.bits (lo.fdiv (2 ^ min (wU (64-s)).toNat IntKind.u64.bits))).toNat:Int)
def qG (u y:Int):Int:=wU (u.tdiv (bC y))
def rG (u y:Int):Int:=wU (u-wU (qG u y*bC y))
def CW (u y d:Int):Int×Int:=jk (bC y) (ft y) d (qG u y) (rG u y)
def Es (u y l:Int):Int:=wU (wU (wU (u*4294967296)+bC l)-wU ((CW u y (bC l)).1*y))
def Q6 (s u l y:Int) (z:Fr (aa [u64,u64])):Fr (aa [u64,u64]):=
 let a:=¬ (32:Int)<0;Jd (¬ s<0) (Jd a (Jd (¬ s<0) (Jd (¬ wU (64-s)<0) (Jd (¬ s<0) (Jd a
  (Jd (bC y≠0) (Jd (mw (bC y) (rG u y)) (Jd (bC y≠0) (Jd (mw (bC y) (rG (Es u y l) y)) (Jd (¬ s<0) z))))))))))
def zG (s u l y:Int):aa [u64,u64]:=
 (wU (wU ((CW u y (bC l)).1*4294967296)+(CW (Es u y l) y (ft l)).1),
  (wU (wU (wU (Es u y l*4294967296)+ft l)-wU ((CW (Es u y l) y (ft l)).1*y))).fdiv (2 ^ min s.toNat IntKind.u64.bits),())
def Ir (x:ag [dU,dU,dU]):Fr (aa [u64,u64]):=
 let b:=x.2.2.1;let a:=wU (qy.f (b,())).1;let d:=mi a x.2.1;let c:=Wm a x.1 x.2.1;Jb (b==0) (Jd False (Jv (0,0,())))
  (Jb (decide (b<=x.1)) (Jd False (Jv (0,0,())))
   (Jb (x.1==0) (Jd (b≠0) (Jd (b≠0) (Jv (IntKind.u64.wrap (x.2.1.tdiv b),x.2.1.tmod b,()))))
    (Jd (1<=b) (Q6 a c d (mi a b)
     (Jv (zG a c d (mi a b)))))))
def qfd:af prog 211 (bg [dU,dU,dU] [u64,u64] Ir):=
 oP ED qf4 qf5
def LD (x:Int):0<=wU x/\wU x<18446744073709551616:=by
 show 0<=IntKind.u64.wrap x/\IntKind.u64.wrap x<_;rw[IntKind.wrap_u64];omega
def qwy {u:Int} (hu:0<=u/\u<18446744073709551616) (hy:1<=bC y):rG u y=u%bC y:=by
 have e:qG u y=u/bC y:=by
  unfold qG;rw[Int.tdiv_eq_ediv_of_nonneg hu.1];exact dx ⟨udg hu.1 (by omega),by have:=Int.ediv_le_self (bC y) hu.1; omega⟩
 have hm:=Int.mul_ediv_add_emod u (bC y);have h0:=Int.emod_nonneg u (show bC y≠0 by omega);have hn:=ud7 (show 0<=bC y by omega) (udg hu.1 (show 0<=bC y by omega));unfold rG;rw[e,show wU (u/bC y*bC y)=u/bC y*bC y from dx (by rw[uew]; omega)];rw[show u-u/bC y*bC y=u%bC y by rw[uew]; omega];exact dx (by omega)
def RW {u:Int} (hu:0<=u/\u<18446744073709551616) (hy:1<=bC y/\bC y<4294967296):mw (bC y) (rG u y):=by
 refine⟨hy,?_⟩;rw[qwy hu hy.1];have h0:=Int.emod_nonneg u (show bC y≠0 by omega);have h1:=Int.emod_lt_of_pos u (show 0<bC y by omega);omega
def qtj (hy:1<=y/\y<18446744073709551616):∃ s:Nat,s<=63/\wU (qy.f (y,())).1=s/\(9223372036854775808:Int)<=y*2 ^ s/\y*2 ^ s<18446744073709551616:=by
 obtain⟨_,k,e1,e2,e3,e4,e5⟩:=Sx hy;have e3':k<=64:=by omega
 refine⟨64-k,by omega,?_,?_,?_⟩
 ·show wU (I6.wrap (64-(yi (y,())).get.1))=_;rw[e1,show I6.wrap (64-(0+(k:Int)))=64-(0+(k:Int)) from cz (by omega)];rw[show wU (64-(0+(k:Int)))=64-(0+(k:Int)) from dx (by omega)];omega
 ·have h:=Int.mul_le_mul_of_nonneg_right e4 (show(0:Int)<=2 ^ (64-k) from uep (Int.pow_pos (by decide)));rw[<- Int.pow_add,show k-1+(64-k)=63 by omega] at h;exact h
 ·have h:=Int.mul_lt_mul_of_pos_right e5 (show(0:Int)<2 ^ (64-k) from Int.pow_pos (by decide));rw[<- Int.pow_add,show k+(64-k)=64 by omega] at h;exact h
def qfc {hi lo:Int} (b1:0<=hi) (b3:y<=18446744073709551615) (hok':hi<y):(Ir (hi,lo,y,())).ok:=by
 obtain⟨s,s1,s2,s3,s4⟩:=qtj (y:=y) ⟨by omega,by omega⟩;refine⟨λh=>?_,λ_=>⟨λh=>?_,λ_=>⟨λ_=>⟨?_,?_,uT⟩,λ_=>⟨?_,?_⟩⟩⟩⟩
 ·have:y=0:=by simpa using h
  omega
 ·have:y<=hi:=by simpa using h
  omega
 ·show y≠0;omega
 ·show y≠0;omega
 ·show 1<=y;omega
 show(Q6 (wU (qy.f (y,())).1) (Wm (wU (qy.f (y,())).1) hi lo) _ (mi (wU (qy.f (y,())).1) y) _).ok;rw[s2];have ey:mi (s:Int) y=y*2 ^ s:=by
  unfold mi;rw[ucy,show min s IntKind.u64.bits=s from udl (by show s<=64; omega)];exact dx (by omega)
 have hy:1<=bC (mi (s:Int) y)/\bC (mi (s:Int) y)<4294967296:=by
  rw[IJ,ey];omega
 have hu:=LD ((BitVec.ofInt IntKind.u64.bits (mi s hi) ||| BitVec.ofInt IntKind.u64.bits (lo.fdiv (2 ^ min (wU (64-(s:Int))).toNat IntKind.u64.bits))).toNat:Int);have h64:¬ wU (64-(s:Int))<0:=by have:=LD (64-(s:Int)); omega
 exact⟨by omega,by decide,by omega,h64,by omega,by decide,by omega,RW hu hy,by omega,RW (LD _) hy,by omega,uT⟩
def Gg:Ct:=⟨[dU,dU,dU],[u64,u64],λx=>(Ir x).get,λx=>[x.1<x.2.2.1]⟩
def qfb:af prog 211 Gg:=
 cQ qfd _ _ (λw F x vs hr hok=>by
  obtain⟨hi,lo,y,_⟩:=x;obtain⟨v1,vs1,rfl,h1,v2,vs2,rfl,h2,v3,vs3,rfl,h3,_⟩:=hr;exact⟨qfc (pP h1).1 (pP h3).2 hok,rfl⟩)
noncomputable def ZQ:FuncId->Option (Func×(Nat->St->Option Tr)):=cu [(230,(f230,bw))]
noncomputable def ZR:FuncId->Option (Func×(Nat->St->Option Tr)):=cu [(185,(f185,bw)),(215,(f215,bw))]
noncomputable def ZS:FuncId->Option (Func×(Nat->St->Option Tr)):=cu [(194,(f194,bw)),(214,(f214,bw))]
abbrev Al:List (FuncId×Ct):=[(210,mD),(211,Gg)]
def F7:iz prog Al:=⟨JD,qfb,uT⟩
noncomputable def M5:Cx:=cx Al []
noncomputable def M6:Cx:=cW Al [] (fU prog M5 ZQ)
noncomputable def Zk:Cx:=cW Al [] (fU prog M6 ZR)
def Zi:CxOK prog M5:=aP aG F7 trivial
def qe:∀ f fn Λ,cu (α:=Func×(Nat->St->Option Tr)) [] f=some (fn,Λ)->prog.funcs[f]? = some fn/\∀ c E',fn.body=some c->bP prog E' Λ c 0:=λ_ _ _ h=>(nomatch h)
def lk {g:FuncId} {fg:Func} {r:List (FuncId×(Func×(Nat->St->Option Tr)))} (hg:prog.funcs[g]? = some fg) (hr:∀ f fn Λ,cu r f=some (fn,Λ)->prog.funcs[f]? = some fn/\∀ c E',fn.body=some c->bP prog E' Λ c 0) :
  ∀ f fn Λ,cu ((g,(fg,bw))::r) f=some (fn,Λ)->prog.funcs[f]? = some fn/\∀ c E',fn.body=some c->bP prog E' Λ c 0:=λf fn Λ h=>by
 simp only[cu] at h;split at h
 ·rename_i hf;subst hf;cases h;exact⟨hg,λc E' _=>aY c 0⟩
 ·exact hr f fn Λ h
def Zj:CxOK prog M6:=cZ aG F7 trivial (gG Zi (lk (by kernel_rfl) qe))
def Zl:CxOK prog Zk:=cZ aG F7 trivial (gG Zj (lk (by kernel_rfl) (lk (by kernel_rfl) qe)))
def qee {ps:List PT} {rs:List Ty} {fr:ag ps->Fr (aa rs)} (h:af P f (bg ps rs fr)) (ok:ag ps->List Prop) (hg:∀ w F xs vs,cJ P w F ps xs vs->av (ok xs)->(fr xs).ok):af P f ⟨ps,rs,λx=>(fr x).get,ok⟩:=
 cQ h _ ok (λw F xs vs hr hok=>⟨hg w F xs vs hr hok,rfl⟩)
def my (A:σ->Prop) (B:ρ->Prop):σ ⊕ ρ->Prop
 |.inl s=>A s
 |.inr y=>B y
def Tm {step:Int->T->σ->Fr (σ ⊕ ρ)} (I:Nat->σ->Prop) (Q:ρ->Prop) (l0:List T) (h:∀ (i:Nat) e s,l0[i]? = some e->I i s->(step (i:Int) e s).satP (my (I (i+1)) Q)) :
  (l:List T)->(i:Nat)->l0.drop i=l->(s:σ)->I i s->eJ step (i:Int) l s/\my (I (i+l.length)) Q (da step (i:Int) l s)
 |[],_,_,_,hs=>⟨uT,hs⟩
 |e::r,i,hl,s,hs=>by
  have he:l0[i]? = some e:=by
   have:=ufm (·[0]?) hl;simpa using this
  have hr:l0.drop (i+1)=r:=by
   have:=ufm (List.drop 1) hl;simpa[List.drop_drop] using this
  obtain⟨h1,h2⟩:=cO (h i e s he hs);unfold eJ da;cases hg:(step (i:Int) e s).get with
  |inl s'=>
   rw[hg] at h2;have:=Tm I Q l0 h r (i+1) hr s' h2;rw[show i+(e::r).length=i+1+r.length by simp; omega];exact⟨⟨h1,this.1⟩,this.2⟩
  |inr y=>
   rw[hg] at h2;exact⟨⟨h1,uT⟩,h2⟩
def nm {step:Int->T->σ->Fr (σ ⊕ ρ)} (I:Nat->σ->Prop) (Q:ρ->Prop) (l:List T) (h:∀ (i:Nat) e s,l[i]? = some e->I i s->(step (i:Int) e s).satP (my (I (i+1)) Q)) (s:σ) (h0:I 0 s) :
  eJ step 0 l s/\my (I l.length) Q (da step 0 l s):=by
 have:=Tm I Q l h l 0 rfl s h0
 rwa [uet] at this
def Tl {step:Int->T->σ->Fr σ} (I:Nat->σ->Prop) (l0:List T) (h:∀ (i:Nat) e s,l0[i]? = some e->I i s->(step (i:Int) e s).satP (λs'=>I (i+1) s')) :
  (l:List T)->(i:Nat)->l0.drop i=l->(s:σ)->I i s->bM step (i:Int) l s/\I (i+l.length) (bO step (i:Int) l s)
 |[],_,_,_,hs=>⟨uT,hs⟩
 |e::r,i,hl,s,hs=>by
  have he:l0[i]? = some e:=by
   have:=ufm (·[0]?) hl;simpa using this
  have hr:l0.drop (i+1)=r:=by
   have:=ufm (List.drop 1) hl;simpa[List.drop_drop] using this
  obtain⟨h1,h2⟩:=cO (h i e s he hs);have:=Tl I l0 h r (i+1) hr _ h2;unfold bM bO;rw[show i+(e::r).length=i+1+r.length by simp; omega];exact⟨⟨h1,this.1⟩,this.2⟩
def dk {step:Int->T->σ->Fr σ} (I:Nat->σ->Prop) (l:List T) (h:∀ (i:Nat) e s,l[i]? = some e->I i s->(step (i:Int) e s).satP (λs'=>I (i+1) s')) (s:σ) (h0:I 0 s):bM step 0 l s/\I l.length (bO step 0 l s):=by
 have:=Tl I l h l 0 rfl s h0
 rwa [uet] at this
def iY (p q:Prop) (g:σ ⊕ ρ) (d:σ) (d2:ρ) (k:σ->Fr α) (r:ρ->Fr α):Fr α:=.need p (.need q (.br (dF g) (k (dO d g)) (r (zej d2 g))))
def cI (p q:Prop) (g:σ) (k:σ->Fr α):Fr α:=.need p (.need q (k g))
def E3 {q:Prop} {g:σ ⊕ ρ} {d:σ} {d2:ρ} {k:σ->Fr α} {r:ρ->Fr α} {Q:α->Prop} {A:σ->Prop} {B:ρ->Prop} (hp:p) (h:q/\my A B g) (hk:∀ s,A s->(k s).satP Q) (hr:∀ y,B y->(r y).satP Q):(iY p q g d d2 k r).satP Q:=by
 refine⟨hp,h.1,?_⟩;have h2:=h.2;cases g with
 |inl s=>exact⟨λ_=>hk s h2,λh=>(by cases h)⟩
 |inr y=>exact⟨λh=>(by cases h),λ_=>hr y h2⟩
def fz {q:Prop} {g:σ} {k:σ->Fr α} {Q:α->Prop} {A:σ->Prop} (hp:p) (h:q/\A g) (hk:∀ s,A s->(k s).satP Q):(cI p q g k).satP Q:=⟨hp,h.1,hk g h.2⟩
def dnT (q:Int):Fr (aa [i64,i64]):=Jb (decide (q>4000000000000000000)) (Jv (0,5,())) (Jb false (mR (IntKind.u64.wrap (q+1))) (mR q))
def Pq (h l c:Int):Fr (aa [i64,i64]):=Jb (decide (h>=c)) (Jv (0,5,())) (Jd (h<c) (dnT (Gg.f (h,l,c,())).1))
def Q7 (x:ag [.d i64,.d i64,.d i64]):Fr (aa [i64,i64]):=
 let a:=mD.f (IntKind.u64.wrap x.1,IntKind.u64.wrap x.2.1,());Jb (bif bif decide (x.1<0) then true else decide (x.2.1<0) then true else decide (x.2.2.1<0)) (Jv (0,1,()))
  (Jb (x.2.2.1==0) (Jv (0,6,()))
   (Pq a.1 a.2.1 (IntKind.u64.wrap x.2.2.1)))
def PI (q:Int):(mR q).ok:=⟨λ_=>uT,λ_=>uT⟩
def qfl (h l c:Int):(Pq h l c).ok:=⟨λ_=>uT,λhb=>⟨by have:=ucf hb; omega,λ_=>uT,λ_=>⟨λ_=>PI _,λ_=>PI _⟩⟩⟩
def Gi:Ct:=⟨[.d i64,.d i64,.d i64],[i64,i64],λx=>(Q7 x).get,λ_=>[]⟩
def qf7:af prog 195 Gi:=
 qee (aS Zl f195 (fr:=Q7)) _ (λ_ _ _ _ _ _=>⟨λ_=>uT,λ_=>⟨λ_=>uT,λ_=>qfl _ _ _⟩⟩)
noncomputable def EK:Cx:=cW [(195,Gi)] [] (fU prog (cx [] []) ZS)
def wy:CxOK prog EK:=cZ aG ⟨qf7,uT⟩ trivial (gG (aP (cs:=[]) (ps:=[]) aG trivial trivial) (lk (by kernel_rfl) (lk (by kernel_rfl) qe)))
abbrev pu:Pt:=⟨105,0,⟨[(35,.d i64),(34,.d i64),(33,.d aK),(0,.d i64),(7,.d .bool)],[.o 8 3 i64,.x 280001 3 i64,.g 6 214 [280001]]⟩,⟨[(7,.d .bool),(0,.d i64)],[.o 8 3 i64]⟩,⟨[(4,.d aK),(5,.d i64)],[]⟩⟩
def wa (k:Int×(List Int)×Int) (b:Prop) (i:Int) (e:i64.den) (s:Bool×(List Int)×Int):Fr ((Bool×(List Int)×Int) ⊕ pu.R.X):=
 Jd b (Jb (decide (e<0)) (Jb (1==1) (Jv (.inr (([],1,()),()))) (Jd (s.2.1.length + [0].length<=maxLen/\(s.2.1.length + [0].length)*8<=140737488355328) (Jv (.inl (bif s.1 then true else 1==5,s.2.1++[0],s.2.2))))) (Jb (bif decide (I6.wrap (s.2.2+e)>4000000000000000000) then true else decide (I6.wrap (s.2.2+e)<0)) (Jb (5==1) (Jv (.inr (([],5,()),()))) (Jd (s.2.1.length + [0].length<=maxLen/\(s.2.1.length + [0].length)*8<=140737488355328) (Jv (.inl (bif s.1 then true else 5==5,s.2.1++[0],4000000000000000001))))) (Jb (0==1) (Jv (.inr (([],0,()),()))) (Jd (s.2.1.length + [I6.wrap (s.2.2+e)].length<=maxLen/\(s.2.1.length + [I6.wrap (s.2.2+e)].length)*8<=140737488355328) (Jv (.inl (bif s.1 then true else 0==5,s.2.1++[I6.wrap (s.2.2+e)],I6.wrap (s.2.2+e))))))))
def Ni:pu.M.X->Fr pu.Out:=FK (λx=>(x.1.1,(x.1.2.1,x.1.2.2.1,x.1.2.2.2.1),(x.1.2.2.2.2.1,x.2.1,x.2.2.1))) (λk=>k.1) (λk=>k.2.1) wa (λk s=>((s.1,k.2.2,()),s.2.1,())) (λ_ y=>Rd.back y) (false,[],0) (aW _,bN _)
def qsl:ae prog (.loop (au f162 0)) pu.M pu Ni:=
 lm wy (λi k s=>((i,k.1,k.2.1,k.2.2,s.1,()),s.2.1,s.2.2,())) i64.dflt
def qml:=λk s=>da (wa k True) 0 k.2.1 s
def qus:=λk s=>eJ (wa k True) 0 k.2.1 s
def zea (Γ:Gm):St->Option Tr:=pu.han Γ pu.M Ni
abbrev vz:Pt:=⟨105,3,⟨[(84,.d i64),(83,.d i64),(0,.d i64),(13,.d i64),(15,.d i64)],[.o 82 3 i64,.o 14 3 i64]⟩,⟨[],[.o 14 3 i64]⟩,⟨[],[]⟩⟩
def zl (k:Int×Int×Int×(List Int)) (b:Prop) (i:Int) (e:i64.den) (s:Int×(List Int)):Fr (Int×(List Int)):=
 let a:=Gi.f (k.2.1,e,k.2.2.1,());Jd b (Jd (Int.toNat i<k.2.2.2.length) (Jd (0<=i/\i<(s.2.length:Int)) (Jd (Int.toNat i<s.2.length) (Jv (a.1,s.2.set (Int.toNat i) (I6.wrap (a.1-s.1)))))))
def Nj:vz.M.X->Fr vz.Out:=FG (λx=>(x.1.1,(x.1.2.1,x.1.2.2.1,x.1.2.2.2.1,x.2.1),(x.1.2.2.2.2.1,x.2.2.1))) (λk=>k.1) (λk=>k.2.2.2) zl (λk s=>((),s.2,()))
def qsm:ae prog (.loop (au f162 1)) vz.M vz Nj:=
 cN wy (λi k s=>((i,k.1,k.2.1,k.2.2.1,s.1,()),k.2.2.2,s.2,())) i64.dflt
def qmm:=λk s=>bO (zl k True) 0 k.2.2.2 s
def qut:=λk s=>bM (zl k True) 0 k.2.2.2 s
def zeb (Γ:Gm):St->Option Tr:=vz.han Γ vz.M Nj
def xy (x:ag [.d i64,.d aK]):Fr (aa [aK,i64]):=
 Jb (bif decide (x.1<0) then true else decide (((List.length x.2.1):Int)>2000)) (Jv ([],1,())) (Jd ((0:Int)<=0/\0<=((List.length x.2.1):Int)/\((List.length x.2.1):Int)<=(maxLen:Int)/\((List.length x.2.1):Int)*(8:Int)<=140737488355328) (iY (InK (((List.length x.2.1):Int)) 0 (List.length x.2.1)) (qus (((List.length x.2.1):Int),x.2.1,x.1) (decide (x.1>4000000000000000000),List.replicate (Int.toNat 0) 0,0)) (qml (((List.length x.2.1):Int),x.2.1,x.1) (decide (x.1>4000000000000000000),List.replicate (Int.toNat 0) 0,0)) (false,[],0) (aW _,bN _) (λs0=>Jb s0.1 (Jv ([],5,())) (Jd (((s0.2.1.length:Int)==0)=false->0<=I6.wrap ((s0.2.1.length:Int)-1)/\I6.wrap ((s0.2.1.length:Int)-1)<(s0.2.1.length:Int)) (Jd (((s0.2.1.length:Int)==0)=false->(I6.wrap ((s0.2.1.length:Int)-1)).toNat<s0.2.1.length) (Jb (bif (s0.2.1.length:Int)==0 then true else s0.2.1.getD (I6.wrap ((s0.2.1.length:Int)-1)).toNat i64.dflt==0) (Jv ([],6,())) (Jd (0<=I6.wrap ((s0.2.1.length:Int)-1)/\I6.wrap ((s0.2.1.length:Int)-1)<(s0.2.1.length:Int)) (Jd ((I6.wrap ((s0.2.1.length:Int)-1)).toNat<s0.2.1.length) (Jd (0<=(s0.2.1.length:Int)/\(s0.2.1.length:Int)<=(s0.2.1.length:Int)/\(s0.2.1.length:Int)<=(maxLen:Int)/\(s0.2.1.length:Int)*(8:Int)<=140737488355328) (cI (InK ((s0.2.1.length:Int)) 0 s0.2.1.length) (qut ((s0.2.1.length:Int),x.1,s0.2.1.getD (I6.wrap ((s0.2.1.length:Int)-1)).toNat i64.dflt,s0.2.1) (0,List.replicate ((s0.2.1.length:Int)).toNat 0)) (qmm ((s0.2.1.length:Int),x.1,s0.2.1.getD (I6.wrap ((s0.2.1.length:Int)-1)).toNat i64.dflt,s0.2.1) (0,List.replicate ((s0.2.1.length:Int)).toNat 0)) (λs1=>Jv (s1.2,0,())))))))))) (λy0=>Jv y0.1)))
def qjm:af prog 162 ⟨[.d i64,.d aK],[aK,i64],λxs=>(xy xs).get,λxs=>[(xy xs).ok]⟩:=
 cf wy (Λ:=(λk=>if k=0 then zea EK.Γ else zeb EK.Γ)) (fn:=f162) (aW [.d i64,.d aK]) (by kernel_rfl) (λc E hc=>C8 hc (by kernel_rfl) (b0:=au f162 0) (b1:=au f162 1) (by kernel_rfl) (by kernel_rfl) (ae.han wy rfl qsl) (ae.han wy rfl qsm)) (λx=>by kernel_rfl)
def ew:1000000<=maxLen:=by decide
def dI {l:Nat} (h:l<=1000000000):InK (l:Int) 0 l:=⟨rfl,by decide,ub2 _,by omega⟩
def uH {l:Nat} (h:l<=1000000):0<=(l:Int)/\(l:Int)<=(l:Int)/\(l:Int)<=(maxLen:Int)/\(l:Int)*(8:Int)<=140737488355328:=by
 have:=ew;omega
def zah (a:Int) (l:List Int) (hl:l.length<=2000) (b:Bool) :
  eJ (wa ((l.length:Int),l,a) True) 0 l (b,[],0)/\my (λs=>s.2.1.length=l.length) (λy=>y.1.1=[]) (da (wa ((l.length:Int),l,a) True) 0 l (b,[],0)):=
 nm (step:=wa ((l.length:Int),l,a) True) (λ(i:Nat) (s:Bool×List Int×Int)=>s.2.1.length=i) (λ(y:pu.R.X)=>y.1.1=[]) l (λi e s he hs=>by
  have hi:i<l.length:=(uak.1 he).1;have hm:=ew;have hn:∀ z:Int,s.2.1.length + [z].length<=maxLen/\(s.2.1.length + [z].length)*8<=140737488355328:=λz=>by
   rw[hs,ua6];omega
  have hs':∀ z:Int,(s.2.1++[z]).length=i+1:=λz=>by rw[ub4,hs]; rfl
  exact⟨uT,λ_=>⟨λ_=>rfl,λ_=>⟨hn 0,hs' 0⟩⟩,λ_=>⟨λ_=>⟨λ_=>rfl,λ_=>⟨hn 0,hs' 0⟩⟩,λ_=>⟨λ_=>rfl,λ_=>⟨hn (I6.wrap (s.2.2+e)),hs' (I6.wrap (s.2.2+e))⟩⟩⟩⟩) _ rfl
def zai (k:Int×Int×Int×List Int) (s:Int×List Int) (hs:s.2.length=k.2.2.2.length) :
  bM (zl k True) 0 k.2.2.2 s/\(bO (zl k True) 0 k.2.2.2 s).2.length=k.2.2.2.length:=
 dk (λ_ (s:Int×List Int)=>s.2.length=k.2.2.2.length) k.2.2.2 (λi e s he hs=>by
  have hi:i<k.2.2.2.length:=(uak.1 he).1;refine⟨uT,?_,⟨?_,?_⟩,?_,?_⟩
  ·rw[ucy]; exact hi
  ·exact ub2 i
  ·rw[hs]; exact Int.ofNat_lt.2 hi
  ·rw[ucy,hs]; exact hi
  ·show(List.set _ _ _).length=_;rw[udk]; exact hs) s hs
def Vr (a:Int) (l:List Int):(xy (a,l,())).satP (λy=>y.1=[]\/y.1.length=l.length):=by
 unfold xy;dsimp only;refine⟨λ_=>.inl rfl,λhb=>?_⟩;have hl:l.length<=2000:=by
  by_cases h:(l.length:Int)>2000
  ·have e:decide ((l.length:Int)>2000)=true:=ud6 h;have h':(bif decide (a<0) then true else decide ((l.length:Int)>2000))=false:=hb;rw[e] at h';cases ha:decide (a<0)<;>rw[ha] at h'<;>cases h'
  ·omega
 have hm:=ew;refine⟨⟨by decide,(uH (by omega)).1,(uH (by omega)).2.2⟩,E3 (dI (by omega)) (zah a l hl _) (λs hs=>⟨λ_=>.inl rfl,λ_=>?_⟩) (λy hy=>.inl hy)⟩;have hs:s.2.1.length=l.length:=hs;have hw:(s.2.1.length:Int)≠0->I6.wrap ((s.2.1.length:Int)-1)=(s.2.1.length:Int)-1:=λ_=>cz (by omega);have h1:(s.2.1.length:Int)≠0->0<=I6.wrap ((s.2.1.length:Int)-1)/\I6.wrap ((s.2.1.length:Int)-1)<(s.2.1.length:Int):=λh=>by
  rw[hw h];omega
 have h2:(s.2.1.length:Int)≠0->(I6.wrap ((s.2.1.length:Int)-1)).toNat<s.2.1.length:=λh=>by
  rw[hw h];omega
 have hz:((s.2.1.length:Int)==0)=false->(s.2.1.length:Int)≠0:=λh=>by simpa using h
 refine⟨λh=>h1 (hz h),λh=>h2 (hz h),λ_=>.inl rfl,λh=>?_⟩;have hn:(s.2.1.length:Int)≠0:=λe=>by
  have e':((s.2.1.length:Int)==0)=true:=by simpa using e
  have h':(bif (s.2.1.length:Int)==0 then true else s.2.1.getD (I6.wrap ((s.2.1.length:Int)-1)).toNat i64.dflt==0)=false:=h;rw[e'] at h';cases h'
 refine⟨h1 hn,h2 hn,uH (by omega),fz (A:=λ(s1:Int×List Int)=>s1.2.length=s.2.1.length) (dI (by omega)) (zai _ _ ?_) (λs1 hs1=>.inr (hs1.trans hs))⟩;show(List.replicate _ _).length=_;rw[List.length_replicate,ucy]
def wW:Ct:=⟨[.d i64,.d aK],[aK,i64],λx=>(xy x).get,λ_=>[]⟩
def zak:af prog 162 wW:=
 conv qjm _ _ (λ_ _ x _ _ _=>⟨(cO (Vr x.1 x.2.1)).1,rfl⟩)
def zaj (a:Int) (l:List Int):(wW.f (a,l,())).1=[]\/(wW.f (a,l,())).1.length=l.length:=(cO (Vr a l)).2
def dC:Code->Nat->Option Code
 |.loop c,0=>some c
 |.seq a b,k=>if k<ce a then dC a k else dC b (k-ce a)
 |.cond _ a b,k=>if k<ce a then dC a k else dC b (k-ce a)
 |.block _ c,k=>dC c k
 |.scope c,k=>dC c k
 |_,_=>none
def uF (f:Func) (k:Nat):Code:=(f.body.bind (dC · k)).getD .skip
def LJ:FuncId->Option Ct:=λf=>if f=238 then some ja else if f=204 then some wS else none
def C2:Cx:=⟨LJ,λ_=>none,λ_ _ _ _=>none⟩
def E7:CxOK prog C2:=JP λf ct h=>by
 simp only[LJ] at h;split at h
 ·rename_i hf; subst hf; cases h; exact SX
 ·split at h
  ·rename_i hf; subst hf; cases h; exact Sy
  ·cases h
def bI (l:List Int) (x:Int):Nat:=l.countP λy=>decide (y<x)
def qd0 (h1:∀ k y,k<i->l[k]? = some y->y<x) (h2:∀ k y,i<=k->l[k]? = some y->¬ y<x) (hi:i<=l.length):bI l x=i:=by
 unfold bI;rw[<- ua9 i l,List.countP_append];have e1:(l.take i).countP (λy=>decide (y<x))=(l.take i).length:=by
  rw[List.countP_eq_length];intro y hy;obtain⟨k,hk⟩:=ua8.1 hy;rw[ub0] at hk;split at hk
  ·rename_i hlt;simpa using h1 k y hlt hk
  ·cases hk
 have e2:(l.drop i).countP (λy=>decide (y<x))=0:=by
  rw[List.countP_eq_zero];intro y hy;obtain⟨k,hk⟩:=ua8.1 hy;rw[ubz] at hk;simpa using h2 (i+k) y (by omega) hk
 rw[e1,e2,uc2];omega
abbrev kV:Pt:=⟨54,0,⟨[(0,.d aK),(1,.d i64),(6,.d i64),(7,.d i64),(8,.d i64)],[]⟩,⟨[(0,.d aK),(1,.d i64),(6,.d i64),(7,.d i64)],[]⟩,⟨[],[]⟩⟩
def aX (i j:Int):Int:=I6.wrap ((IntKind.u64.wrap (I6.wrap (i+j))).fdiv (2 ^ min (Int.toNat 1) IntKind.u64.bits))
def Ik (x:kV.M.X):Fr kV.Out:=
 let b:=x.1.2;let a:=b.2.2;Jb (decide (a.1<a.2.1))
  (Jd (¬ (1:Int)<0)
   (Jd (0<=aX a.1 a.2.1/\aX a.1 a.2.1<x.1.1.length)
    (Jb (wS.f (x.1.1.getD (aX a.1 a.2.1).toNat i64.dflt,b.1,())).1
     (Jv (Rd.next ((x.1.1,b.1,b.2.1,I6.wrap (aX a.1 a.2.1+1),a.2.1,()),())))
     (Jv (Rd.next ((x.1.1,b.1,b.2.1,a.1,aX a.1 a.2.1,()),()))))))
  (Jv (Rd.out ((x.1.1,b.1,b.2.1,a.1,()),())))
def qyo:ae prog (uF f234 0) kV.M kV Ik:=
 ae.of_run E7 (bs:=0) (Λ:=yr) rfl rfl rfl (λE=>lN _ 0) (λx=>by kernel_rfl)
def qtv {i j:Int} (hi:0<=i) (hij:i<=j) (hj:j<=9223372036854775807):aX i j=(i+j)/2:=by
 unfold aX;have h1:IntKind.u64.wrap (I6.wrap (i+j))=i+j:=by
  rw[udc,IntKind.wrap_u64];omega
 have h2:(2:Int) ^ min (Int.toNat 1) IntKind.u64.bits=2:=by decide
 rw[h1,h2,uag _ (by decide),IntWalk.i64_in _ (by omega)]
structure InvB (l:List Int) (x i j:Int):Prop where
 lo:0<=i
 le:i<=j
 hi:j<=l.length
 big:(l.length:Int)<=9223372036854775807
 up:l.Pairwise (· < ·)
 below:∀ (k:Nat) (y:Int),(k:Int)<i->l[k]? = some y->y<x
 above:∀ (k:Nat) (y:Int),j<=k->l[k]? = some y->¬ y<x
def FB (x:kV.M.X):Fr kV.Out:=
 Jd (InvB x.1.1 x.1.2.1 x.1.2.2.2.1 x.1.2.2.2.2.1) (Jv (Rd.out ((x.1.1,x.1.2.1,x.1.2.2.1,(bI x.1.1 x.1.2.1:Int),()),())))
def L6 (h:l.Pairwise (· < ·)) {a:Nat} {z:Int} (hab:a<b) (ha:l[a]? = some y) (hb:l[b]? = some z):y<z:=by
 obtain⟨h1,rfl⟩:=uak.1 ha;obtain⟨h2,rfl⟩:=uak.1 hb;exact(List.pairwise_iff_getElem.1 h) a b h1 h2 hab
def qpk (l:List Int) (x n i j:Int) (hinv:InvB l x i j) (Q:kV.Out->Prop) (hQ:Q (Rd.out ((l,x,n,(bI l x:Int),()),()))) :
  (Ik ((l,x,n,i,j,()),())).satP λ
   |.next x'=>InvB x'.1.1 x'.1.2.1 x'.1.2.2.2.1 x'.1.2.2.2.2.1/\(x'.1.2.2.2.2.1-x'.1.2.2.2.1).toNat<(j-i).toNat/\(FB x').satP Q
   |.out y=>Q (.out y)
   |.back z=>Q (.back z)
   |.pan p=>Q (.pan p):=by
 obtain⟨h1,h2,h3,h4,h5,h6,h7⟩:=hinv;simp only[Ik,Fr.satP,ucs,uau];refine⟨λhij=>?_,λhij=>?_⟩
 ·have hij:i<j:=hij;have hm:=qtv h1 h2 (by omega);have hmid:0<=(i+j)/2/\(i+j)/2<l.length:=by omega
  rw[hm];refine⟨by omega,hmid,?_⟩;obtain⟨y,hy⟩:∃ y,l[((i+j)/2).toNat]? = some y:=by
   have:((i+j)/2).toNat<l.length:=by omega
   exact⟨_,uap this⟩
  have hget:l.getD ((i+j)/2).toNat i64.dflt=y:=by
   rw[uah,hy];rfl
  rw[hget];show(decide (y<x)=true->_)/\(decide (y<x)=false->_);simp only[ucs,uau];refine⟨λhyx=>?_,λhyx=>?_⟩
  ·have hyx:=hyx;have hw:I6.wrap ((i+j)/2+1)=(i+j)/2+1:=IntWalk.i64_in _ (by omega);rw[hw];have hn:InvB l x ((i+j)/2+1) j:=⟨by omega,by omega,h3,h4,h5,λk z hk hz=>by
    by_cases hk2:k<((i+j)/2).toNat
    ·exact Int.lt_trans (L6 h5 hk2 hz hy) hyx
    ·have:k=((i+j)/2).toNat:=by omega
     subst this;rw[hy] at hz;cases hz;exact hyx,h7⟩
   exact⟨hn,by show(j-((i+j)/2+1)).toNat<(j-i).toNat; omega,hn,hQ⟩
  ·have hyx:=hyx;have hn:InvB l x i ((i+j)/2):=⟨h1,by omega,by omega,h4,h5,h6,λk z hk hz=>by
    by_cases hk2:((i+j)/2).toNat<k
    ·have:=L6 h5 hk2 hy hz;omega
    ·have:k=((i+j)/2).toNat:=by omega
     subst this;rw[hy] at hz;cases hz;exact hyx⟩
   exact⟨hn,by show((i+j)/2-i).toNat<(j-i).toNat; omega,hn,hQ⟩
 ·have hij:¬ i<j:=hij;have hij':i=j:=by omega
  have hc:bI l x=i.toNat:=qd0 (λk y hk hy=>h6 k y (by omega) hy) (λk y hk hy=>h7 k y (by omega) hy) (by omega);rw[hc] at hQ;have:((i.toNat:Nat):Int)=i:=by omega
  rw[this] at hQ;exact hQ
def loopB:ae prog (.loop (uF f234 0)) kV.M kV FB:=by
 refine ae.loop qyo (μ:=λx=>(x.1.2.2.2.2.1-x.1.2.2.2.1).toNat) ?_ (λx Q h=>h.1);rintro⟨⟨l,x,n,i,j,_⟩,_⟩ hinv Q hq;exact qpk l x n i j hinv Q hq.2
def ot:{c:Code} -> {k:Nat} -> {b:Code}->dC c k=some b->k<ce c
 |.loop _,0,_,_=>udq
 |.loop _,_+1,_,h=>by simp[dC] at h
 |.seq x y,k,b,h=>by
  simp only[dC] at h;simp only[ce];split at h
  ·omega
  ·have:=ot h;omega
 |.cond _ x y,k,b,h=>by
  simp only[dC] at h;simp only[ce];split at h
  ·omega
  ·have:=ot h;omega
 |.block _ c,k,b,h=>ot (c:=c) h
 |.scope c,k,b,h=>ot (c:=c) h
 |.skip,_,_,h=>by simp[dC] at h
 |.region _ _ _,_,_,h=>by simp[dC] at h
 |.ret,_,_,h=>by simp[dC] at h
 |.exit _,_,_,h=>by simp[dC] at h
 |.label _,_,_,h=>by simp[dC] at h
 |.goto _,_,_,h=>by simp[dC] at h
 |.rangeFunc _ _ _ _,_,_,h=>by simp[dC] at h
 |.refuse _,_,_,h=>by simp[dC] at h
def oX {E:Env} {Λ:Nat->St->Option Tr}:(c:Code)->(k:Nat)->(∀ i b,dC c i=some b->i5 prog E b (Λ (k+i)))->bP prog E Λ c k
 |.loop b,k,h=>h 0 b rfl
 |.seq x y,k,h=>⟨oX x k λi b hb=>h i b (by simp only[dC]; rw[if_pos (ot hb)]; exact hb),oX y _ λi b hb=>by
   have:=h (ce x+i) b (by simp only[dC]; rw[if_neg (by omega),uaw]; exact hb)
   rwa [<- ued] at this⟩
 |.cond _ x y,k,h=>⟨oX x k λi b hb=>h i b (by simp only[dC]; rw[if_pos (ot hb)]; exact hb),oX y _ λi b hb=>by
   have:=h (ce x+i) b (by simp only[dC]; rw[if_neg (by omega),uaw]; exact hb)
   rwa [<- ued] at this⟩
 |.block _ c,k,h=>oX c k h
 |.skip,_,_=>trivial
 |.ret,_,_=>trivial
 |.exit _,_,_=>trivial
 |.region _ _ _,_,_=>trivial
 |.label _,_,_=>trivial
 |.goto _,_,_=>trivial
 |.scope c,k,h=>oX c k h
 |.rangeFunc _ _ _ _,_,_=>trivial
 |.refuse _,_,_=>trivial
def Sn {E:Env} {Λ:Nat->St->Option Tr} {fn:Func} {c b:Code} (hc:fn.body=some c) (hn:(fn.body.map ce)=some 1) (hb:fn.body.bind (dC · 0)=some b) (h:i5 prog E b (Λ 0)):bP prog E Λ c 0:=by
 refine oX c 0 λi b' hb'=>?_;have h1:=ot hb';rw[hc] at hn hb;simp at hn;have hi:i=0:=by omega
 subst hi;simp at hb;rw[hb] at hb';cases hb';exact h
def ΛB:Nat->St->Option Tr:=λ_=>kV.han LJ kV.M FB
def I4 (x:ag [.d aK,.d i64]):Fr (aa [i64,.bool]):=
 let a:=(bI x.1 x.2.1:Int);let b:=Int.toNat a;Jd (InvB x.1 x.2.1 0 x.1.length)
  (Jd (decide (a<x.1.length)=true->0<=a/\a<x.1.length)
  (Jd ((x.1.getD b i64.dflt==x.2.1)=false->decide (a<x.1.length)=true->0<=a/\a<x.1.length)
   (Jv
    (a,
     bif decide (a<x.1.length) then
      bif x.1.getD b i64.dflt==x.2.1 then true
      else
       bif (ja.f (x.1.getD b i64.dflt,())).1 then (ja.f (x.2.1,())).1 else false
     else false,
     ()))))
def qyk:af prog 234 (bg [.d aK,.d i64] [i64,.bool] I4):=
 cf E7 (Λ:=ΛB) (fn:=f234) ([],0,()) (by kernel_rfl) (λc E hc=>Sn hc (by kernel_rfl) (b:=uF f234 0) (by kernel_rfl) (ae.han E7 rfl loopB)) (λxs=>by kernel_rfl)
def ON:{l:List Int}->l.Pairwise (· < ·)->(∀ k y,k<bI l x->l[k]? = some y->y<x)/\∀ k y,bI l x<=k->l[k]? = some y->¬ y<x
 |[],_=>⟨λk y _ h=>by simp at h,λk y _ h=>by simp at h⟩
 |a::r,h=>by
  obtain⟨h1,h2⟩:=ub8.1 h;obtain⟨i1,i2⟩:=ON h2;by_cases ha:a<x
  ·have hc:bI (a::r) x=bI r x+1:=by simp[bI,ha]
   refine⟨λk y hk hy=>?_,λk y hk hy=>?_⟩
   ·cases k with
    |zero=>simp at hy; omega
    |succ k=>exact i1 k y (by omega) (by simpa using hy)
   ·cases k with
    |zero=>omega
    |succ k=>exact i2 k y (by omega) (by simpa using hy)
  ·have hz:bI (a::r) x=0:=by
    unfold bI;rw[List.countP_eq_zero];intro y hy;rcases uee.1 hy with rfl|hy
    ·simpa using ha
    ·have:=h1 y hy;simp;omega
   refine⟨λk y hk _=>by omega,λk y _ hy=>?_⟩;cases k with
   |zero=>simp at hy; omega
   |succ k=>
    have hm:=ube (by simpa using hy);have:=h1 y hm;omega
def OM (h:l.Pairwise (· < ·)):x∈l↔l[bI l x]? = some x:=by
 obtain⟨h1,h2⟩:=ON h;constructor
 ·intro hm;obtain⟨k,hk⟩:=ua8.1 hm;by_cases hlt:k<bI l x
  ·have:=h1 k x hlt hk;omega
  ·by_cases he:k=bI l x
   ·rw[<- he]; exact hk
   ·have hkl:=(uak.1 hk).1;have hy:l[bI l x]? = some (l[bI l x]'(by omega)):=uap (by omega);have a1:=L6 h (by omega) hy hk;have a2:=h2 _ _ (ue4 _) hy;omega
 ·exact λhk=>ube hk
def qd1 (l:List Int) (x:Int):bI l x<=l.length:=List.countP_le_length
def qof (h:l.Pairwise (· < ·)) (hl:(l.length:Int)<=9223372036854775807):InvB l x 0 l.length:=
 ⟨ue5 _,by omega,ue5 _,hl,h,λk y hk _=>by omega,λk y hk hy=>by
  have:=(uak.1 hy).1;omega⟩
def qlf (h:l.Pairwise (· < ·)) (hl:(l.length:Int)<=9223372036854775807):(I4 (l,x,())).ok/\(I4 (l,x,())).get=((bI l x:Int),l.contains x,()):=by
 refine⟨⟨qof h hl,λhd=>?_,λ_ hd=>?_,uT⟩,?_⟩
 ·have hd':(bI l x:Int)<l.length:=by simpa using hd
  exact⟨by omega,hd'⟩
 ·have hd':(bI l x:Int)<l.length:=by simpa using hd
  exact⟨by omega,hd'⟩
 ·show((bI l x:Int),(bif decide ((bI l x:Int)<l.length) then bif l.getD (bI l x) i64.dflt==x then true else (bif false then false else false) else false),())=_;have hb:(bif decide ((bI l x:Int)<l.length) then bif l.getD (bI l x) i64.dflt==x then true else (bif false then false else false) else false)=l.contains x:=by
   have hm:=OM (x:=x) h;by_cases hlt:bI l x<l.length
   ·have h1:decide ((bI l x:Int)<l.length)=true:=by simpa using hlt
    have hg:=uap hlt;have hd:l.getD (bI l x) i64.dflt=l[bI l x]'hlt:=by rw[uah,hg]; rfl
    rw[h1,hd];by_cases he:l[bI l x]'hlt=x
    ·have:=hm.2 (by rw[hg,he]);simp[he,this]
    ·have:¬ x∈l:=λhx=>he (by have:=hm.1 hx; rw[hg] at this; simpa using this);simp[he,this]
   ·have h1:decide ((bI l x:Int)<l.length)=false:=by simpa using hlt
    have:¬ x∈l:=λhx=>by
     have:=hm.1 hx;rw[ua3 (by omega)] at this;cases this
    rw[h1];simp[this]
  rw[hb]
def G4:Ct:=⟨[.d aK,.d i64],[i64,.bool],λx=>((bI x.1 x.2.1:Int),x.1.contains x.2.1,()),λx=>[x.1.Pairwise (· < ·)]⟩
def qyl:af prog 234 G4:=
 conv qyk _ _ λw F xs vs hr hok=>by
  obtain⟨l,x,_⟩:=xs;obtain⟨v,vs',rfl,hv,_⟩:=hr;have hwf:=aA.wf hv.2.2;have hlen:(l.length:Int)<=9223372036854775807:=by
   have:=hwf.1;simp only[maxLen] at this;omega
  exact qlf hok hlen
def tH (l:List Int) (x:Int):Nat:=l.countP λy=>decide (y<=x)
def OL {x:Int}:{l:List Int}->l.Pairwise (· < ·)->tH l x=bI l x+(if l.contains x then 1 else 0)
 |[],_=>rfl
 |a::r,h=>by
  obtain⟨h1,h2⟩:=ub8.1 h;have ih:=OL (x:=x) h2;have hnot:a=x->¬ x∈r:=λhe hm=>by have:=h1 x hm; omega
  unfold tH bI at *;rw[List.countP_cons,List.countP_cons,ih];rcases Int.lt_trichotomy a x with hlt|heq|hgt
  ·have:¬ x=a:=by omega
   simp[hlt,uep hlt,this];omega
  ·subst heq;have:=hnot rfl;simp[this]
  ·have h3:¬ a<=x:=by omega
   have h4:¬ a<x:=by omega
   have h5:¬ x=a:=by omega
   simp[h3,h4,h5]
def dz (f:bm.den) (d:Int):Int:=match tH f.1 d with
 |0=>0
 |k+1=>f.2.1.getD k 0
def LK:FuncId->Option Ct:=λf=>if f=234 then some G4 else if f=222 then some Gx else none
def C3:Cx:=⟨LK,λ_=>none,λ_ _ _ _=>none⟩
def zJ:CxOK prog C3:=JP λf ct h=>by
 simp only[LK] at h;split at h
 ·rename_i hf; subst hf; cases h; exact qyl
 ·split at h
  ·rename_i hf; subst hf; cases h; exact qtx
  ·cases h
def I5 (x:ag [.d bm,.d i64]):Fr (aa [i64]):=
 let r:=G4.f (x.1.1,x.2.1,())
 Jd (x.1.1.Pairwise (· < ·))
  (Jb (!r.2.1)
   (Jb (decide (I6.wrap (r.1-1)<0)) (Jv (0,()))
    (Jd (0<=I6.wrap (r.1-1)/\I6.wrap (r.1-1)<x.1.2.1.length) (Jv (x.1.2.1.getD (I6.wrap (r.1-1)).toNat i64.dflt,()))))
   (Jb (decide (r.1<0)) (Jv (0,()))
    (Jd (0<=r.1/\r.1<x.1.2.1.length) (Jv (x.1.2.1.getD r.1.toNat i64.dflt,())))))
def zcz:af prog 224 (bg [.d bm,.d i64] [i64] I5):=
 cf zJ (Λ:=yr) (fn:=f224) (([],[],()),0,()) (by kernel_rfl) (λc E _=>lN c 0) (λxs=>by kernel_rfl)
def qli {at_ val:List Int} {d:Int} (h:at_.Pairwise (· < ·)) (hl:(at_.length:Int)<=9223372036854775807) (hlen:at_.length=val.length) :
  (I5 ((at_,val,()),d,())).ok/\(I5 ((at_,val,()),d,())).get=(dz (at_,val,()) d,()):=by
 have hle:=qd1 at_ d;have hcl:=OL (x:=d) h;have hmem:=OM (x:=d) h;by_cases hc:d∈at_
 ·have hcb:at_.contains d=true:=by simpa using hc
  have hlt:bI at_ d<at_.length:=(uak.1 (hmem.1 hc)).1;have hv:dz (at_,val,()) d=val.getD (bI at_ d) 0:=by
   unfold dz;simp only[hcl,hcb,if_true]
  refine⟨⟨h,λhb=>?_,λ_=>⟨λhb=>?_,λ_=>⟨⟨by show(0:Int)<=(bI at_ d:Int); omega,by show(bI at_ d:Int)<val.length; omega⟩,uT⟩⟩⟩,?_⟩
  ·have hb':(!at_.contains d)=true:=hb;rw[hcb] at hb';cases hb'
  ·trivial
  ·show(if (!at_.contains d)=true then _ else if decide ((bI at_ d:Int)<0)=true then ((0:Int),()) else (val.getD (Int.toNat (bI at_ d:Int)) i64.dflt,()))=_;have h0:decide ((bI at_ d:Int)<0)=false:=by simp
   rw[hcb,h0,hv];rfl
 ·have hcb:at_.contains d=false:=by simpa using hc
  have hw:I6.wrap ((bI at_ d:Int)-1)=(bI at_ d:Int)-1:=IntWalk.i64_in _ (by omega);have hv:dz (at_,val,()) d=(match bI at_ d with|0=>0|k+1=>val.getD k 0):=by
   unfold dz;simp only[hcl,hcb,ub1,ufl,ueu]
  refine⟨⟨h,λ_=>⟨λ_=>uT,λhb=>?_⟩,λhb=>?_⟩,?_⟩
  ·have hb':decide (I6.wrap ((bI at_ d:Int)-1)<0)=false:=hb;rw[hw] at hb';have hb2:¬ ((bI at_ d:Int)-1<0):=by simpa using hb'
   refine⟨?_,uT⟩;show 0<=I6.wrap ((bI at_ d:Int)-1)/\I6.wrap ((bI at_ d:Int)-1)<val.length;rw[hw];omega
  ·have hb':(!at_.contains d)=false:=hb;rw[hcb] at hb';cases hb'
  ·show(if (!at_.contains d)=true then (if decide (I6.wrap ((bI at_ d:Int)-1)<0)=true then ((0:Int),()) else (val.getD (I6.wrap ((bI at_ d:Int)-1)).toNat i64.dflt,())) else _)=_;rw[hcb,hw,hv];cases hk:bI at_ d with
   |zero=>rfl
   |succ k=>
    have h0:decide (((k+1:Nat):Int)-1<0)=false:=by simp
    have h1:(((k+1:Nat):Int)-1).toNat=k:=by omega
    rw[h0,h1];rfl
def qbx:Ct:=⟨[.d bm,.d i64],[i64],λx=>(dz x.1 x.2.1,()),λx=>[x.1.1.Pairwise (· < ·),x.1.1.length=x.1.2.1.length]⟩
def zc0:af prog 224 qbx:=
 conv zcz _ _ λw F xs vs hr hok=>by
  obtain⟨⟨at_,val,_⟩,d,_⟩:=xs;obtain⟨v,vs',rfl,hv,_⟩:=hr;have hwf:=aA.wf hv.2.2;have hlen:(at_.length:Int)<=9223372036854775807:=by
   have:=hwf.1.1;simp only[maxLen] at this;omega
  exact qli hok.1 hlen hok.2
def ga:List Int->List Int->Int->Int->Bool
 |d::l,v::r,day,last=>(decide (day<d)&&(decide (d<=292194)&&(!(v==last)&&iQ v)))&&ga l r d v
 |_,_,_,_=>true
abbrev jQ:Pt:=⟨48,0,⟨[(18,.d i64),(17,.d i64),(16,.d aK),(3,.d i64),(4,.d i64)],[.x 1 276 bm,.r 1 1 0]⟩,⟨[],[]⟩,⟨[(2,.d .bool)],[]⟩⟩
def Q9 (x:jQ.M.X):Fr jQ.Out:=
 let b:=x.2.1.2.1;let a:=x.1.2.2;Jb (decide (x.1.1<x.1.2.1))
  (Jd (0<=x.1.1/\x.1.1<a.1.length)
   (Jd (0<=x.1.1/\x.1.1<b.length)
    (Jb
     (bif bif bif decide (a.1.getD x.1.1.toNat i64.dflt<=a.2.1) then true else decide (a.1.getD x.1.1.toNat i64.dflt>292194) then true
       else b.getD x.1.1.toNat i64.dflt==a.2.2.1 then true
      else !(Gx.f (b.getD x.1.1.toNat i64.dflt,())).1)
     (Jv (Rd.back ((false,()),())))
     (Jv (Rd.next ((I6.wrap (x.1.1+1),x.1.2.1,a.1,a.1.getD x.1.1.toNat i64.dflt,b.getD x.1.1.toNat i64.dflt,()),(x.2.1.1,b,()),()))))))
  (Jv (Rd.out ((),())))
def qy1:ae prog (uF f205 0) jQ.M jQ Q9:=
 ae.of_run zJ (bs:=0) (Λ:=yr) rfl rfl rfl (λE=>lN _ 0) (λx=>by kernel_rfl)
def qud {b:Bool} (h:(!b)=true):b=false:=by cases b<;>first|rfl|cases h
def quc {b:Bool} (h:(!b)=false):b=true:=by cases b<;>first|rfl|cases h
structure InvR (i n:Int) (l at_ val:List Int):Prop where
 same:l=at_
 len:n=l.length
 both:at_.length=val.length
 lo:0<=i
 hi:i<=n
 big:(l.length:Int)<=9223372036854775807
def FR (x:jQ.M.X):Fr jQ.Out:=
 Jd (InvR x.1.1 x.1.2.1 x.1.2.2.1 x.2.1.1 x.2.1.2.1)
  (Jb (ga (x.1.2.2.1.drop x.1.1.toNat) (x.2.1.2.1.drop x.1.1.toNat) x.1.2.2.2.1 x.1.2.2.2.2.1) (Jv (Rd.out ((),()))) (Jv (Rd.back ((false,()),()))))
def qpz (i n:Int) (l:List Int) (d v:Int) (at_ val:List Int) (hinv:InvR i n l at_ val) (Q:jQ.Out->Prop)
  (hq:(Jb (ga (l.drop i.toNat) (val.drop i.toNat) d v) (Jv (Rd.out ((),()))) (Jv (Rd.back ((false,()),()))):Fr jQ.Out).satP Q) :
  (Q9 ((i,n,l,d,v,()),(at_,val,()),())).satP λ
   |.next x'=>InvR x'.1.1 x'.1.2.1 x'.1.2.2.1 x'.2.1.1 x'.2.1.2.1/\(x'.1.2.1-x'.1.1).toNat<(n-i).toNat/\(FR x').satP Q
   |.out y=>Q (.out y)
   |.back z=>Q (.back z)
   |.pan p=>Q (.pan p):=by
 obtain⟨rfl,rfl,h3,h4,h5,h6⟩:=hinv;refine⟨λhi=>?_,λhi=>?_⟩
 ·have hi':i<l.length:=by simpa using hi
  have hl:i.toNat<l.length:=by omega
  have hv:i.toNat<val.length:=by omega
  have e1:=ual hl;have e2:=ual hv;have g1:l.getD i.toNat i64.dflt=l[i.toNat]:=by rw[uah,uap hl]; rfl
  have g2:val.getD i.toNat i64.dflt=val[i.toNat]:=by rw[uah,uap hv]; rfl
  rw[e1,e2] at hq;generalize hx:l[i.toNat]=x at *;generalize hy:val[i.toNat]=y at *;have hw:I6.wrap (i+1)=i+1:=IntWalk.i64_in _ (by omega);have hn:(i+1).toNat=i.toNat+1:=by omega
  refine⟨⟨h4,hi'⟩,⟨h4,by show i<(val.length:Int); omega⟩,?_⟩;show((bif bif bif decide (l.getD i.toNat i64.dflt<=d) then true else decide (l.getD i.toNat i64.dflt>292194) then true else val.getD i.toNat i64.dflt==v then true else !(iQ (val.getD i.toNat i64.dflt)))=true->Q (Rd.back ((false,()),()))) /\
   ((bif bif bif decide (l.getD i.toNat i64.dflt<=d) then true else decide (l.getD i.toNat i64.dflt>292194) then true else val.getD i.toNat i64.dflt==v then true else !(iQ (val.getD i.toNat i64.dflt)))=false ->
    InvR (I6.wrap (i+1)) l.length l l val/\((l.length:Int)-I6.wrap (i+1)).toNat<((l.length:Int)-i).toNat /\
     (FR ((I6.wrap (i+1),(l.length:Int),l,l.getD i.toNat i64.dflt,val.getD i.toNat i64.dflt,()),(l,val,()),())).satP Q)
  rw[g1,g2,hw];have hcond:(bif bif bif decide (x<=d) then true else decide (x>292194) then true else y==v then true else !(iQ y)) = !(decide (d<x)&&(decide (x<=292194)&&(!(y==v)&&iQ y))):=by
   have a1:decide (x<=d) = !decide (d<x):=by by_cases h:x<=d<;>simp[h]<;>omega
   have a2:decide (x>292194) = !decide (x<=292194):=by by_cases h:x<=292194<;>simp[h]<;>omega
   rw[a1,a2];cases decide (d<x)<;>cases decide (x<=292194)<;>cases (y==v)<;>cases iQ y<;>rfl
  rw[hcond];have hri:ga (x::l.drop (i.toNat+1)) (y::val.drop (i.toNat+1)) d v=((decide (d<x)&&(decide (x<=292194)&&(!(y==v)&&iQ y)))&&ga (l.drop (i.toNat+1)) (val.drop (i.toNat+1)) x y):=rfl;rw[hri] at hq;refine⟨λhb=>?_,λhb=>?_⟩
  ·have hb':=qud hb;rw[hb'] at hq;exact hq.2 rfl
  ·have hb':=quc hb;rw[hb',ueh] at hq;have hI:InvR (i+1) l.length l l val:=⟨rfl,rfl,h3,by omega,by omega,h6⟩;refine⟨hI,by omega,hI,?_⟩;rw[hn];exact hq
 ·have hi':¬ i<l.length:=by simpa using hi
  have hl:l.drop i.toNat=[]:=ua1 (by omega);rw[hl] at hq;exact hq.1 rfl
def qq8:ae prog (.loop (uF f205 0)) jQ.M jQ FR:=by
 refine ae.loop qy1 (μ:=λx=>(x.1.2.1-x.1.1).toNat) ?_ (λx Q h=>h.1);rintro⟨⟨i,n,l,d,v,_⟩,⟨at_,val,_⟩,_⟩ hinv Q hq;exact qpz i n l d v at_ val hinv Q hq.2
def ΛR:Nat->St->Option Tr:=λ_=>jQ.han LK jQ.M FR
def qle (x:ag [.d bm]):Fr (aa [.bool]):=
 let a:=Int.toNat 0;Jb ((x.1.1.length:Int) != (x.1.2.1.length:Int)) (Jv (false,()))
  (Jd (InvR 0 x.1.1.length x.1.1 x.1.1 x.1.2.1)
   (Jb (ga (x.1.1.drop a) (x.1.2.1.drop a) 0 0) (Jv (true,())) (Jv (false,()))))
def qxs:af prog 205 (bg [.d bm] [.bool] qle):=
 cf zJ (Λ:=ΛR) (fn:=f205) (([],[],()),()) (by kernel_rfl) (λc E hc=>Sn hc (by kernel_rfl) (b:=uF f205 0) (by kernel_rfl) (ae.han zJ rfl qq8)) (λxs=>by kernel_rfl)
def jU (f:bm.den):Bool:=decide (f.1.length=f.2.1.length)&&ga f.1 f.2.1 0 0
def qbu:Ct:=⟨[.d bm],[.bool],λx=>(jU x.1,()),λ_=>[]⟩
def qxt:af prog 205 qbu:=
 conv qxs _ _ λw F xs vs hr _=>by
  obtain⟨⟨at_,val,_⟩,_⟩:=xs;obtain⟨v,vs',rfl,hv,_⟩:=hr;have hwf:=aA.wf hv.2.2;have hlen:(at_.length:Int)<=9223372036854775807:=by
   have:=hwf.1.1;simp only[maxLen] at this;omega
  by_cases hl:at_.length=val.length
  ·have hne:((at_.length:Int) != (val.length:Int))=false:=by simp[hl]
   refine⟨⟨λhb=>?_,λ_=>⟨⟨rfl,rfl,hl,ue5 _,by omega,hlen⟩,⟨λ_=>uT,λ_=>uT⟩⟩⟩,?_⟩
   ·trivial
   ·show(if ((at_.length:Int) != (val.length:Int))=true then (false,()) else if ga at_ val 0 0=true then (true,()) else (false,()))=(decide (at_.length=val.length)&&ga at_ val 0 0,());rw[hne,ud6 hl];cases ga at_ val 0 0<;>rfl
  ·have hne:((at_.length:Int) != (val.length:Int))=true:=by simp; omega
   refine⟨⟨λ_=>uT,λhb=>?_⟩,?_⟩
   ·have hb':=hb;rw[hne] at hb';cases hb'
   ·show(if ((at_.length:Int) != (val.length:Int))=true then (false,()) else _)=(decide (at_.length=val.length)&&ga at_ val 0 0,());rw[hne,udr hl];rfl
section
attribute [local go_sem] Oper.semAt_some
def KN (h:aA w F aK l (λ_ u=>u=v)) :
  ∃ A c,v = .slice A l.length c/\l.length<=c/\c<=maxLen/\(0<l.length->∃ b off,A=some ⟨b,off,none⟩/\F b/\∀ (i:Nat) (x:Int),l[i]? = some x->w.cell? ⟨b,off+i,none⟩=some (.int .i64 x) /\ -9223372036854775808<=x/\x<=9223372036854775807):=by
 obtain⟨A,c,rfl,h1,h2,h3⟩:=h;refine⟨A,c,rfl,h1,h2,λhp=>?_⟩;obtain⟨ad,rfl,hF,hc,_⟩:=h3 0 l[0] (uap hp);have hs:ad.spot=none:=by
  have hc':w.cell? (ad.add (0*i64.size+0))=some (.int .i64 l[0]):=hc;have he:ad.add (0*i64.size+0)=ad:=by simp[Addr.add]
  rw[he] at hc';unfold World.cell? at hc';split at hc'
  ·split at hc'
   ·cases hc'
   ·rename_i hsp;cases hsp2:ad.spot with
    |none=>rfl
    |some _=>rw[hsp2] at hsp; exact absurd rfl hsp
  ·cases hc'
 obtain⟨b,off,sp⟩:=ad;simp only at hs;subst hs;refine⟨b,off,rfl,hF,λi x hx=>?_⟩;obtain⟨ad,hA,_,hcx,hr⟩:=h3 i x hx;cases hA;have hcx':w.cell? ((⟨b,off,none⟩:Addr).add (i*1+0))=some (.int .i64 x):=hcx;have he:(⟨b,off,none⟩:Addr).add (i*1+0)=⟨b,off+i,none⟩:=by
  unfold Addr.add;split
  ·have:i=0:=by omega
   subst this;rfl
  ·simp
 rw[he] at hcx';exact⟨hcx',hr⟩
def eL (f:bm.den) (e:Int):List Int->Int->List (Int×Int×Int)
 |[],a=>[(a,e,dz f a)]
 |d::l,a=>if d<=a\/e<=d then eL f e l a else (a,d,dz f a)::eL f e l d
def cw (n₀ B1 B2:Nat) (W W':World):Prop:=Below n₀ W W'/\W'.heap[B1]? = W.heap[B1]? /\ W'.heap[B2]? = W.heap[B2]?
def cw.refl (n₀ B1 B2:Nat) (W:World):cw n₀ B1 B2 W W:=⟨ufd _ _,rfl,rfl⟩
def cw.trans {n₀ B1 B2:Nat} {A B C:World} (h:cw n₀ B1 B2 A B) (k:cw n₀ B1 B2 B C):cw n₀ B1 B2 A C:=⟨h.1.trans k.1,k.2.1.trans h.2.1,k.2.2.trans h.2.2⟩
def cw.below {n₀ B1 B2:Nat} (h:Below W.heap.size W W') (h0:n₀<=W.heap.size) (h1:B1<W.heap.size) (h2:B2<W.heap.size):cw n₀ B1 B2 W W':=⟨h.mono h0,h.block _ h1,h.block _ h2⟩
def Ah {J:β->World->Prop} (hJ:AbidesFrom B J) {s:β} (h:J s W) (hb:Below W.heap.size W W'):J s W':=
 hJ s W W' none h ⟨hb.os,hb.tape,hb.output,hb.size,λk hk _=>hb.block k hk⟩ (λr e=>nomatch e)
abbrev TZ (x:Int×Int×Int):Array Value:=#[.agg #[.int .i64 x.1,.int .i64 x.2.1],.int .i64 x.2.2]
def Ad (f:bm.den) (va:Value) (W:World):Prop:=∀ d:Int,-9223372036854775808<=d->d<=9223372036854775807->Calls prog 224 #[va,.int .i64 d] W λe W'=>e = .returned (.int .i64 (dz f d))/\Below W.heap.size W W'
def zcy {f:bm.den} {va:Value} (hb:∀ b,F b->b<W.heap.size) (hr:bu W F bm f va) (h1:f.1.Pairwise (· < ·)) (h2:f.1.length=f.2.1.length):Ad f va W:=λd hd1 hd2=>by
 have hi:bu W F i64 d (.int .i64 d):=⟨rfl,⟨λh=>(by cases h),λ⟨cs,h⟩=>(by cases h)⟩,rfl,hd1,hd2⟩;refine(zc0.2 W F (f,d,()) [va,.int .i64 d] hb ⟨va,_,rfl,hr,_,[],rfl,hi,rfl⟩ ⟨h1,h2⟩).mono ?_;rintro e W' ⟨v,F',rfl,hbel,_,_,hv⟩;have hv':aE prog W' F' (λ_ _=>True) (dE i64 (dz f d)) v:=fT hv;have hv2:v = .int .i64 (dz f d):=hv'.2.1;exact⟨by rw[hv2],hbel⟩
def aO {x:Nat×Nat} (h:W.heap[b]? = some (.cells cs t x)) (i:Nat):W.cell? ⟨b,i,none⟩=cs[i]? := by
 simp[World.cell?,h]
def zjw {P:Nat->Prop} (h:∀ j,j<9->P j):P 0/\P 1/\P 2/\P 3/\P 4/\P 5/\P 6/\P 7/\P 8:=⟨h 0 (by decide),h 1 (by decide),h 2 (by decide),h 3 (by decide),h 4 (by decide),h 5 (by decide),h 6 (by decide),h 7 (by decide),h 8 (by decide)⟩
def als:World->List Obj->World
 |w,[]=>w
 |w,o::l=>als (w.alloc o) l
def zjx:(l:List Obj)->(w:World)->Below w.heap.size w (als w l)/\(als w l).heap.size=w.heap.size+l.length/\∀ i o,l[i]? = some o->(als w l).heap[w.heap.size+i]? = some o
 |[],w=>⟨ufd _ _,rfl,λi o h=>by simp at h⟩
 |a::l,w=>by
  obtain⟨h1,h2,h3⟩:=zjx l (w.alloc a);have b:=(ufd _ w).alloc (ue4 _) a;refine⟨b.trans (h1.mono b.size),by unfold als; rw[h2]; simp; omega,λi o h=>?_⟩;cases i with
  |zero=>
   simp at h;subst h;exact(h1.block _ (by simp)).trans (World.alloc_heap_new w _)
  |succ i=>
   have:=h3 i o (by simpa using h);rw[udd] at this;rw[<- ued,Nat.add_right_comm];exact this
structure RoundAt (n₀ B1 B2:Nat) (A:Option Addr) (at_:List Int) (va vb:Value) (e0 e1:Int) (f:bm.den) (W:World):Prop where
 b1:W.heap[B1]? = some (.cells #[va,vb] 276 (0,0))
 b2:W.heap[B2]? = some (.cells #[.int .i64 e0,.int .i64 e1] 29 (0,0))
 cells:0<at_.length->∃ b off,A=some ⟨b,off,none⟩/\b<n₀/\∀ (i:Nat) (x:Int),at_[i]? = some x->W.cell? ⟨b,off+i,none⟩=some (.int .i64 x) /\ -9223372036854775808<=x/\x<=9223372036854775807
 vals:Ad f (.agg #[va,vb]) W
section
variable {α:Type} {g:α->Int×Int×Int}
def Ta {g:α->β} {all pre:List α} {y:β} {rest:List β} (h:pre.map g++y::rest=all.map g) (hp:pre <+: all):∃ x,g x=y/\pre++[x] <+: all:=by
 obtain⟨t,rfl⟩:=hp;rw[uds] at h;have h':=List.append_cancel_left h;cases t with
 |nil=>cases h'
 |cons x t=>
  simp at h';exact⟨x,h'.1.symm,t,by simp⟩
def mz (g:α->Int×Int×Int) (f:bm.den) (e1:Int) (at_:List Int) (all:List α) (k:Nat) (cur:Int) (pre:List α):Prop:=pre <+: all/\pre.map g++eL f e1 (at_.drop k) cur=all.map g
def mz.skip {f:bm.den} {e1:Int} {at_:List Int} {all:List α} {k:Nat} {cur:Int} {pre:List α} (h:mz g f e1 at_ all k cur pre) {d:Int} (hd:at_[k]? = some d) (hc:d<=cur\/e1<=d):mz g f e1 at_ all (k+1) cur pre:=by
 obtain⟨hk,rfl⟩:=uak.1 hd;refine⟨h.1,?_⟩;have h2:=h.2;rw[ual hk] at h2;rw[<- h2]
 conv=>rhs; unfold eL
 rw[if_pos hc]
def mz.step {f:bm.den} {e1:Int} {at_:List Int} {all:List α} {k:Nat} {cur:Int} {pre:List α} (h:mz g f e1 at_ all k cur pre) {d:Int} (hd:at_[k]? = some d) (hc:¬ (d<=cur\/e1<=d)) :
  ∃ x,g x=(cur,d,dz f cur)/\mz g f e1 at_ all (k+1) d (pre++[x])/\pre.length<all.length:=by
 obtain⟨hk,rfl⟩:=uak.1 hd;have h2:=h.2;rw[ual hk] at h2;unfold eL at h2;rw[if_neg hc] at h2;obtain⟨x,hx,hp⟩:=Ta h2 h.1;refine⟨x,hx,⟨hp,?_⟩,?_⟩
 ·rw[<- h2];simp[hx]
 ·have:=hp.length_le;simp at this;omega
def mz.last {f:bm.den} {e1:Int} {at_:List Int} {all:List α} {k:Nat} {cur:Int} {pre:List α} (h:mz g f e1 at_ all k cur pre) (hk:at_.length<=k) :
  ∃ x,g x=(cur,e1,dz f cur)/\pre++[x]=all/\pre.length<all.length:=by
 have h2:=h.2;rw[ua1 hk] at h2;obtain⟨x,hx,hp⟩:=Ta h2 h.1;have hl:=ufm List.length h2;simp[eL] at hl;refine⟨x,hx,hp.eq_of_length (by simp; omega),by omega⟩
end
def qwg (g:α->Int×Int×Int) (all:List α) (n:Nat) (hn:1<=n) (l B1 B2 n₀:Nat) (A:Option Addr) (c:Nat) (at_:List Int) (vb:Value) (hvb:∃ A' n' c',vb = .slice A' n' c') (e0 e1:Int) (f:bm.den) (hlen:at_.length<=9223372036854775807) (he0 : -9223372036854775808<=e0/\e0<=9223372036854775807)
  (hall:all.map g=eL f e1 at_ e0) (J Jx:List α->World->Prop) (W:World) (hJ:AbidesFrom W.heap.size J) (hn0:n₀<=W.heap.size)
  (hY:∀ pre x W1,J pre W1->pre.length<all.length->YieldAt Fence.wide (n-1) prog l (TZ (g x)) W1 λe W'=>
   (e = .returned (.bool true)/\J (pre++[x]) W'/\cw n₀ B1 B2 W1 W')\/(e = .returned (.bool false)/\Jx (pre++[x]) W'))
  (hat:∀ W',cw n₀ B1 B2 W W'->RoundAt n₀ B1 B2 A at_ (.slice A at_.length c) vb e0 e1 f W') (h0:J [] W) :
  CallsIn Fence.wide n prog 223 #[.func (.yield l) #[] #[],.pointer (some ⟨B2,0,none⟩),.pointer (some ⟨B1,0,none⟩)] W λe W'=>(∃ v,e = .returned v) /\
   ((∃ xs,xs=all/\J xs W')\/(∃ pre,pre <+: all/\Jx pre W')):=by
 obtain⟨A',n',c',rfl⟩:=hvb;have hro:Fence.wide.round=none:=rfl;refine callsIn_of_wp func223 rfl trivial ?_ hro;simp only[ntmps223,uco,uc6,udh,Nat.reduceAdd,Nat.reduceSub,ubl,ubm,ucw,ubv,udi,uc1];have r0:=hat W (cw.refl _ _ _ _);have c10:W.cell? ⟨B1,0,none⟩=some (.slice A at_.length c):=aO r0.b1 0;have c11:W.cell? ⟨B1,1,none⟩=some (.slice A' n' c'):=aO r0.b1 1;have c20:W.cell? ⟨B2,0,none⟩=some (.int .i64 e0):=aO r0.b2 0;have c21:W.cell? ⟨B2,1,none⟩=some (.int .i64 e1):=aO r0.b2 1;have hlen':=hlen
 gi_wp2
 gi_loopw [4,12] (λu i wr=>∃ (k:Nat) (cur:Int) (pre:List α),k<=at_.length/\i = .int .i64 k/\u = .int .i64 cur/\(-9223372036854775808<=cur/\cur<=9223372036854775807)/\mz g f e1 at_ all k cur pre/\J pre wr/\cw n₀ B1 B2 W wr)
  (λ_ i _=>at_.length-(intOf i).toNat)
 case atStart=>exact⟨0,e0,[],ufa _,rfl,rfl,he0,⟨List.nil_prefix,hall.symm⟩,h0,cw.refl _ _ _ _⟩
 case round=>
  obtain⟨k,cur,pre,hk,rfl,rfl,hcur,hrel,hJs,hkp⟩:=hrel;clear c10 c11 c20 c21 r0;have rr:=hat _ hkp;have c10:wr.cell? ⟨B1,0,none⟩=some (.slice A at_.length c):=aO rr.b1 0;have c11:wr.cell? ⟨B1,1,none⟩=some (.slice A' n' c'):=aO rr.b1 1;have c21:wr.cell? ⟨B2,1,none⟩=some (.int .i64 e1):=aO rr.b2 1;by_cases hlt:k<at_.length
  ·obtain⟨b,off,rfl,hb,hcx⟩:=rr.cells (by omega);obtain⟨d,hd⟩:∃ d,at_[k]? = some d:=⟨_,uap hlt⟩;obtain⟨hcd,hdr⟩:=hcx k d hd;clear hcx;have hb1:B1<wr.heap.size:=(uaf.1 rr.b1).1;have hb2:B2<wr.heap.size:=(uaf.1 rr.b2).1;have hn1:n₀<=wr.heap.size:=uek hn0 hkp.1.size;by_cases t1:d<=cur
   ·have ht1:decide (d<=cur)=true:=by simpa using t1
    have hn:=hrel.skip hd (.inl t1)
    gi_wp2
    exact⟨⟨k+1,cur,pre,by omega,by simp,rfl,hcur,hn,hJs,hkp⟩,by simp[intOf]; omega⟩
   ·have ht1:decide (d<=cur)=false:=by simpa using t1
    by_cases t2:e1<=d
    ·have ht2:decide (d>=e1)=true:=by simpa using t2
     have hn:=hrel.skip hd (.inr t2)
     gi_wp2
     exact⟨⟨k+1,cur,pre,by omega,by simp,rfl,hcur,hn,hJs,hkp⟩,by simp[intOf]; omega⟩
    ·have ht2:decide (d>=e1)=false:=by simpa using t2
     obtain⟨x,hgx,hst,hln⟩:=hrel.step hd (by omega)
     gi_wp2
     refine⟨uT,?_⟩;refine(callsIn_wide.2 (rr.vals cur hcur.1 hcur.2)).mono ?_;rintro e w1 ⟨rfl,hbel⟩;have hk1:=hkp.trans (cw.below hbel hn1 hb1 hb2);obtain⟨fn,tmps,assign,body,hy,hR⟩:=hY pre x w1 (Ah hJ hJs hbel) hln;rw[hgx] at hy
     gi_wp2
     refine hR.mono ?_;rintro e W3 (⟨rfl,hJ3,hk3⟩|⟨rfl,hJx3⟩)
     ·gi_wp2
      go_roundw
      case rel=>exact⟨k+1,d,pre++[x],by omega,by simp,rfl,hdr,hst,hJ3,hk1.trans hk3⟩
      case measure=>simp[intOf]; omega
     ·gi_wp2
      refine uex (uey rfl _ _ _) rfl ?_;exact⟨⟨_,rfl⟩,.inr ⟨_,hst.1,hJx3⟩⟩
  ·obtain rfl:k=at_.length:=by omega
   obtain⟨x,hgx,hl,hln⟩:=hrel.last (ue4 _);have hb1:B1<wr.heap.size:=(uaf.1 rr.b1).1;have hb2:B2<wr.heap.size:=(uaf.1 rr.b2).1;have hn1:n₀<=wr.heap.size:=uek hn0 hkp.1.size;have hmx:prog.follows .mixedOrders=true:=by kernel_rfl
   have hkd:cw n₀ B1 B2 W wr.drew:=hkp.trans ⟨⟨rfl,rfl,rfl,ue4 _,λ_ _=>rfl⟩,rfl,rfl⟩;have rd:=hat _ hkd;have hJd:J pre wr.drew:=Ah hJ hJs ⟨rfl,rfl,rfl,ue4 _,λ_ _=>rfl⟩
   gi_wp2
   gi_region_with_o (first
    |(refine⟨uT,?_⟩; gi_at_call 224; refine(callsIn_wide.2 (rd.vals cur hcur.1 hcur.2)).mono ?_; rintro e w1 ⟨rfl,hbel⟩; have d21:w1.cell? ⟨B2,1,none⟩=some (.int .i64 e1):=aO (hat _ (hkd.trans (cw.below hbel hn1 hb1 hb2))).b2 1; obtain⟨fn,tmps,assign,body,hy,hR⟩:=hY pre x w1 (Ah hJ hJd hbel) hln; rw[hgx] at hy)
    |(refine(hR.mono (R':=λe W'=>∃ bv,e = .returned (.bool bv)/\(if bv=true then J (pre++[x]) W' else Jx (pre++[x]) W')) (λe W' h=>h.elim (λh=>⟨true,h.1,h.2.1⟩) (λh=>⟨false,h.1,h.2⟩))).mono ?_; rintro e W3 ⟨bv,rfl,hJ3⟩))
   all_goals go_end0
   all_goals (refine⟨⟨_,rfl⟩,?_⟩; cases bv; exact .inr ⟨_,⟨[],by rw[udn]; exact hl⟩,hJ3⟩; exact .inl ⟨_,hl,hJ3⟩)
def SU {v:Int}:iQ v=true ↔ -4000000000000000000<=v/\v<=4000000000000000000:=by simp[iQ]
def K1:{l r:List Int} -> {d v:Int}->ga l r d v=true->l.length=r.length->l.Pairwise (· < ·)/\(∀ x∈l,d<x/\x<=292194)/\∀ y∈r,iQ y=true
 |[],[],_,_,_,_=>⟨List.Pairwise.nil,by simp,by simp⟩
 |[],_::_,_,_,_,hl=>by simp at hl
 |_::_,[],_,_,_,hl=>by simp at hl
 |a::l,b::r,d,v,h,hl=>by
  simp only[ga,uc9,ucs] at h;obtain⟨⟨h1,h2,h3,h4⟩,h5⟩:=h;obtain⟨i1,i2,i3⟩:=K1 h5 (by simpa using hl);refine⟨ub8.2 ⟨λx hx=>(i2 x hx).1,i1⟩,λx hx=>?_,λy hy=>?_⟩
  ·rcases uee.1 hx with rfl|hx
   ·exact⟨h1,h2⟩
   ·exact⟨Int.lt_trans h1 (i2 x hx).1,(i2 x hx).2⟩
  ·rcases uee.1 hy with rfl|hy
   ·exact h4
   ·exact i3 y hy
def Kz {f:bm.den} (h:jU f=true):f.1.length=f.2.1.length/\f.1.Pairwise (· < ·)/\(∀ x∈f.1,0<x/\x<=292194)/\∀ y∈f.2.1,-4000000000000000000<=y/\y<=4000000000000000000:=by
 simp only[jU,uc9,ucs] at h;obtain⟨h1,h2,h3⟩:=K1 h.2 h.1;exact⟨h.1,h1,h2,λy hy=>SU.1 (h3 y hy)⟩
def Wv {f:bm.den} (h:∀ y∈f.2.1,-4000000000000000000<=y/\y<=4000000000000000000) (d:Int) : -4000000000000000000<=dz f d/\dz f d<=4000000000000000000:=by
 unfold dz;split
 ·omega
 ·rename_i k _;rw[uah];cases hk:f.2.1[k]? with
  |none=>simp
  |some y=>
   have:=h y (ube hk);simpa using this
def qm (x:Int×Int×Int):Prop:=1<=x.1/\x.1<x.2.1/\x.2.1<=292195 /\ -4000000000000000000<=x.2.2/\x.2.2<=4000000000000000000
def Da {f:bm.den} (h:∀ y∈f.2.1,-4000000000000000000<=y/\y<=4000000000000000000) {e:Int} (he:e<=292195):(l:List Int)->(a:Int)->1<=a->a<e->∀ x∈eL f e l a,qm x
 |[],a,h1,h2,x,hx=>by
  simp only[eL,ucd] at hx;subst hx;exact⟨h1,h2,he,Wv h a⟩
 |d::l,a,h1,h2,x,hx=>by
  unfold eL at hx;split at hx
  ·exact Da h he l a h1 h2 x hx
  ·rename_i hc;rcases uee.1 hx with rfl|hx
   ·exact⟨h1,by show a<d; omega,by show d<=292195; omega,Wv h a⟩
   ·exact Da h he l d (by omega) (by omega) x hx
abbrev jx:Type:={ x:Int×Int×Int // qm x }
def js (q:Int×Int) (x:Int×Int×Int):Option (Int×Int):=
 if max x.2.2 (-x.2.2)>(4000000000000000000-q.2)/(x.2.1-x.1) then none else some (q.1+(x.2.1-x.1)*x.2.2,q.2+(x.2.1-x.1)*max x.2.2 (-x.2.2))
def em:List (Int×Int×Int)->Int×Int->Option (Int×Int)
 |[],q=>some q
 |x::l,q=>(js q x).bind (em l)
def V5 (l m:List (Int×Int×Int)) (q:Int×Int):em (l++m) q=(em l q).bind (em m):=by
 induction l generalizing q with
 |nil=>rfl
 |cons x l ih=>
  simp only[uc1,em];cases js q x with
  |none=>rfl
  |some q'=>exact ih q'
def wD (q:Int×Int):Prop:=0<=q.2/\q.2<=4000000000000000000 /\ -q.2<=q.1/\q.1<=q.2
def V7 {q q':Int×Int} {x:Int×Int×Int} (hx:qm x) (h:js q x=some q') (hq:wD q):wD q'/\(x.2.1-x.1)*max x.2.2 (-x.2.2)<=4000000000000000000-q.2/\0<=(x.2.1-x.1)*max x.2.2 (-x.2.2) /\ -((x.2.1-x.1)*max x.2.2 (-x.2.2))<=(x.2.1-x.1)*x.2.2/\(x.2.1-x.1)*x.2.2<=(x.2.1-x.1)*max x.2.2 (-x.2.2):=by
 obtain⟨h1,h2,h3,h4,h5⟩:=hx;obtain⟨a,b,v⟩:=x;obtain⟨s,t⟩:=q;obtain⟨g1,g2,g3,g4⟩:=hq;unfold js at h;split at h
 ·cases h
 ·rename_i hc;cases h;simp only at *;have hn:0<b-a:=by omega
  have hle:max v (-v)<=(4000000000000000000-t)/(b-a):=by omega
  have e1:(b-a)*max v (-v)<=4000000000000000000-t:=by
   have:=(Int.le_ediv_iff_mul_le hn).1 hle;rw[uew];exact this
  have e2:0<=(b-a)*max v (-v):=ud7 (by omega) (by omega);have e3:(b-a)*v<=(b-a)*max v (-v):=Int.mul_le_mul_of_nonneg_left (by omega) (by omega);have e4 : -((b-a)*max v (-v))<=(b-a)*v:=by
   rw[<- Int.mul_neg];exact Int.mul_le_mul_of_nonneg_left (by omega) (by omega)
  refine⟨⟨?_,?_,?_,?_⟩,e1,e2,e4,e3⟩<;>simp only<;>omega
def eo (f:bm.den) (s:cn.den):Int×Int:=
 if jU f=true/\dN s=true then match em (eL f s.2.1 f.1 s.1) (0,0) with
  |some q=>(q.1,0)
  |none=>(0,5)
 else (0,1)
def AD:Ct:=⟨[.d bm,.d cn],[i64,i64],λx=>((eo x.1 x.2.1).1,(eo x.1 x.2.1).2,()),λ_=>[]⟩
def qwh (n:Nat) (A A':Option Addr) (l1 c1 l2 c2:Nat) (e0 e1:Int) (w:World) :
  CallsIn Fence.wide n prog 207 #[.agg #[.slice A l1 c1,.slice A' l2 c2],.agg #[.int .i64 e0,.int .i64 e1]] w λe w'=>
   e = .returned (.func (.func 223) #[] #[.pointer (some ⟨w.heap.size+1,0,none⟩),.pointer (some ⟨w.heap.size,0,none⟩)]) /\
   w'=(w.alloc (.cells #[.slice A l1 c1,.slice A' l2 c2] 276)).alloc (.cells #[.int .i64 e0,.int .i64 e1] 29):=by
 refine callsIn_of_wp func207 rfl trivial ?_ rfl;simp only[ntmps207,uco,uc6,udh,Nat.reduceAdd,Nat.reduceSub,ubl,ubm,ucw,ubv,udi,uc1]
 gi_wp2
 go_ret
 exact⟨rfl,rfl⟩
def FM {ps:List PT} {g:ag ps->Bool} {ok:ag ps->List Prop} (h:af prog f ⟨ps,[.bool],λx=>(g x,()),ok⟩) {xs:ag ps} (hb:∀ b,F b->b<w.heap.size) (hr:cJ prog w F ps xs vs) (hok:av (ok xs)) :
  Calls prog f vs.toArray w λe w'=>e = .returned (.bool (g xs))/\Below w.heap.size w w':=by
 refine(h.2 w F xs vs hb hr hok).mono ?_;rintro e w' ⟨v,F',rfl,hbel,_,_,hv⟩;have hv':aE prog w' F' (λ_ _=>True) (dE .bool (g xs)) v:=fT hv;have hv2:=hv'.2;exact⟨by rw[hv2],hbel⟩
structure Four (W:World) (z:Nat) (va vb x0 x1 x4 x5:Value):Prop where
 b0:W.heap[z]? = some (.cells #[va,vb] 276 (0,0))
 b1:W.heap[z+1]? = some (.cells #[x0,x1] 29 (0,0))
 b2:Boxed W (z+1+1) 3 x4
 b3:Boxed W (z+1+1+1) 47 x5
def Four.below {z:Nat} {va vb x0 x1 x4 x5:Value} (h:Four W z va vb x0 x1 x4 x5) (hb:Below m W W') (hm:z+3<m):Four W' z va vb x0 x1 x4 x5:=
 ⟨(hb.block _ (by omega)).trans h.b0,(hb.block _ (by omega)).trans h.b1,(hb.block _ (by omega)).trans h.b2,(hb.block _ (by omega)).trans h.b3⟩
def Four.cells {z:Nat} {va vb x0 x1 x4 x5:Value} (h:Four W z va vb x0 x1 x4 x5) :
  W.cell? ⟨z,0,none⟩=some va/\W.cell? ⟨z,1,none⟩=some vb/\W.cell? ⟨z+1,0,none⟩=some x0/\W.cell? ⟨z+1,1,none⟩=some x1 /\
   W.cell? ⟨z+1+1,0,none⟩=some x4/\W.frozen? ⟨z+1+1,0,none⟩=false/\W.cell? ⟨z+1+1+1,0,none⟩=some x5/\W.frozen? ⟨z+1+1+1,0,none⟩=false:=
 ⟨aO h.b0 0,aO h.b0 1,aO h.b1 0,aO h.b1 1,h.b2.cell,h.b2.frozen,h.b3.cell,h.b3.frozen⟩
def za5 (f:bm.den) (A A':Option Addr) (l1 c1 l2 c2:Nat) (e0 e1:Int) (w:World)
  (hR:∀ W,Below w.heap.size w W->Calls prog 205 #[.agg #[.slice A l1 c1,.slice A' l2 c2]] W λe w'=>e = .returned (.bool (jU f))/\Below W.heap.size W w')
  (hF:∀ W,Calls prog 206 #[.agg #[.int .i64 e0,.int .i64 e1]] W λe w'=>e = .returned (.bool (dN (e0,e1,())))/\Below W.heap.size W w')
  (hno:¬ (jU f=true/\dN (e0,e1,())=true)) :
  CallsIn Fence.wide 8 prog 178 #[.agg #[.slice A l1 c1,.slice A' l2 c2],.agg #[.int .i64 e0,.int .i64 e1]] w λe w'=>e = .returned (.tuple #[.int .i64 0,.int .i64 1])/\Below w.heap.size w w':=by
 refine callsIn_of_wp func178 rfl trivial ?_ rfl;simp only[ntmps178,uco,uc6,udh,Nat.reduceAdd,Nat.reduceSub,ubl,ubm,ucw,ubv,udi,uc1];generalize hb1:jU f=b1 at *;generalize hb2:dN (e0,e1,())=b2 at *;obtain⟨hB4,hz,hq⟩:=zjx [.cells #[.slice A l1 c1,.slice A' l2 c2] 276,.cells #[.int .i64 e0,.int .i64 e1] 29,.cells #[.int .i64 0] 3,.cells #[.int .i64 0] 47] w;simp only[als] at hB4 hz hq;have hS:Four _ w.heap.size _ _ _ _ _ _:=⟨hq 0 _ rfl,hq 1 _ rfl,hq 2 _ rfl,hq 3 _ rfl⟩;have hz:=Nat.lt_of_lt_of_eq (Nat.lt_succ_self (w.heap.size+3)) hz.symm;have HS:=Lib.hid hS;have HZ:=Lib.hid hz;clear hq;cases b1
 ·gi_wp2_with (refine⟨uT,?_⟩; gi_at_call 205; refine(callsIn_wide.2 (hR _ hB4)).mono ?_; rintro e w1 ⟨rfl,hb⟩; obtain⟨k0,k1,k2,k3,k4,k5,k6,k7⟩:=(HS.out.below hb HZ.out).cells)
  refine⟨uT,?_⟩
  gi_wp2
  refine uex (by simp[results,results178,go_sem,k4,k6]) rfl ⟨rfl,?_⟩;exact(((hB4.trans (hb.mono (by simp; omega))).setCell (by simp; omega) _).setCell (by simp; omega) _)
 ·cases b2
  ·gi_wp2_with (first|(refine⟨uT,?_⟩; gi_at_call 205; refine(callsIn_wide.2 (hR _ hB4)).mono ?_; rintro e w1 ⟨rfl,hb⟩; obtain⟨k0,k1,k2,k3,k4,k5,k6,k7⟩:=(HS.out.below hb HZ.out).cells)|(refine⟨uT,?_⟩; gi_at_call 206; refine(callsIn_wide.2 (hF _)).mono ?_; rintro e w2 ⟨rfl,hb2⟩; obtain⟨m0,m1,m2,m3,m4,m5,m6,m7⟩:=((HS.out.below hb HZ.out).below hb2 (ub9 HZ.out hb.size)).cells))
   refine uex (by simp[results,results178,go_sem,m4,m6]) rfl ⟨rfl,?_⟩;exact((((hB4.trans (hb.mono (by simp; omega))).trans (hb2.mono (uek (hB4.trans (hb.mono (by simp; omega))).size (ue4 _)))).setCell (by simp; omega) _).setCell (by simp; omega) _)
  ·exact absurd ⟨rfl,rfl⟩ hno
def qwi (m:Nat) (hm:1<=m) (f:bm.den) (A A':Option Addr) (c1 l2 c2:Nat) (e0 e1:Int) (all:List jx) (hall:all.map Subtype.val=eL f e1 f.1 e0) (hlen:f.1.length<=9223372036854775807) (he0 : -9223372036854775808<=e0/\e0<=9223372036854775807) (w:World) (B1 B2:Nat) (W0:World) (h0:Below w.heap.size w W0)
  (hb1:W0.heap[B1]? = some (.cells #[.slice A f.1.length c1,.slice A' l2 c2] 276 (0,0))) (hb2:W0.heap[B2]? = some (.cells #[.int .i64 e0,.int .i64 e1] 29 (0,0)))
  (hcells:∀ W,Below w.heap.size w W->0<f.1.length->∃ b off,A=some ⟨b,off,none⟩/\b<w.heap.size/\∀ (i:Nat) (x:Int),f.1[i]? = some x->W.cell? ⟨b,off+i,none⟩=some (.int .i64 x) /\ -9223372036854775808<=x/\x<=9223372036854775807)
  (hvals:∀ W,Below w.heap.size w W->Ad f (.agg #[.slice A f.1.length c1,.slice A' l2 c2]) W) :
  SeqStopsK Fence.wide m prog 223 #[.pointer (some ⟨B2,0,none⟩),.pointer (some ⟨B1,0,none⟩)] (λx:jx=>TZ x.1) (cw w.heap.size B1 B2) (λxs=>xs=all) (λpre=>pre <+: all) all.length W0:=λl J Jx W hW hJ hJx hY hJ0=>by
 have g1:B1<W0.heap.size:=(uaf.1 hb1).1;have g2:B2<W0.heap.size:=(uaf.1 hb2).1;have hB:Below w.heap.size w W:=h0.trans (hW.mono h0.size);refine qwg Subtype.val all m hm l B1 B2 w.heap.size A c1 f.1 (.slice A' l2 c2) ⟨_,_,_,rfl⟩ e0 e1 f hlen he0 hall J Jx W hJ hB.size hY (λW' hk=>?_) hJ0;have hB':=hB.trans hk.1;exact⟨hk.2.1.trans ((hW.block _ g1).trans hb1),hk.2.2.trans ((hW.block _ g2).trans hb2),hcells W' hB',hvals W' hB'⟩
def ZM (o:Option (Int×Int)) (e:Ending):Prop:=match o with
 |some q=>e = .returned (.tuple #[.int .i64 q.1,.int .i64 0])
 |none=>e = .returned (.tuple #[.int .i64 0,.int .i64 5])
structure SumI (w:World) (z0 b4 b5 b6 b7:Nat) (pre:List jx) (W:World) (q:Int×Int):Prop where
 sum:em (pre.map Subtype.val) (0,0)=some q
 inv:wD q
 x6:Boxed W b6 3 (.int .i64 q.1)
 x7:Boxed W b7 3 (.int .i64 q.2)
 x4:Boxed W b4 3 (.int .i64 0)
 x5:Boxed W b5 47 (.int .i64 0)
 bel:Below w.heap.size w W
 sz:z0<=W.heap.size
structure SumX (w:World) (b4 b5:Nat) (c:Code) (pre:List jx) (W:World):Prop where
 ret:c = .ret
 sum:em (pre.map Subtype.val) (0,0)=none
 x4:Boxed W b4 3 (.int .i64 0)
 x5:Boxed W b5 47 (.int .i64 5)
 bel:Below w.heap.size w W
def iB {X Y:World} {row:Option Nat} (h:Boxed X b t v) (hg:X.grownBy Y row) (hr:∀ r,row=some r->B<=r/\∃ o:Obj,X.heap[r]? = some o/\o.isCells=false):Boxed Y b t v:=
 boxed_own b t (λ(_:Unit)=>v) () X Y row h hg (λr e=>(hr r e).2)
def za0 {z0 b4 b5 b6 b7:Nat} (hB:w.heap.size<=B):OwnFrom B (λpre W=>∃ q,SumI w z0 b4 b5 b6 b7 pre W q):=λpre X Y row hs hg hr=>by
 obtain⟨q,h⟩:=hs;exact⟨q,h.sum,h.inv,iB h.x6 hg hr,iB h.x7 hg hr,iB h.x4 hg hr,iB h.x5 hg hr,h.bel.grown hg h.bel.size (λk e=>uek hB (hr k e).1),uek h.sz hg.size⟩
def za4 {b4 b5:Nat} (hB:w.heap.size<=B) (c:Code):OwnFrom B (λpre W=>SumX w b4 b5 c pre W):=λpre X Y row h hg hr=>
 ⟨h.ret,h.sum,iB h.x4 hg hr,iB h.x5 hg hr,h.bel.grown hg h.bel.size (λk e=>uek hB (hr k e).1)⟩
def N3 (w0:Nat) (a:Int×Int×Int->Nat->Act) (x:jx) (a':Act) (W:World):Prop:=∃ Bx,w0<=Bx/\W.heap[Bx]? = some (.cells #[.int .i64 x.1.1,.int .i64 x.1.2.1] 29 (0,0))/\a'=a x.1 Bx
def zaz {w0:Nat} {a:Int×Int×Int->Nat->Act} (x:jx) (a':Act):OwnFrom B (λ(_:Unit) W=>N3 w0 a x a' W):=λ_ X Y row hs hg hr=>by
 obtain⟨Bx,h1,h2,h3⟩:=hs;refine⟨Bx,h1,(hg.block Bx (uaf.1 h2).1 (λe=>?_)).trans h2,h3⟩;obtain⟨_,o,ho,hc⟩:=hr Bx e.symm;rw[h2] at ho;cases ho;cases hc
def SM (v:Int):max v (-v)=if v < -v then -v else v:=by split<;>omega
def V9 {pre:List jx} {q:Int×Int} (h:em (pre.map Subtype.val) (0,0)=some q) (x:jx):em ((pre++[x]).map Subtype.val) (0,0)=js q x.1:=by
 rw[uds,V5,h];show(js q x.1).bind (em [])=_;cases js q x.1<;>rfl
def DD (W:World) {k:Nat} (v:Value) (h:k≠b):(W.setCell ⟨b,0,none⟩ v).heap[k]? = W.heap[k]? := by
 by_cases hk:k<W.heap.size
 ·exact(grownBy_setCell' W b v).block k hk (λe=>h (by cases e; rfl))
 ·rw[ua0 (by rw[uce]; omega),ua0 (by omega)]
def V4 {z0 b4 b5 b6 b7:Nat} {pre:List jx} {s x0 x1 v:Int} (hi:SumI w z0 b4 b5 b6 b7 pre W (s,a)) (hx:qm (x0,x1,v)) (hc:(4000000000000000000-a)/(x1-x0)<if v < -v then -v else v)
  (h45:b4≠b5) (h4:w.heap.size<=b4) (h5:w.heap.size<=b5) :
  SumX w b4 b5 .ret (pre++[⟨(x0,x1,v),hx⟩]) ((W.setCell ⟨b4,0,none⟩ (.int .i64 0)).setCell ⟨b5,0,none⟩ (.int .i64 5)):=by
 refine⟨rfl,?_,(hi.x4.set _).other h45 _,(hi.x5.other (Ne.symm h45) _).set _,(hi.bel.setCell h4 _).setCell h5 _⟩;rw[V9 hi.sum];unfold js;rw[if_pos];rw[SM];exact hc
def V3 {z0 b4 b5 b6 b7:Nat} {pre:List jx} {s x0 x1 v m:Int} (hi:SumI w z0 b4 b5 b6 b7 pre W (s,a)) (hx:qm (x0,x1,v)) (hc:(if v < -v then -v else v)<=(4000000000000000000-a)/(x1-x0)) (hm:m=if v < -v then -v else v)
  (h46:b4≠b6) (h47:b4≠b7) (h56:b5≠b6) (h57:b5≠b7) (h67:b6≠b7) (h6:w.heap.size<=b6) (h7:w.heap.size<=b7) :
  SumI w z0 b4 b5 b6 b7 (pre++[⟨(x0,x1,v),hx⟩]) ((W.setCell ⟨b6,0,none⟩ (.int .i64 (wrap64 (s+wrap64 ((x1-x0)*v))))).setCell ⟨b7,0,none⟩ (.int .i64 (wrap64 (a+wrap64 ((x1-x0)*m))))) (s+(x1-x0)*v,a+(x1-x0)*max v (-v)):=by
 have hs:js (s,a) (x0,x1,v)=some (s+(x1-x0)*v,a+(x1-x0)*max v (-v)):=by
  unfold js;rw[if_neg];show ¬ max v (-v)>(4000000000000000000-a)/(x1-x0);omega
 have hmm:m=max v (-v):=by rw[SM]; exact hm
 obtain⟨hinv,k1,k2,k3,k4⟩:=V7 hx hs hi.inv;obtain⟨j1,j2,j3,j4⟩:=hi.inv;simp only at k1 k2 k3 k4 j1 j2 j3 j4;subst hmm;have e1:wrap64 (s+wrap64 ((x1-x0)*v))=s+(x1-x0)*v:=by
  rw[IntWalk.wrap64_in ((x1-x0)*v) (by omega),IntWalk.wrap64_in _ (by omega)]
 have e2:wrap64 (a+wrap64 ((x1-x0)*max v (-v)))=a+(x1-x0)*max v (-v):=by
  rw[IntWalk.wrap64_in ((x1-x0)*max v (-v)) (by omega),IntWalk.wrap64_in _ (by omega)]
 rw[e1,e2];exact⟨by rw[V9 hi.sum]; exact hs,hinv,(hi.x6.set _).other h67 _,(hi.x7.other (Ne.symm h67) _).set _,(hi.x4.other h46 _).other h47 _,(hi.x5.other h56 _).other h57 _,
  (hi.bel.setCell h6 _).setCell h7 _,by rw[uce,uce]; exact hi.sz⟩
def Sl {n₀ B1 B2:Nat} (W:World) (u v:Value) (hb:n₀<=b) (hc:n₀<=c) (h1:B1≠b) (h2:B1≠c) (h3:B2≠b) (h4:B2≠c):cw n₀ B1 B2 W ((W.setCell ⟨b,0,none⟩ u).setCell ⟨c,0,none⟩ v):=
 ⟨((ufd n₀ W).setCell hb _).setCell hc _,(DD _ _ h2).trans (DD _ _ h1),(DD _ _ h4).trans (DD _ _ h3)⟩
def za7 (f:bm.den) (A A':Option Addr) (c1 l2 c2:Nat) (e0 e1:Int) (w:World)
  (hR:∀ W,Below w.heap.size w W->Calls prog 205 #[.agg #[.slice A f.1.length c1,.slice A' l2 c2]] W λe w'=>e = .returned (.bool true)/\Below W.heap.size W w')
  (hF:∀ W,Calls prog 206 #[.agg #[.int .i64 e0,.int .i64 e1]] W λe w'=>e = .returned (.bool true)/\Below W.heap.size W w')
  (all:List jx) (hall:all.map Subtype.val=eL f e1 f.1 e0) (hlen:f.1.length<=9223372036854775807) (he0 : -9223372036854775808<=e0/\e0<=9223372036854775807)
  (hcells:∀ W,Below w.heap.size w W->0<f.1.length->∃ b off,A=some ⟨b,off,none⟩/\b<w.heap.size/\∀ (i:Nat) (x:Int),f.1[i]? = some x->W.cell? ⟨b,off+i,none⟩=some (.int .i64 x) /\ -9223372036854775808<=x/\x<=9223372036854775807)
  (hvals:∀ W,Below w.heap.size w W->Ad f (.agg #[.slice A f.1.length c1,.slice A' l2 c2]) W) :
  CallsIn Fence.wide 8 prog 178 #[.agg #[.slice A f.1.length c1,.slice A' l2 c2],.agg #[.int .i64 e0,.int .i64 e1]] w λe w'=>ZM (em (all.map Subtype.val) (0,0)) e/\Below w.heap.size w w':=by
 refine callsIn_of_wp_marks func178 rfl trivial ?_ rfl;simp only[ntmps178,uco,uc6,udh,Nat.reduceAdd,Nat.reduceSub,ubl,ubm,ucw,ubv,udi,uc1];obtain⟨hB4,hz,hq⟩:=zjx [.cells #[.slice A f.1.length c1,.slice A' l2 c2] 276,.cells #[.int .i64 e0,.int .i64 e1] 29,.cells #[.int .i64 0] 3,.cells #[.int .i64 0] 47] w;simp only[als] at hB4 hz hq;have hS:Four _ w.heap.size _ _ _ _ _ _:=⟨hq 0 _ rfl,hq 1 _ rfl,hq 2 _ rfl,hq 3 _ rfl⟩;have hz:=Nat.lt_of_lt_of_eq (Nat.lt_succ_self (w.heap.size+3)) hz.symm;have HS:=Lib.hid hS;have HZ:=Lib.hid hz;clear hS hz hq
 gi_wp2_with (first|(refine⟨uT,?_⟩; gi_at_call 205; refine(callsIn_wide.2 (hR _ hB4)).mono ?_; rintro e w1 ⟨rfl,hb⟩; obtain⟨k0,k1,k2,k3,k4,k5,k6,k7⟩:=(HS.out.below hb HZ.out).cells)|(refine⟨uT,?_⟩; gi_at_call 206; refine(callsIn_wide.2 (hF _)).mono ?_; rintro e w2 ⟨rfl,hb2⟩; have HW2:=Lib.hid ((HS.out.below hb HZ.out).below hb2 (ub9 HZ.out hb.size)); have HZ2:=Lib.hid (ub9 (ub9 HZ.out hb.size) hb2.size); have HW3:=Lib.hid (HW2.out.below (((ufd w2.heap.size w2).alloc (ue4 _) (.cells #[.int .i64 0] 3)).alloc (by simp) (.cells #[.int .i64 0] 3)) HZ2.out); obtain⟨m0,m1,m2,m3,m4,m5,m6,m7⟩:=HW2.out.cells; obtain⟨n0,n1,n2,n3,n4,n5,n6,n7⟩:=HW3.out.cells)|(refine⟨uT,?_⟩; gi_at_call 207; refine(qwh _ _ _ _ _ _ _ _ _ _).mono ?_; rintro e w3 ⟨rfl,rfl⟩))
 obtain⟨z2,hz2⟩:∃ z2,w2.heap.size=z2:=⟨_,rfl⟩;have hbel2:Below w.heap.size w w2:=(hB4.trans (hb.mono (by simp; omega))).trans (hb2.mono (uek (by simp; omega) hb.size))
 let L:List Obj:=[.cells #[.int .i64 0] 3,.cells #[.int .i64 0] 3,.cells #[.slice A f.1.length c1,.slice A' l2 c2] 276,.cells #[.int .i64 e0,.int .i64 e1] 29]
 obtain⟨hbW,hsz,hq⟩:=zjx L w2;have hW4:=HW2.out.below hbW HZ2.out;have hzz:=HZ2.out;show Code.wpIn _ _ _ _ _ _ (als w2 L);generalize als w2 L=W0 at *;replace hsz:W0.heap.size=w2.heap.size+4:=hsz;have r0:=hq 0 _ rfl;have r1:=hq 1 _ rfl;have r2:=hq 2 _ rfl;have q3:=hq 3 _ rfl;clear hq;clear HW3 HW2 HZ2 HS HZ hB4 m0 m1 m2 m3 m4 m5 m6 m7 n0 n1 n2 n3 n4 n5 n6 n7 k0 k1 k2 k3 k4 k5 k6 k7;have hbel0:Below w.heap.size w W0:=hbel2.trans (hbW.mono hbel2.size);clear hbW hb hb2 hz2 hbel2 hR hF;have hzw:w.heap.size+3<W0.heap.size:=by omega
 have hsz':w2.heap.size+4<=W0.heap.size:=by omega
 clear hsz;refine wpIn_rangeFunc_ownH rfl (by omega) (gf:=223) (lb:=#[.pointer (some ⟨w2.heap.size+1+1+1,0,none⟩),.pointer (some ⟨w2.heap.size+1+1,0,none⟩)]) rfl trivial (enters_of func223 (by kernel_rfl) rfl)
  (qwi 7 (by omega) f A A' c1 l2 c2 e0 e1 all hall hlen he0 w (w2.heap.size+1+1) (w2.heap.size+1+1+1) W0 hbel0 r2 q3 hcells hvals)
  (λh k=>h.trans k) (λW l o o' hl ho hoc how=>⟨belowK_b (w:=w) (ue4 _) W l o o' (by omega) ho hoc how,World.putObj_heap_other (by omega),World.putObj_heap_other (by omega)⟩) (ufd _ _) (λ_=>rfl)
  (λpre W=>∃ q,SumI w W0.heap.size (w.heap.size+1+1) (w.heap.size+1+1+1) w2.heap.size (w2.heap.size+1) pre W q)
  (λc pre W=>SumX w (w.heap.size+1+1) (w.heap.size+1+1+1) c pre W)
  (za0 (by omega)) (za4 (by omega)) ⟨(0,0),rfl,⟨by decide,by decide,by decide,by decide⟩,r0,r1,hW4.b2,hW4.b3,hbel0,ue4 _⟩
  (N3 W0.heap.size (λx Bx=>{ tmps:=#[.agg #[.slice A f.1.length c1,.slice A' l2 c2],.agg #[.int .i64 e0,.int .i64 e1],.pointer (some ⟨w.heap.size,0,none⟩),.pointer (some ⟨w.heap.size+1,0,none⟩),.pointer (some ⟨w.heap.size+1+1,0,none⟩),.pointer (some ⟨w.heap.size+1+1+1,0,none⟩),.pointer (some ⟨w2.heap.size,0,none⟩),.pointer (some ⟨w2.heap.size+1,0,none⟩),.pointer (some ⟨Bx,0,none⟩),.int .i64 x.2.2,undef,undef,
   .agg #[.slice A f.1.length c1,.slice A' l2 c2],.bool true,.bool false,.bool false,.agg #[.int .i64 e0,.int .i64 e1],.bool true,.bool false,.bool false,.agg #[.slice A f.1.length c1,.slice A' l2 c2],.agg #[.int .i64 e0,.int .i64 e1],.func (.func 223) #[] #[.pointer (some ⟨w2.heap.size+1+1+1,0,none⟩),.pointer (some ⟨w2.heap.size+1+1,0,none⟩)],
   .agg #[.int .i64 x.1,.int .i64 x.2.1],.int .i64 x.2.2,undef,undef,undef,undef,undef,undef,undef,undef,undef,undef,undef,undef,undef,undef,undef,undef,undef,undef,undef,undef,undef,undef,undef,undef,undef,undef],defers:=[] }))
  zaz ?assign ?body ?done ?stop
 case assign=>
  rintro l pre x W K ⟨q,hi⟩ hK;obtain⟨⟨x0,x1,v⟩,hx⟩:=x
  gi_wp2
  have hsz1:=hi.sz;exact hK _ _ ((KeepsOthers.alloc _ _).from _) (cw.below ((ufd _ W).alloc (ue4 _) _) hi.bel.size (by omega) (by omega))
   ⟨q,hi.sum,hi.inv,hi.x6.alloc _,hi.x7.alloc _,hi.x4.alloc _,hi.x5.alloc _,hi.bel.alloc hi.bel.size _,by simp; omega⟩ ⟨W.heap.size,hsz1,World.alloc_heap_new W _,rfl⟩
 case body=>
  rintro l pre x a' W hl ⟨r,hr⟩ ⟨q,hi⟩ ⟨Bx,hBx,bX,rfl⟩ hlt;obtain⟨⟨x0,x1,v⟩,hx⟩:=x;obtain⟨s,a⟩:=q;have hx':1<=x0/\x0<x1/\x1<=292195 /\ -4000000000000000000<=v/\v<=4000000000000000000:=hx;obtain⟨y1,y2,y3,y4,y5⟩:=hx';have hinv:0<=a/\a<=4000000000000000000 /\ -a<=s/\s<=a:=hi.inv;obtain⟨i1,i2,i3,i4⟩:=hinv;have bX':W.heap[Bx]? = some (.cells #[.int .i64 x0,.int .i64 x1] 29 (0,0)):=bX;have cX0:W.cell? ⟨Bx,0,none⟩=some (.int .i64 x0):=aO bX' 0;have cX1:W.cell? ⟨Bx,1,none⟩=some (.int .i64 x1):=aO bX' 1;have c6:W.cell? ⟨w2.heap.size,0,none⟩=some (.int .i64 s):=hi.x6.cell;have c7:W.cell? ⟨w2.heap.size+1,0,none⟩=some (.int .i64 a):=hi.x7.cell;have f6:=hi.x6.frozen;have f7:=hi.x7.frozen;have c4:=hi.x4.cell;have f4:=hi.x4.frozen;have c5:=hi.x5.cell;have f5:=hi.x5.frozen;have HB:=Lib.hid bX';clear bX bX' hr
  gi_wp2
  ·have hc:(4000000000000000000-a)/(x1-x0)<if v < -v then -v else v:=by assumption
   exact⟨((KeepsOthers.setCell _ _ _).trans (KeepsOthers.setCell _ _ _)).from _,V4 hi hx hc (by omega) (by omega) (by omega)⟩
  ·have hc:(4000000000000000000-a)/(x1-x0)<if v < -v then -v else v:=by assumption
   exact⟨((KeepsOthers.setCell _ _ _).trans (KeepsOthers.setCell _ _ _)).from _,V4 hi hx hc (by omega) (by omega) (by omega)⟩
  ·have hc:(if v < -v then -v else v)<=(4000000000000000000-a)/(x1-x0):=by assumption
   have hv:v < -v:=by assumption
   exact⟨((KeepsOthers.setCell _ _ _).trans (KeepsOthers.setCell _ _ _)).from _,Sl W _ _ (by omega) (by omega) (by omega) (by omega) (by omega) (by omega),_,_,
    V3 hi hx hc (by rw[if_pos hv]) (by omega) (by omega) (by omega) (by omega) (by omega) (by omega) (by omega)⟩
  ·have hc:(if v < -v then -v else v)<=(4000000000000000000-a)/(x1-x0):=by assumption
   have hv:¬ v < -v:=by omega
   exact⟨((KeepsOthers.setCell _ _ _).trans (KeepsOthers.setCell _ _ _)).from _,Sl W _ _ (by omega) (by omega) (by omega) (by omega) (by omega) (by omega),_,_,
    V3 hi hx hc (by rw[if_neg hv]) (by omega) (by omega) (by omega) (by omega) (by omega) (by omega) (by omega)⟩
 case done=>
  rintro D zs W hD rfl ⟨q,hi⟩ hK;have c6:=hi.x6.cell;have c4:=hi.x4.cell;have f4:=hi.x4.frozen;have c5:=hi.x5.cell;have f5:=hi.x5.frozen
  gi_wp2
  have hK':=((KeepsOthers.setCell W ⟨w.heap.size+1+1,0,none⟩ (.int .i64 q.1)).trans (KeepsOthers.setCell _ ⟨w.heap.size+1+1+1,0,none⟩ (.int .i64 0))).same D _ hK rfl;have x4':=(hi.x4.set (.int .i64 q.1)).other (B':=w.heap.size+1+1+1) (by omega) (.int .i64 0);have x5':=(hi.x5.other (B':=w.heap.size+1+1) (by omega) (.int .i64 q.1)).set (.int .i64 0);have d4:=cell_kept x4'.cell (grownBy_putObj' _ D (.deferred none)) (λr e=>by cases e; exact⟨_,hK',rfl⟩);have d5:=cell_kept x5'.cell (grownBy_putObj' _ D (.deferred none)) (λr e=>by cases e; exact⟨_,hK',rfl⟩);have hbb:=(hi.bel.setCell (p:=⟨w.heap.size+1+1,0,none⟩) (by show w.heap.size<=w.heap.size+1+1; omega) (.int .i64 q.1)).setCell (p:=⟨w.heap.size+1+1+1,0,none⟩) (by show w.heap.size<=w.heap.size+1+1+1; omega) (.int .i64 0);refine⟨by simp,.inl ⟨_,_,rfl,run_takeDeferred hK',?_⟩⟩;refine⟨.tuple #[.int .i64 q.1,.int .i64 0],?_,?_,hbb.trans (belowK_b (w:=w) (ue4 _) _ D _ _ (by omega) hK' rfl rfl)⟩
  ·simp[results,results178,go_sem,d4,d5]
  ·rw[hi.sum];rfl
 case stop=>
  rintro D c pre W hD ⟨r,rfl⟩ h hK;obtain rfl:=h.ret;have c4:=h.x4.cell;have f4:=h.x4.frozen;have c5:=h.x5.cell;have f5:=h.x5.frozen
  gi_wp2
  have d4:=cell_kept h.x4.cell (grownBy_putObj' _ D (.deferred none)) (λr e=>by cases e; exact⟨_,hK,rfl⟩);have d5:=cell_kept h.x5.cell (grownBy_putObj' _ D (.deferred none)) (λr e=>by cases e; exact⟨_,hK,rfl⟩);refine⟨by simp,.inl ⟨_,_,rfl,run_takeDeferred hK,?_⟩⟩;refine⟨.tuple #[.int .i64 0,.int .i64 5],?_,?_,h.bel.trans (belowK_b (w:=w) (ue4 _) _ D _ _ (by omega) hK rfl rfl)⟩
  ·simp[results,results178,go_sem,d4,d5]
  ·rw[uds,V5,h.sum];rfl
end
def NH {a b:Value} (hs:cs.size=2) (h0:cs[0]? = some a) (h1:cs[1]? = some b):cs = #[a,b]:=by
 apply ufh
 ·simp[hs]
 ·intro i hi hj;have h2:i<2:=by omega
  match i,h2 with
  |0,_=>
   have:=uaf.1 h0;simpa using this.2
  |1,_=>
   have:=uaf.1 h1;simpa using this.2
def zau {f:bm.den} (h:bu w F bm f v):∃ a b,v = .agg #[a,b]/\aA w F aK f.1 (λ_ u=>u=a)/\aA w F aK f.2.1 (λ_ u=>u=b):=by
 obtain⟨cs,rfl⟩:=h.2.1.1 rfl;have hs:cs.size=2:=h.1;refine⟨cs[0]'(by omega),cs[1]'(by omega),?_,?_,?_⟩
 ·congr 1;exact NH hs (uam (by omega)) (uam (by omega))
 ·refine aA.mono (λ_ h=>h) (λ_ _=>rfl) ?_ h.2.2.1;intro j u hj hu;have:j=0:=by have:j<1:=hj; omega
  subst this;have hu':cs[0]? = some u:=hu;rw[uam (by omega)] at hu';simpa using hu'.symm
 ·refine aA.mono (λ_ h=>h) (λ_ _=>rfl) ?_ h.2.2.2.1;intro j u hj hu;have:j=0:=by have:j<1:=hj; omega
  subst this;have hu':cs[1]? = some u:=hu;rw[uam (by omega)] at hu';simpa using hu'.symm
def zag {s:cn.den} (h:bu w F cn s v):v = .agg #[.int .i64 s.1,.int .i64 s.2.1]/\(-9223372036854775808<=s.1/\s.1<=9223372036854775807) /\ -9223372036854775808<=s.2.1/\s.2.1<=9223372036854775807:=by
 obtain⟨cs,rfl⟩:=h.2.1.1 rfl;have hs:cs.size=2:=h.1;have h0:cs[0]? = some (.int .i64 s.1):=h.2.2.1.1;have h1:cs[1]? = some (.int .i64 s.2.1):=h.2.2.2.1.1;exact⟨by rw[NH hs h0 h1],h.2.2.1.2,h.2.2.2.1.2⟩
def Lk:{l:List (Int×Int×Int)}->(∀ x∈l,qm x) -> {q q':Int×Int}->wD q->em l q=some q'->wD q'
 |[],_,q,q',hq,h=>by
  simp only[em,ucj] at h;subst h;exact hq
 |x::l,hl,q,q',hq,h=>by
  simp only[em] at h;cases hs:js q x with
  |none=>rw[hs] at h; cases h
  |some q1=>
   rw[hs] at h;exact Lk (λy hy=>hl y (by simp[hy])) (V7 (hl x (by simp)) hs hq).1 h
def nc {b:Int} {u:Unit}:dN (a,b,u)=true↔1<=a/\a<b/\b<=292195:=by
 simp[dN]
def Lv {b:Int} (ha : -9223372036854775808<=a/\a<=9223372036854775807) (hb : -9223372036854775808<=b/\b<=9223372036854775807):gT w F [i64,i64] (a,b,()) (.tuple #[.int .i64 a,.int .i64 b]):=
 ⟨_,rfl,_,_,rfl,⟨rfl,⟨λh=>(by cases h),λ⟨cs,h⟩=>(by cases h)⟩,rfl,ha⟩,_,_,rfl,⟨rfl,⟨λh=>(by cases h),λ⟨cs,h⟩=>(by cases h)⟩,rfl,hb⟩,rfl⟩
def NJ:{l:List (Int×Int×Int)}->(∀ x∈l,qm x)->∃ all:List jx,all.map Subtype.val=l
 |[],_=>⟨[],rfl⟩
 |x::l,h=>by
  obtain⟨all,ha⟩:=NJ (l:=l) (λy hy=>h y (by simp[hy]));exact⟨⟨x,h x (by simp)⟩::all,by simp[ha]⟩
def za6:af prog 178 AD:=by
 refine⟨enters (fn:=f178) (by kernel_rfl) rfl rfl,λw F xs vs hbd hr _=>?_⟩;obtain⟨f,⟨e0,e1,u⟩,_⟩:=xs;obtain⟨va,vs',rfl,hva,vb,vs'',rfl,hvb,hn⟩:=hr;cases hn;have hva':bu w F bm f va:=hva;have hvb':bu w F cn (e0,e1,u) vb:=hvb;obtain⟨rfl,he0,he1⟩:=zag hvb';obtain⟨sa,sb,rfl,ha,hb⟩:=zau hva';obtain⟨A,c1,rfl,hl1,hl2,hcells⟩:=KN ha;obtain⟨A',c2,rfl,hl3,hl4,_⟩:=KN hb;have hmono:∀ W,Below w.heap.size w W->bu W F bm f (.agg #[.slice A f.1.length c1,.slice A' f.2.1.length c2]):=λW hW=>hva'.mono (λ_ h=>h) (λb hb=>hW.block b (hbd b hb));have hspan:∀ (W:World) (F:Nat->Prop),bu W F cn (e0,e1,u) (.agg #[.int .i64 e0,.int .i64 e1]):=λW F=>⟨rfl,⟨λ_=>⟨_,rfl⟩,λ_=>rfl⟩,⟨rfl,he0⟩,⟨rfl,he1⟩,uT⟩;have hR:∀ W,Below w.heap.size w W->Calls prog 205 #[.agg #[.slice A f.1.length c1,.slice A' f.2.1.length c2]] W λe w'=>e = .returned (.bool (jU f))/\Below W.heap.size W w':=λW hW=>
  FM (ps:=[.d bm]) (g:=λx=>jU x.1) qxt (F:=F) (xs:=(f,())) (vs:=[_]) (λb hb=>ub9 (hbd b hb) hW.size) ⟨_,[],rfl,hmono W hW,rfl⟩ trivial
 have hF:∀ W,Calls prog 206 #[.agg #[.int .i64 e0,.int .i64 e1]] W λe w'=>e = .returned (.bool (dN (e0,e1,())))/\Below W.heap.size W w':=λW=>
  FM (ps:=[.d cn]) (g:=λx=>dN x.1) ql7 (F:=λ_=>False) (xs:=((e0,e1,()),())) (vs:=[_]) (λb hb=>hb.elim) ⟨_,[],rfl,hspan W _,rfl⟩ trivial
 by_cases hyes:jU f=true/\dN (e0,e1,())=true
 ·obtain⟨hr1,hr2⟩:=hyes;obtain⟨hlen,hup,_,hval⟩:=Kz hr1;have hok:=Da (f:=f) hval (e:=e1) (nc.1 hr2).2.2 f.1 e0 (nc.1 hr2).1 (nc.1 hr2).2.1;obtain⟨all,hall⟩:=NJ hok;rw[hr1] at hR;rw[hr2] at hF;have hl0:f.1.length<=9223372036854775807:=by
   have:=uek hl1 hl2;unfold maxLen at this;omega
  have key:=za7 f A A' c1 f.2.1.length c2 e0 e1 w hR hF all hall hl0 he0 (λW hW hp=>by
   obtain⟨b,off,h1,h2,h3⟩:=hcells hp;exact⟨b,off,h1,hbd b h2,λi x hx=>⟨(hW.cell (p:=⟨b,off+i,none⟩) (hbd b h2)).trans (h3 i x hx).1,(h3 i x hx).2⟩⟩)
   (λW hW=>zcy (λb hb=>ub9 (hbd b hb) hW.size) (hmono W hW) hup hlen)
  refine(callsIn_wide.1 key).mono ?_;rintro e w' ⟨he,hbel⟩;rw[hall] at he;have hS:eo f (e0,e1,u)=match em (eL f e1 f.1 e0) (0,0) with
    |some q=>(q.1,0)
    |none=>(0,5):=by
   unfold eo;rw[if_pos ⟨hr1,hr2⟩]
   try rfl
  cases hq:em (eL f e1 f.1 e0) (0,0) with
  |none=>
   rw[hq] at he hS;have he':e = .returned (.tuple #[.int .i64 0,.int .i64 5]):=he;refine⟨_,F,he',hbel,λ_ h=>h,λb hb=>⟨.inl hb,ub9 (hbd b hb) hbel.size⟩,?_⟩;show gT w' F [i64,i64] ((eo f (e0,e1,u)).1,(eo f (e0,e1,u)).2,()) _;rw[hS];exact Lv (by decide) (by decide)
  |some q=>
   rw[hq] at he hS;have he':e = .returned (.tuple #[.int .i64 q.1,.int .i64 0]):=he;refine⟨_,F,he',hbel,λ_ h=>h,λb hb=>⟨.inl hb,ub9 (hbd b hb) hbel.size⟩,?_⟩;show gT w' F [i64,i64] ((eo f (e0,e1,u)).1,(eo f (e0,e1,u)).2,()) _;rw[hS];obtain⟨j1,j2,j3,j4⟩:=Lk hok (q:=(0,0)) ⟨by decide,by decide,by decide,by decide⟩ hq;exact Lv ⟨by show _<=q.1; omega,by show q.1<=_; omega⟩ (b:=0) (by decide)
 ·have key:=za5 f A A' f.1.length c1 f.2.1.length c2 e0 e1 w hR hF hyes;refine(callsIn_wide.1 key).mono ?_;rintro e w' ⟨rfl,hbel⟩;refine⟨_,F,rfl,hbel,λ_ h=>h,λb hb=>⟨.inl hb,ub9 (hbd b hb) hbel.size⟩,?_⟩;show gT w' F [i64,i64] ((eo f (e0,e1,u)).1,(eo f (e0,e1,u)).2,()) _;have hS:eo f (e0,e1,u)=(0,1):=if_neg hyes;rw[hS];exact Lv (by decide) (by decide)
def fK (p:List Int×List Int) (day v:Int):List Int×List Int:=
 let q:=if p.1.getLast? = some day then (p.1.dropLast,p.2.dropLast) else p
 if v≠q.2.getLast?.getD 0/\day<=292194 then (q.1++[day],q.2++[v]) else q
section
variable {α:Type}
def Ai (at_ val:List Int) (day v:Int) (K:List Int->List Int->Fr α):Fr α:=
 Jb (decide ((val.length:Int)>0))
  (Jd (0<=I6.wrap (val.length-1)/\I6.wrap (val.length-1)<val.length)
   (Jd ((I6.wrap (val.length-1)).toNat<val.length)
    (Jb (bif v != val.getD (I6.wrap (val.length-1)).toNat i64.dflt then decide (day<=292194) else false)
     (Jd (at_.length + [day].length<=maxLen/\(at_.length + [day].length)*8<=140737488355328)
      (Jd (val.length + [v].length<=maxLen/\(val.length + [v].length)*8<=140737488355328)
       (K (at_++[day]) (val++[v]))))
     (K at_ val))))
  (Jb (bif v != 0 then decide (day<=292194) else false)
   (Jd (at_.length + [day].length<=maxLen/\(at_.length + [day].length)*8<=140737488355328)
    (Jd (val.length + [v].length<=maxLen/\(val.length + [v].length)*8<=140737488355328)
     (K (at_++[day]) (val++[v]))))
   (K at_ val))
def NC (at_ val:List Int) (day v:Int) (K:List Int->List Int->Fr α):Fr α:=
 Jd (decide ((at_.length:Int)>0)=true->0<=I6.wrap (at_.length-1)/\I6.wrap (at_.length-1)<at_.length)
  (Jd (decide ((at_.length:Int)>0)=true->(I6.wrap (at_.length-1)).toNat<at_.length)
   (Jb (bif decide ((at_.length:Int)>0) then at_.getD (I6.wrap (at_.length-1)).toNat i64.dflt==day else false)
    (Jd (0<=I6.wrap (at_.length-1)/\I6.wrap (at_.length-1)<=at_.length)
     (Jd (0<=I6.wrap (at_.length-1)/\I6.wrap (at_.length-1)<=val.length)
      (Ai (at_.take (I6.wrap (at_.length-1)).toNat) (val.take (I6.wrap (at_.length-1)).toNat) day v K)))
    (Ai at_ val day v K)))
def C9 (h:0<l.length) (hb:l.length<1000000):l.getD (I6.wrap ((l.length:Int)-1)).toNat i64.dflt=l.getLast?.getD 0:=by
 rw[cz (by omega),uan,uah];have:((l.length:Int)-1).toNat=l.length-1:=by omega
 rw[this];rfl
def qad {at_ val:List Int} {v:Int} {K:List Int->List Int->Fr α} {Q:α->Prop} (h1:at_.length<1000000) (h2:val.length<1000000)
  (h:(if v≠val.getLast?.getD 0/\day<=292194 then K (at_++[day]) (val++[v]) else K at_ val).satP Q):(Ai at_ val day v K).satP Q:=by
 have hroom:∀ (l:List Int) (x:Int),l.length<1000000->l.length + [x].length<=maxLen/\(l.length + [x].length)*8<=140737488355328:=λl x hl=>by
  simp only[maxLen,ua6];omega
 by_cases hv:0<val.length
 ·refine⟨λ_=>⟨?_,?_,?_,?_⟩,λhn=>?_⟩
  ·rw[cz (by omega)];omega
  ·rw[cz (by omega)];omega
  ·intro hb;rw[C9 hv h2,oc] at hb;have hb':v≠val.getLast?.getD 0/\day<=292194:=by simpa using hb
   rw[if_pos hb'] at h;exact⟨hroom _ _ h1,hroom _ _ h2,h⟩
  ·intro hb;rw[C9 hv h2,oc] at hb;have hb':¬ (v≠val.getLast?.getD 0/\day<=292194):=by
    intro hc;simp[hc.1,hc.2] at hb
   rw[if_neg hb'] at h;exact h
  ·exact absurd (ucf hn) (by omega)
 ·have hnil:val=[]:=by
   cases val with
   |nil=>rfl
   |cons _ _=>simp at hv
  subst hnil;refine⟨λhn=>by simp at hn,λ_=>⟨λhb=>?_,λhb=>?_⟩⟩
  ·rw[oc] at hb;have hb':v≠([]:List Int).getLast?.getD 0/\day<=292194:=by simpa using hb
   rw[if_pos hb'] at h;exact⟨hroom _ _ h1,hroom _ _ h2,h⟩
  ·rw[oc] at hb;have hb':¬ (v≠([]:List Int).getLast?.getD 0/\day<=292194):=by
    intro hc;have h3:v≠0:=hc.1;simp[h3,hc.2] at hb
   rw[if_neg hb'] at h;exact h
def qae {at_ val:List Int} {v:Int} {K:List Int->List Int->Fr α} {Q:α->Prop} (h1:at_.length<1000000) (h2:at_.length=val.length)
  (h:(K (fK (at_,val) day v).1 (fK (at_,val) day v).2).satP Q):(NC at_ val day v K).satP Q:=by
 have key:∀ a b:List Int,a.length<1000000->b.length<1000000->fK (at_,val) day v=(if v≠b.getLast?.getD 0/\day<=292194 then (a++[day],b++[v]) else (a,b))->(Ai a b day v K).satP Q:=λa b ha hb he=>by
  refine qad ha hb ?_;rw[he] at h;by_cases hc:v≠b.getLast?.getD 0/\day<=292194
  ·rw[if_pos hc] at h |-;exact h
  ·rw[if_neg hc] at h |-;exact h
 refine⟨λhp=>?_,λhp=>?_,λhb=>⟨?_,?_,?_⟩,λhb=>?_⟩
 ·have:(at_.length:Int)>0:=by simpa using hp
  rw[cz (by omega)];omega
 ·have:(at_.length:Int)>0:=by simpa using hp
  rw[cz (by omega)];omega
 ·have:(at_.length:Int)>0:=by
   simp at hb;simpa using hb.1
  rw[cz (by omega)];omega
 ·have:(at_.length:Int)>0:=by
   simp at hb;simpa using hb.1
  rw[cz (by omega)];omega
 ·rw[oc] at hb;obtain⟨hp,hb⟩:=Bool.and_eq_true_iff.1 hb;have hp':0<at_.length:=by simpa using hp
  rw[C9 hp' h1] at hb;have hl:at_.getLast? = some day:=by
   have:at_.getLast?.getD 0=day:=by simpa using hb
   rw[uan] at this |-;rw[uap (by omega)] at this |-;simpa using this
  have e1:(I6.wrap ((at_.length:Int)-1)).toNat=at_.length-1:=by
   rw[cz (by omega)];omega
  rw[e1];refine key _ _ (by simp; omega) (by simp; omega) ?_;unfold fK;simp only[hl,if_true,List.dropLast_eq_take,<- h2]
 ·rw[oc] at hb;refine key _ _ h1 (by omega) ?_;have hl:at_.getLast? ≠ some day:=by
   intro hl;have hp':0<at_.length:=by
    cases at_ with
    |nil=>simp at hl
    |cons _ _=>simp
   have hp:decide ((at_.length:Int)>0)=true:=by simpa using hp'
   rw[hp,C9 hp' h1,hl] at hb;simp at hb
  unfold fK;simp only[hl,ufl]
end
def NB {p:List Int×List Int} (day v:Int) (h:p.1.length=p.2.length):(fK p day v).1.length=(fK p day v).2.length/\(fK p day v).1.length<=p.1.length+1:=by
 unfold fK;by_cases hc:p.1.getLast? = some day
 ·simp only[hc,if_true];split<;>simp<;>omega
 ·simp only[hc,ufl];split<;>simp<;>omega
abbrev Sf:List (Tmp×PT):=[(10015,.d i64),(10014,.d i64),(10013,.d zel),(10005,.d i64)]
abbrev Se:List MI:=[.y 3 276 [(some 3,i64),(some 3,i64)],.r 10003 3 0,.g 10004 179 [3],.x 7 230 aB,.r 10007 7 0,.x 2 276 bm,.r 10002 2 0]
abbrev yC:Pt:=⟨65,0,⟨Sf,Se⟩,⟨[],[]⟩,⟨[],[]⟩⟩
abbrev LA:LS:=⟨(0,.d i64)::(1,.d i64)::Sf,.r 2 3 0::Se⟩
noncomputable def FJ:Code:=f179.body.getD .skip
def frA (x:LA.X):Fr yC.Out:=
 NC x.2.1.1 x.2.1.2.1 x.1.1 x.1.2.1 λa b=>Jv (Rd.next (x.1.2.2,(a,b,()),x.2.2))
def Pg:CxOK prog (cx [] []):=aP aG trivial trivial
def qyn:ae prog FJ LA yC frA:=
 ae.of_run Pg (bs:=80000) (Λ:=bw) rfl rfl rfl (λE=>aY _ 0) (λx=>by kernel_rfl)
def FA (x:LA.X):Fr yC.Out:=
 Jd (x.2.1.1.length<1000000/\x.2.1.1.length=x.2.1.2.1.length)
  (Jv (Rd.next (x.1.2.2,((fK (x.2.1.1,x.2.1.2.1) x.1.1 x.1.2.1).1,(fK (x.2.1.1,x.2.1.2.1) x.1.1 x.1.2.1).2,()),x.2.2)))
def qf1:ae prog FJ LA yC FA:=
 qyn.conv λx Q h=>qae h.1.1 h.1.2 h.2
noncomputable def kA:Nat->FuncId->List AV->St->Option Tr:=IK prog (cx [] []).Γ 179 f179 LA yC FA
def qom:gQ prog kA:=qnb Pg (c:=FJ) (by kernel_rfl) (by kernel_rfl) rfl rfl qf1
noncomputable def CC:Cx:=cW [(180,qw)] [(142,eF)] kA
def EA:CxOK prog CC:=cZ aG ⟨ql8,uT⟩ ⟨JE,uT⟩ qom
abbrev iV:Pt:=⟨41,0,⟨[(15,.d i64),(14,.d i64),(13,.d zel),(5,.d i64)],[.y 3 276 [(some 3,i64),(some 3,i64)],.r 3 3 0,.g 4 179 [3],.x 2 276 bm,.r 2 2 0]⟩,⟨[],[.y 3 276 [(some 3,i64),(some 3,i64)],.r 3 3 0,.x 2 276 bm,.r 2 2 0]⟩,⟨[],[]⟩⟩
def addS (p:List Int×List Int) (s:aB.den):List Int×List Int:=fK (fK p s.1.1 s.2.2.2.2.1) s.1.2.1 0
def qk3 (x:iV.M.X) (s:aB.den):Fr iV.Out:=
 let b:=addS (x.2.1.1,x.2.1.2.1) s;let a:=fK (x.2.1.1,x.2.1.2.1) s.1.1 s.2.2.2.2.1;Jd (x.2.1.1.length<1000000/\x.2.1.1.length=x.2.1.2.1.length)
  (Jd (a.1.length<1000000/\a.1.length=a.2.length)
   (Jv (Rd.next ((I6.wrap (x.1.1+1),x.1.2.1,x.1.2.2.1,s.1.2.1,()),(b.1,b.2,()),x.2.2.1,()))))
def Q3 (x:iV.M.X):Fr iV.Out:=
 let a:=qk3 x (x.1.2.2.1.getD x.1.1.toNat aB.dflt);Jb (decide (x.1.1<x.1.2.1))
  (Jd (0<=x.1.1/\x.1.1<x.1.2.2.1.length)
   (Jb (!(qw.f (x.1.2.2.1.getD x.1.1.toNat aB.dflt,x.1.2.2.2.1,())).1)
    (Jb (eF.bad (1,())) (Jv (Rd.pan (eF.pv (1,()))))
     a)
    a))
  (Jv (Rd.out ((),(x.2.1.1,x.2.1.2.1,()),x.2.2.1,())))
def qyr:ae prog (au f132 0) iV.M iV Q3:=
 dn EA
def gX:List aB.den->Int->List Int×List Int->Option (List Int×List Int)
 |[],_,p=>some p
 |s::l,e,p=>if ne s e=true then gX l s.1.2.1 (addS p s) else none
def TC (r:bm.den) (o:Option (List Int×List Int)):Fr iV.Out:=
 Jb o.isSome (Jv (Rd.out ((),((o.getD ([],[])).1,(o.getD ([],[])).2,()),r,()))) (Jv (Rd.pan ⟨47,.i64,1⟩))
structure InvC (i n:Int) (l:List aB.den) (p:List Int×List Int):Prop where
 len:n=l.length
 lo:0<=i
 hi:i<=n
 most:l.length<=2000
 both:p.1.length=p.2.length
 few:p.1.length<=2*i
def FC (x:iV.M.X):Fr iV.Out:=
 Jd (InvC x.1.1 x.1.2.1 x.1.2.2.1 (x.2.1.1,x.2.1.2.1)) (TC x.2.2.1 (gX (x.1.2.2.1.drop x.1.1.toNat) x.1.2.2.2.1 (x.2.1.1,x.2.1.2.1)))
def qpm (i n:Int) (l:List aB.den) (e:Int) (at_ val:List Int) (r:bm.den) (hinv:InvC i n l (at_,val)) (Q:iV.Out->Prop) (hq:(TC r (gX (l.drop i.toNat) e (at_,val))).satP Q) :
  (Q3 ((i,n,l,e,()),(at_,val,()),r,())).satP λ
   |.next x'=>InvC x'.1.1 x'.1.2.1 x'.1.2.2.1 (x'.2.1.1,x'.2.1.2.1)/\(x'.1.2.1-x'.1.1).toNat<(n-i).toNat/\(FC x').satP Q
   |.out y=>Q (.out y)
   |.back z=>Q (.back z)
   |.pan p=>Q (.pan p):=by
 obtain⟨rfl,h4,h5,h6,h7,h8⟩:=hinv;refine⟨λhi=>?_,λhi=>?_⟩
 ·have hi':i<l.length:=by simpa using hi
  have hl:i.toNat<l.length:=by omega
  have e1:=ual hl;have g1:l.getD i.toNat aB.dflt=l[i.toNat]:=by rw[uah,uap hl]; rfl
  rw[e1] at hq;generalize hs:l[i.toNat]=s at *;refine⟨⟨h4,hi'⟩,λhb=>?_,λhb=>?_⟩
  ·have hb':ne s e=false:=by
    have:(!(qw.f (l.getD i.toNat aB.dflt,e,())).1)=true:=hb;rw[g1] at this;simpa[qw] using this
   have hq':Q (Rd.pan ⟨47,.i64,1⟩):=by
    unfold gX at hq;rw[hb'] at hq;exact hq.2 rfl
   exact⟨λ_=>hq',λhc=>by cases hc⟩
  ·have hb':ne s e=true:=by
    have:(!(qw.f (l.getD i.toNat aB.dflt,e,())).1)=false:=hb;rw[g1] at this;simpa[qw] using this
   unfold gX at hq;rw[hb',if_pos rfl] at hq;have a1:=NB s.1.1 s.2.2.2.2.1 h7;have a2:=NB s.1.2.1 0 a1.1;rw[g1];have hw:I6.wrap (i+1)=i+1:=cz (by omega);have hn:(i+1).toNat=i.toNat+1:=by omega
   have h8':(at_.length:Int)<=2*i:=h8;have hI:InvC (i+1) l.length l (addS (at_,val) s):=⟨rfl,by omega,by omega,h6,a2.1,by
    have:(addS (at_,val) s).1.length<=(fK (at_,val) s.1.1 s.2.2.2.2.1).1.length+1:=a2.2;omega⟩
   refine⟨⟨by show at_.length<1000000; omega,h7⟩,⟨by show(fK (at_,val) s.1.1 s.2.2.2.2.1).1.length<1000000; omega,a1.1⟩,?_⟩;show InvC (I6.wrap (i+1)) l.length l (addS (at_,val) s)/\((l.length:Int)-I6.wrap (i+1)).toNat<((l.length:Int)-i).toNat/\(FC ((I6.wrap (i+1),(l.length:Int),l,s.1.2.1,()),((addS (at_,val) s).1,(addS (at_,val) s).2,()),r,())).satP Q;rw[hw];refine⟨hI,by omega,hI,?_⟩;rw[hn];exact hq
 ·have hi':¬ i<l.length:=by simpa using hi
  have hl:l.drop i.toNat=[]:=ua1 (by omega);rw[hl] at hq;exact hq.1 rfl
def qqt:ae prog (.loop (au f132 0)) iV.M iV FC:=by
 refine ae.loop qyr (μ:=λx=>(x.1.2.1-x.1.1).toNat) ?_ (λx Q h=>h.1);rintro⟨⟨i,n,l,e,_⟩,⟨at_,val,_⟩,r,_⟩ hinv Q hq;exact qpm i n l e at_ val r hinv Q hq.2
noncomputable def ΛC:Nat->St->Option Tr:=λ_=>iV.han CC.Γ iV.M FC
def iG (l:List aB.den):Option (List Int×List Int):=if l.length<=2000 then gX l 1 ([],[]) else none
def Q5 (x:ag [.d zel]):Fr (Oc (aa [bm])):=
 let a:=gX (x.1.drop (Int.toNat 0)) 1 ([],[]);let b:=a.getD ([],[]);Jd (InvC 0 x.1.length x.1 ([],[]))
  (Jb a.isSome (Jv (Oc.ok ((b.1,b.2,()),())))
   (Jv (Oc.pan ⟨47,.i64,1⟩)))
def kH (x:ag [.d zel]):Fr (Oc (aa [bm])):=
 Jb (decide ((x.1.length:Int)>2000))
  (Jb (eF.bad (1,())) (Jv (Oc.pan (eF.pv (1,())))) (Q5 x))
  (Q5 x)
def qew:jz prog 132 ⟨[.d zel],[bm],λxs=>(kH xs).get.val,λxs=>(kH xs).get.bad,λxs=>(kH xs).get.pv,λxs=>[(kH xs).ok]⟩:=
 Q0 EA (Λ:=ΛC) (fn:=f132) ([],()) (by kernel_rfl) (λc E hc=>ea hc (by kernel_rfl) (b:=au f132 0) (by kernel_rfl) (ae.han EA rfl qqt)) (λxs=>by kernel_rfl)
def cy (l:List aB.den):bm.den:=(((iG l).getD ([],[])).1,((iG l).getD ([],[])).2,())
def dW:Pc:=⟨[.d zel],[bm],λx=>(cy x.1,()),λx=>(iG x.1).isNone,λ_=>⟨47,.i64,1⟩,λ_=>[]⟩
def Pf:jz prog 132 dW:=
 OP qew _ _ _ _ λw F xs vs hr _=>by
  obtain⟨l,_⟩:=xs;by_cases hl:l.length<=2000
  ·have hd:decide ((l.length:Int)>2000)=false:=by simp; omega
   have hI:InvC 0 l.length l ([],[]):=⟨rfl,ue5 _,by omega,hl,rfl,by simp⟩;have hO:iG l=gX l 1 ([],[]):=if_pos hl;have hget:(kH (l,())).get=if (gX l 1 ([],[])).isSome=true then Oc.ok (cy l,()) else Oc.pan ⟨47,.i64,1⟩:=by
    show(if decide ((l.length:Int)>2000)=true then _ else (if (gX l 1 ([],[])).isSome=true then Oc.ok _ else Oc.pan _))=_;rw[hd];unfold cy;rw[hO];rfl
   refine⟨⟨λhb=>?_,λ_=>⟨hI,λ_=>uT,λ_=>uT⟩⟩,?_,?_,?_⟩
   ·have hb':=hb;rw[hd] at hb';cases hb'
   ·show(kH (l,())).get.bad=(iG l).isNone;rw[hget,hO];cases gX l 1 ([],[])<;>rfl
   ·intro hb;have hb':=hb;show(kH (l,())).get.val=(cy l,());rw[hget];rw[hO] at hb';cases h:gX l 1 ([],[]) with
    |none=>rw[h] at hb'; cases hb'
    |some p=>rfl
   ·intro hb;have hb':=hb;show(kH (l,())).get.pv=_;rw[hget];rw[hO] at hb';cases h:gX l 1 ([],[]) with
    |none=>rfl
    |some p=>rw[h] at hb'; cases hb'
  ·have hd:decide ((l.length:Int)>2000)=true:=by simp; omega
   have hO:iG l=none:=if_neg hl;have hget:(kH (l,())).get=Oc.pan ⟨47,.i64,1⟩:=by
    show(if decide ((l.length:Int)>2000)=true then _ else _)=_;rw[hd];rfl
   refine⟨⟨λ_=>⟨λ_=>uT,λhc=>by cases hc⟩,λhb=>?_⟩,?_,?_,?_⟩
   ·have hb':=hb;rw[hd] at hb';cases hb'
   ·show(kH (l,())).get.bad=(iG l).isNone;rw[hget,hO];rfl
   ·intro hb;have hb':=hb;rw[hO] at hb';cases hb'
   ·intro _;show(kH (l,())).get.pv=_;rw[hget];rfl
def dX (d:Int):Int:=if 292195<(if d<1 then 1 else d) then 292195 else (if d<1 then 1 else d)
def qdm (d:Int):1<=dX d/\dX d<=292195:=by
 unfold dX;split<;>split<;>omega
noncomputable def CU:Cx:=cx [(178,AD),(143,qv)] [(142,eF)]
def Y3:CxOK prog CU:=aP aG ⟨za6,qg4,uT⟩ ⟨JE,uT⟩
def BX (s e:Int):Fr (Oc (aa [i64])):=
 let a:=qv.f (s,1,365,());Jb (eF.bad (e,())) (Jv (Oc.pan (eF.pv (e,()))))
  (Jd (0<=s->(0:Int)<=1->s*1<18446744073709551616)
   (Jb (eF.bad (a.2.1,())) (Jv (Oc.pan (eF.pv (a.2.1,())))) (Jv (Oc.ok (a.1,())))))
def mZ (x:ag [.d bm,.d i64]):Fr (Oc (aa [i64])):=
 Jb (dX x.2.1==1) (Jv (Oc.ok (0,()))) (BX (AD.f (x.1,(1,dX x.2.1,()),())).1 (AD.f (x.1,(1,dX x.2.1,()),())).2.1)
def zcw:jz prog 131 ⟨[.d bm,.d i64],[i64],λxs=>(mZ xs).get.val,λxs=>(mZ xs).get.bad,λxs=>(mZ xs).get.pv,λxs=>[(mZ xs).ok]⟩:=
 Q0 Y3 (Λ:=bw) (fn:=f131) (([],[],()),0,()) (by kernel_rfl) (λc E hc=>aY c 0) (λxs=>by kernel_rfl)
def gN (s e:Int):Int×Int:=if e≠0 then (0,e) else if (cP s 1 365).2≠0 then (0,(cP s 1 365).2) else ((cP s 1 365).1,0)
def bT (f:bm.den) (d:Int):Int×Int:=if dX d=1 then (0,0) else gN (eo f (1,dX d,())).1 (eo f (1,dX d,())).2
def fP:Pc:=⟨[.d bm,.d i64],[i64],λx=>((bT x.1 x.2.1).1,()),λx=>!((bT x.1 x.2.1).2==0),λx=>⟨47,.i64,(bT x.1 x.2.1).2⟩,λ_=>[]⟩
def za3 (f:bm.den) (s:cn.den):(eo f s).1<=4000000000000000000:=by
 unfold eo;split
 ·rename_i h;obtain⟨_,_,_,hval⟩:=Kz h.1;have hs:=nc.1 h.2;have hok:=Da hval hs.2.2 f.1 s.1 hs.1 hs.2.1;cases hq:em (eL f s.2.1 f.1 s.1) (0,0) with
  |none=>show(0:Int)<=_; decide
  |some q=>
   obtain⟨j1,j2,j3,j4⟩:=Lk hok ⟨by decide,by decide,by decide,by decide⟩ hq;show q.1<=_;omega
 ·show(0:Int)<=_; decide
def qlg {s e:Int} (hs:s<=4000000000000000000):(BX s e).ok/\(BX s e).get=if (gN s e).2=0 then Oc.ok ((gN s e).1,()) else Oc.pan ⟨47,.i64,(gN s e).2⟩:=by
 by_cases he:e=0
 ·subst he;have hneed:0<=s->(0:Int)<=1->s*1<18446744073709551616:=λ_ _=>by omega
  by_cases h2:(cP s 1 365).2=0
  ·have hU:gN s 0=((cP s 1 365).1,0):=by
    unfold gN;rw[if_neg (λh=>h rfl),if_neg (λh=>h h2)]
   have hb:eF.bad ((qv.f (s,1,365,())).2.1,())=false:=by
    show(!((cP s 1 365).2==0))=false;rw[h2];rfl
   rw[hU];refine⟨⟨λhc=>(by cases hc),λ_=>⟨hneed,λ_=>uT,λ_=>uT⟩⟩,?_⟩;show(if eF.bad ((qv.f (s,1,365,())).2.1,())=true then _ else Oc.ok ((cP s 1 365).1,()))=_;rw[hb];rfl
  ·have hU:gN s 0=(0,(cP s 1 365).2):=by
    unfold gN;rw[if_neg (λh=>h rfl),if_pos h2]
   have hb:eF.bad ((qv.f (s,1,365,())).2.1,())=true:=by
    show(!((cP s 1 365).2==0))=true;simp[h2]
   rw[hU];refine⟨⟨λhc=>(by cases hc),λ_=>⟨hneed,λ_=>uT,λ_=>uT⟩⟩,?_⟩;show(if eF.bad ((qv.f (s,1,365,())).2.1,())=true then Oc.pan ⟨47,.i64,(cP s 1 365).2⟩ else _)=_;rw[hb,if_pos rfl];exact(if_neg h2).symm
 ·have hU:gN s e=(0,e):=by
   unfold gN;rw[if_pos he]
  have hb:eF.bad (e,())=true:=by
   show(!(e==0))=true;simp[he]
  rw[hU];refine⟨⟨λ_=>uT,λhc=>(by rw[hb] at hc; cases hc)⟩,?_⟩;show(if eF.bad (e,())=true then Oc.pan ⟨47,.i64,e⟩ else _)=_;rw[hb,if_pos rfl];exact(if_neg he).symm
def Wu:jz prog 131 fP:=
 OP zcw _ _ _ _ λw F xs vs hr _=>by
  obtain⟨f,d,_⟩:=xs;have key:(mZ (f,d,())).ok/\(mZ (f,d,())).get=if (bT f d).2=0 then Oc.ok ((bT f d).1,()) else Oc.pan ⟨47,.i64,(bT f d).2⟩:=by
   unfold bT;by_cases hd:dX d=1
   ·rw[if_pos hd];have hb:(dX d==1)=true:=by simpa using hd
    refine⟨⟨λ_=>uT,λhc=>(by rw[hb] at hc; cases hc)⟩,?_⟩;show(if (dX d==1)=true then Oc.ok (0,()) else _)=_;rw[hb];rfl
   ·rw[if_neg hd];have hb:(dX d==1)=false:=by simpa using hd
    have h2:=qlg (e:=(eo f (1,dX d,())).2) (za3 f (1,dX d,()));refine⟨⟨λhc=>(by rw[hb] at hc; cases hc),λ_=>h2.1⟩,?_⟩;show(if (dX d==1)=true then _ else (BX (eo f (1,dX d,())).1 (eo f (1,dX d,())).2).get)=_;rw[hb,if_neg (by decide),h2.2]
  refine⟨key.1,?_,?_,?_⟩
  ·show(mZ (f,d,())).get.bad = !((bT f d).2==0);rw[key.2];by_cases h:(bT f d).2=0
   ·rw[if_pos h,h];rfl
   ·rw[if_neg h];have:((bT f d).2==0)=false:=by simpa using h
    rw[this];rfl
  ·intro hb;have hb':=hb;have h:(bT f d).2=0:=by simpa using hb'
   show(mZ (f,d,())).get.val=((bT f d).1,());rw[key.2,if_pos h];rfl
  ·intro hb;have hb':=hb;have h:¬ (bT f d).2=0:=by simpa using hb'
   show(mZ (f,d,())).get.pv=_;rw[key.2,if_neg h];rfl
def qz1 {old:Value} (h:w.heap[b]? = some (.cells #[old] ty (0,0))):w.setCell ⟨b,0,none⟩ v=w.setRow b #[v]:=by
 unfold World.setCell World.setRow;congr 1;apply ucg;intro i;simp only[Array.getElem?_modify];by_cases hi:b=i
 ·subst hi;rw[h];simp
 ·simp[hi]
def VZ:TolOK prog 130 47 .i64:=by
 refine⟨enters (fn:=f130) (by kernel_rfl) rfl rfl,λp w=>?_,λb ty old n w hb=>?_⟩
 ·refine callsD_of_wpS func130 rfl λc₀ cs hu=>?_;simp only[ntmps130,uco,uc6,udh,Nat.reduceAdd,Nat.reduceSub,ubl,ubm,ucw,ubv,udi,uc1];apply wpS_seq;apply wpS_region;simp[wpOpsS,go_sem,recoverD,hu,Exit.thenS];refine wpS_of_wp ?_
  go_wp2
  cases c₀
  simp_all[bodyPostS,results,results130]
 ·have hc:w.cell? ⟨b,0,none⟩=some old:=aO hb 0;have hz:w.frozen? ⟨b,0,none⟩=false:=by simp[World.frozen?,hb]
  have hta:∀ w,(Instr.typeAssert (.iface 47 (.int .i64 n)) 20 47 true).run prog w = .ok (.tuple #[.int .i64 n,.bool true]) w:=λ_=>by kernel_rfl
  refine callsD_of_wpS func130 rfl λc₀ cs hu=>?_;simp only[ntmps130,uco,uc6,udh,Nat.reduceAdd,Nat.reduceSub,ubl,ubm,ucw,ubv,udi,uc1];apply wpS_seq;apply wpS_region;simp[wpOpsS,go_sem,recoverD,hu,Exit.thenS];refine wpS_of_wp ?_
  go_wp2
  simp[bodyPostS,results,results130,qz1 hb]
def H8:(0:Int)<=0/\(0:Int)<=6:=by decide
def H9:(0:Int)<=1/\(1:Int)<=6:=by decide
def Ey:(0:Int)<=0/\(0:Int)<=4000000000000000000:=by decide
def PD:(0:Int)<=5/\(5:Int)<=6:=by decide
def qg0 (a b c:Int):0<=(cP a b c).2/\(cP a b c).2<=6:=by
 unfold cP;split
 ·exact⟨by decide,by decide⟩
 ·split
  ·exact⟨by decide,by decide⟩
  ·split
   ·exact PD
   ·exact H8
def PL (a b c:Int) (hc:0<c):0<=(cP a b c).1/\(cP a b c).1<=4000000000000000000:=by
 unfold cP;split
 ·exact⟨by decide,by decide⟩
 ·rename_i h;split
  ·exact⟨by decide,by decide⟩
  ·split
   ·exact⟨by decide,by decide⟩
   ·have hab:0<=a*b:=ud7 (by omega) (by omega);have hq:0<=a*b/c:=udg hab (by omega);have:0<=jF (a*b) c:=by
     unfold jF;split<;>omega
    exact⟨this,by show jF (a*b) c<=_; omega⟩
def za2 (f:bm.den) (s:cn.den):0<=(eo f s).2/\(eo f s).2<=6:=by
 unfold eo;split
 ·cases em (eL f s.2.1 f.1 s.1) (0,0)
  ·exact PD
  ·exact H8
 ·exact⟨by decide,by decide⟩
def L8 (f:bm.den) (d:Int):0<=(bT f d).2/\(bT f d).2<=6:=by
 unfold bT;split
 ·exact⟨by decide,by decide⟩
 ·unfold gN;split
  ·exact za2 _ _
  ·split
   ·exact qg0 _ _ _
   ·exact H8
def L9 (f:bm.den) (d:Int):0<=(bT f d).1/\(bT f d).1<=4000000000000000000:=by
 unfold bT;split
 ·exact Ey
 ·unfold gN;split
  ·exact Ey
  ·split
   ·exact Ey
   ·exact PL _ _ _ (by decide)
def zcu (f:bm.den) (d:Int) (h:(bT f d).2≠0):(bT f d).1=0:=by
 unfold bT at *;split at h
 ·exact absurd rfl h
 ·rename_i hd;rw[if_neg hd];unfold gN at *;split at h
  ·rename_i he;rw[if_pos he]
  ·rename_i he;rw[if_neg he];split at h
   ·rename_i h2;rw[if_pos h2]
   ·exact absurd rfl h
def tS {n:Int} (h:0<=n/\n<=6):inR .i64 n:=by
 constructor
 ·show(-9223372036854775808:Int)<=n;omega
 ·show n<=(9223372036854775807:Int);omega
noncomputable def CP:Cx:=cx [] [(132,dW),(131,fP)]
def XK:CxOK prog CP:=aP aG trivial ⟨Pf,Wu,uT⟩
def dS (l:List aB.den) (d:Int):Int×Int:=if (iG l).isNone=true then (0,1) else bT (cy l) d
def mE:Ct:=⟨[.d zel,.d i64],[i64,i64],λx=>((dS x.1 x.2.1).1,(dS x.1 x.2.1).2,()),λ_=>[]⟩
def qlh (x:ag [.d zel,.d i64]):Fr (aa [i64,i64]):=
 let b:=dW.pv (x.1,());let a:=((dW.f (x.1,())).1,x.2.1,());Jb (dW.bad (x.1,())) (Jd (inR .i64 b.n) (Jv (0,b.n,())))
  (Jb (fP.bad a)
   (Jd (inR .i64 (fP.pv a).n) (Jv (0,(fP.pv a).n,())))
   (Jv ((fP.f a).1,0,())))
def N4:af prog 78 mE:=
 conv (qfa XK (Λ:=bw) (fn:=f78) (fr:=qlh) (ps:=[.d zel,.d i64]) (rs:=[i64,i64]) ([],0,()) (by kernel_rfl) VZ (λc E _=>aY c 0) (λx=>by kernel_rfl)) _ _ λw F xs vs hr _=>by
  obtain⟨l,d,_⟩:=xs;by_cases hc:(iG l).isNone=true
  ·have hb:dW.bad (l,())=true:=hc;refine⟨⟨λ_=>⟨tS H9,uT⟩,λh=>(by have h':dW.bad (l,())=false:=h; rw[hb] at h'; cases h')⟩,?_⟩;show(if dW.bad (l,())=true then ((0:Int),(1:Int),()) else _)=((dS l d).1,(dS l d).2,());unfold dS;rw[hb,if_pos rfl,if_pos hc]
  ·have hb:dW.bad (l,())=false:=(by show(iG l).isNone=false; exact ucx.2 hc);have hU:dS l d=bT (cy l) d:=if_neg hc;refine⟨⟨λh=>(by have h':dW.bad (l,())=true:=h; rw[hb] at h'; cases h'),λ_=>⟨λ_=>⟨tS (L8 _ _),uT⟩,λ_=>uT⟩⟩,?_⟩;show(if dW.bad (l,())=true then _ else if (!((bT (cy l) d).2==0))=true then ((0:Int),(bT (cy l) d).2,()) else ((bT (cy l) d).1,0,()))=((dS l d).1,(dS l d).2,());rw[hb,if_neg (by decide),hU];by_cases h2:(bT (cy l) d).2=0
   ·rw[if_neg (by simp[h2]),h2]
   ·rw[if_pos (by simp[h2]),zcu _ _ h2]
def AH:Ct:=⟨[.d zel],[i64,i64],λx=>((dS x.1 292195).1,(dS x.1 292195).2,()),λ_=>[]⟩
def ZP:af prog 66 AH:=
 flat (ps:=[.d zel]) (rs:=[i64,i64]) (aP (cs:=[(78,mE)]) (ps:=[]) aG ⟨N4,uT⟩ trivial) (fn:=f66) (fr:=λx=>Jv ((mE.f (x.1,292195,())).1,(mE.f (x.1,292195,())).2.1,())) ([],()) (by kernel_rfl) (λx=>by kernel_rfl) _ _
  (λ_ _ x _ _ _=>⟨uT,rfl⟩)
def dg (f:bm.den):Int->Nat->Int
 |_,0=>0
 |a,n+1=>dz f a+dg f (a+1) n
def Px (f:bm.den):(m n:Nat)->(a:Int)->dg f a (m+n)=dg f a m+dg f (a+m) n
 |0,n,a=>by simp[dg]
 |m+1,n,a=>by
  have h:=Px f m n (a+1);rw[show m+1+n=(m+n)+1 by omega];simp only[dg];rw[h];have:a+1+(m:Int)=a+((m+1:Nat):Int):=by omega
  rw[this];omega
def H2 {f:bm.den} (h:∀ d,0<=dz f d):(n:Nat)->(a:Int)->0<=dg f a n
 |0,a=>ue5 _
 |n+1,a=>by
  have:=H2 h n (a+1);have:=h a;simp only[dg];omega
def H1 {f:bm.den} {v:Int}:(n:Nat)->(a:Int)->(∀ d,a<=d->d<a+n->dz f d=v)->dg f a n=n*v
 |0,a,_=>by simp[dg]
 |n+1,a,h=>by
  simp only[dg];rw[h a (by omega) (by omega),H1 n (a+1) (λd h1 h2=>h d (by omega) (by omega))]
  grind
def qdz {d:Int} (had:a<=d) (h:∀ x∈l,x<=a\/d<x):tH l d=tH l a:=by
 unfold tH;apply List.countP_congr;intro x hx;have:=h x hx;simp only[ucs];omega
def Ww {f:bm.den} {d:Int} (had:a<=d) (h:∀ x∈f.1,x<=a\/d<x):dz f d=dz f a:=by
 unfold dz;rw[qdz had h]
def zcx {f:bm.den} (h:∀ y∈f.2.1,0<=y) (d:Int):0<=dz f d:=by
 unfold dz;split
 ·exact ue5 _
 ·rename_i k _;rw[uah];cases hk:f.2.1[k]? with
  |none=>simp
  |some y=>
   have:=h y (ube hk);simpa using this
def V8 {s t b v:Int} (hv:0<=v) (hab:a<b) (ht:t<=4000000000000000000) :
  js (s,t) (a,b,v)=if t+(b-a)*v<=4000000000000000000 then some (s+(b-a)*v,t+(b-a)*v) else none:=by
 have hm:max v (-v)=v:=by omega
 unfold js;simp only[hm];have hiff:v>(4000000000000000000-t)/(b-a)↔¬ t+(b-a)*v<=4000000000000000000:=by
  have:=Int.le_ediv_iff_mul_le (a:=v) (b:=4000000000000000000-t) (c:=b-a) (by omega);rw[uew v] at this;omega
 by_cases h:t+(b-a)*v<=4000000000000000000
 ·rw[if_neg (by rw[hiff]; exact λhc=>hc h),if_pos h]
 ·rw[if_pos (hiff.2 h),if_neg h]
def Lj {f:bm.den} (hv:∀ d,0<=dz f d) {e:Int}:(l:List Int)->(a s t:Int)->l.Pairwise (· < ·)->(∀ x∈f.1,x<=a\/e<=x\/x∈l)->a<e->t<=4000000000000000000 ->
  em (eL f e l a) (s,t)=if t+dg f a (e-a).toNat<=4000000000000000000 then some (s+dg f a (e-a).toNat,t+dg f a (e-a).toNat) else none
 |[],a,s,t,_,hc,hae,ht=>by
  have hd:dg f a (e-a).toNat=(e-a)*dz f a:=by
   rw[H1 (e-a).toNat a (λd h1 h2=>Ww h1 (λx hx=>by
    rcases hc x hx with h|h|h
    ·exact .inl h
    ·exact .inr (by omega)
    ·cases h))]
   congr 1;omega
  rw[hd];simp only[eL,em];rw[V8 (hv a) hae ht];split<;>rfl
 |d::l,a,s,t,hp,hc,hae,ht=>by
  obtain⟨hp1,hp2⟩:=ub8.1 hp;unfold eL;split
  ·rename_i hsk;refine Lj hv l a s t hp2 (λx hx=>?_) hae ht;rcases hc x hx with h|h|h
   ·exact .inl h
   ·exact .inr (.inl h)
   ·rcases uee.1 h with rfl|h
    ·rcases hsk with h|h
     ·exact .inl h
     ·exact .inr (.inl h)
    ·exact .inr (.inr h)
  ·rename_i hsk;have hda:a<d:=by omega
   have hde:d<e:=by omega
   have hd:dg f a (d-a).toNat=(d-a)*dz f a:=by
    rw[H1 (d-a).toNat a (λd' h1 h2=>Ww h1 (λx hx=>by
     rcases hc x hx with h|h|h
     ·exact .inl h
     ·exact .inr (by omega)
     ·rcases uee.1 h with rfl|h
      ·exact .inr (by omega)
      ·have:=hp1 x h;exact .inr (by omega)))]
    congr 1;omega
   have hsplit:dg f a (e-a).toNat=dg f a (d-a).toNat+dg f d (e-d).toNat:=by
    rw[show(e-a).toNat=(d-a).toNat+(e-d).toNat by omega,Px];congr 2;omega
   have hnn:=H2 hv (e-d).toNat d;simp only[em];rw[V8 (hv a) hda ht,<- hd];by_cases h1:t+dg f a (d-a).toNat<=4000000000000000000
   ·rw[if_pos h1];show em (eL f e l d) _=_;have hc':∀ x∈f.1,x<=d\/e<=x\/x∈l:=λx hx=>by
     rcases hc x hx with h|h|h
     ·exact .inl (uez h (uep hda))
     ·exact .inr (.inl h)
     ·rcases uee.1 h with rfl|h
      ·exact .inl (ue5 _)
      ·exact .inr (.inr h)
    rw[Lj hv l d _ _ hp2 hc' hde h1];rw[hsplit,Int.add_assoc,Int.add_assoc]
   ·have hno:¬ t+dg f a (e-a).toNat<=4000000000000000000:=by
     rw[hsplit];clear hd hsplit;generalize dg f a (d-a).toNat=A at *;generalize dg f d (e-d).toNat=B at *;omega
    rw[if_neg h1,if_neg hno];rfl
structure Pos (f:bm.den):Prop where
 right:jU f=true
 pos:∀ y∈f.2.1,0<=y
def Pos.val {f:bm.den} (h:Pos f) (d:Int):0<=dz f d:=zcx h.pos d
def za1 {f:bm.den} (h:Pos f) {e:Int} (ha:1<=a) (hae:a<e) (he:e<=292195) :
  eo f (a,e,())=if dg f a (e-a).toNat<=4000000000000000000 then (dg f a (e-a).toNat,0) else (0,5):=by
 obtain⟨h1,h2,h3,h4⟩:=Kz h.right;have hsum:=Lj h.val (e:=e) f.1 a 0 0 h2 (λx hx=>.inr (.inr hx)) hae (by decide);simp only[Int.zero_add] at hsum;unfold eo;rw[if_pos ⟨h.right,nc.2 ⟨ha,hae,he⟩⟩,hsum];by_cases hc:dg f a (e-a).toNat<=4000000000000000000
 ·rw[if_pos hc,if_pos hc]
 ·rw[if_neg hc,if_neg hc]
def Sd (f:bm.den) (d:Int):Int:=dg f 1 (dX d-1).toNat
def qg1 {p:Int} (h:0<=p):jF p 365=(p+182)/365:=by
 unfold jF;split<;>omega
def qgy {p:Int} (h:0<=p) (h2:p<=4000000000000000000):cP p 1 365=((p+182)/365,0):=by
 unfold cP;rw[Int.mul_one,qg1 h,if_neg (by omega),if_neg (by decide),if_neg (by omega)]
def zcv {f:bm.den} (h:Pos f) (d:Int):bT f d=if Sd f d<=4000000000000000000 then ((Sd f d+182)/365,0) else (0,5):=by
 have hb:=qdm d;have hnn:=H2 h.val (dX d-1).toNat 1;unfold bT;by_cases hd:dX d=1
 ·rw[if_pos hd];have:Sd f d=0:=by
   unfold Sd;rw[hd];rfl
  rw[this,if_pos (by decide)];rfl
 ·rw[if_neg hd,za1 h (by decide) (by omega) hb.2];show gN _ _=_;unfold Sd;by_cases hc:dg f 1 (dX d-1).toNat<=4000000000000000000
  ·rw[if_pos hc,if_pos hc];show gN (dg f 1 (dX d-1).toNat) 0=_;unfold gN;rw[if_neg (λh=>h rfl),qgy hnn hc,if_neg (λh=>h rfl)]
  ·rw[if_neg hc,if_neg hc];rfl
def K0 {d v:Int}:{l r:List Int}->(d0 v0:Int)->l.length=r.length ->
  ga (l++[d]) (r++[v]) d0 v0=(ga l r d0 v0&&(decide (l.getLast?.getD d0<d)&&(decide (d<=292194)&&(!(v==r.getLast?.getD v0)&&iQ v))))
 |[],[],d0,v0,_=>by
  show(_&&true)=(true&&_);rw[uei,ueh];rfl
 |[],_::_,_,_,h=>by simp at h
 |_::_,[],_,_,h=>by simp at h
 |a::l,b::r,d0,v0,h=>by
  have ih:=K0 (d:=d) (v:=v) a b (by simpa using h);simp only[uc1,ga];rw[ih];have e1:(a::l).getLast?.getD d0=l.getLast?.getD a:=by
   rw[List.getLast?_cons];rfl
  have e2:(b::r).getLast?.getD v0=r.getLast?.getD b:=by
   rw[List.getLast?_cons];rfl
  rw[e1,e2];simp only[ud8]
structure Good (p:List Int×List Int) (m:Int):Prop where
 len:p.1.length=p.2.length
 up:ga p.1 p.2 0 0=true
 le:p.1.getLast?.getD 0<=m
 pos:∀ y∈p.2,0<=y
def QN (h:l.getLast? = some x):l=l.dropLast++[x]:=by
 cases l with
 |nil=>simp at h
 |cons a l=>
  injection h with h
  rw[<- h];exact(List.dropLast_concat_getLast (by simp)).symm
def Good.pop {p:List Int×List Int} {m:Int} (h:Good p m) (hl:p.1.getLast? = some day):Good (p.1.dropLast,p.2.dropLast) (day-1)/\day<=m:=by
 obtain⟨at_,val⟩:=p;obtain⟨h1,h2,h3,h4⟩:=h;have e1:=QN hl;cases hv:val.getLast? with
 |none=>
  have:val=[]:=by simpa using hv
  subst this;rw[e1] at h1;simp at h1
 |some y=>
  have e2:=QN hv;have hlen:at_.dropLast.length=val.dropLast.length:=by simp[h1]
  rw[e1,e2,K0 0 0 hlen] at h2;simp at h2;refine⟨⟨hlen,h2.1,?_,λz hz=>h4 z ?_⟩,?_⟩
  ·have:=h2.2.1;show at_.dropLast.getLast?.getD 0<=day-1;omega
  ·rw[e2];exact ubi _ hz
  ·rw[hl] at h3;exact h3
def Good.push {p:List Int×List Int} {m v:Int} (h:Good p m) (hd:m<day) (hday:day<=292194) (hv:0<=v/\v<=4000000000000000000) (hne:v≠p.2.getLast?.getD 0):Good (p.1++[day],p.2++[v]) day:=by
 obtain⟨h1,h2,h3,h4⟩:=h;refine⟨by simp[h1],?_,by simp,λz hz=>?_⟩
 ·show ga (p.1++[day]) (p.2++[v]) 0 0=true;rw[K0 0 0 h1,h2];have hm:iQ v=true:=SU.2 (by omega);have hb:(v==p.2.getLast?.getD 0)=false:=by simpa using hne
  have hlt:p.1.getLast?.getD 0<day:=by omega
  simp[hm,hb,hlt,hday]
 ·rcases udo.1 hz with hz|hz
  ·exact h4 z hz
  ·simp at hz;subst hz;exact hv.1
def Good.mono {p:List Int×List Int} {m m':Int} (h:Good p m) (hm:m<=m'):Good p m':=⟨h.len,h.up,uez h.le hm,h.pos⟩
def Good.add {p:List Int×List Int} {m v:Int} (h:Good p m) (hd:m<=day) (h1:1<=day) (hv:0<=v/\v<=4000000000000000000):Good (fK p day v) day:=by
 unfold fK;by_cases hl:p.1.getLast? = some day
 ·have hp:=(h.pop hl).1;simp only[hl,if_true];split
  ·rename_i hc;exact hp.push (by omega) hc.2 hv hc.1
  ·exact hp.mono (by omega)
 ·simp only[hl,ufl];have hlt:p.1.getLast?.getD 0<=day-1:=by
   have hle:=h.le;cases hx:p.1.getLast? with
   |none=>show(0:Int)<=_; omega
   |some x=>
    rw[hx] at hle hl;have hne:x≠day:=λhe=>hl (by rw[he]);have hle':x<=m:=hle;show x<=_;omega
  have hg:Good p (day-1):=⟨h.len,h.up,hlt,h.pos⟩;split
  ·rename_i hc;exact hg.push (by omega) hc.2 hv hc.1
  ·exact hg.mono (by omega)
def QL {s:aB.den} {e:Int}:ne s e=true↔e<=s.1.1/\s.1.1<s.1.2.1/\s.1.2.1<=292195/\0<=s.2.2.2.2.1/\s.2.2.2.2.1<=4000000000000000000:=by
 simp[ne]
def Good.addS {p:List Int×List Int} {s:aB.den} {e:Int} (h:Good p e) (he:1<=e) (hs:ne s e=true):Good (addS p s) s.1.2.1:=by
 obtain⟨h1,h2,h3,h4,h5⟩:=QL.1 hs;have hf:1<=s.1.1:=uez he h1;have ht:1<=s.1.2.1:=uez hf (uep h2);exact(h.add h1 hf ⟨h4,h5⟩).add (uep h2) ht (by decide)
def qI:List aB.den->Int->List Int×List Int->Option (Int×(List Int×List Int))
 |[],e,p=>some (e,p)
 |s::l,e,p=>if ne s e=true then qI l s.1.2.1 (addS p s) else none
def Pe:(l:List aB.den)->(e:Int)->(p:List Int×List Int)->gX l e p=(qI l e p).map (·.2)
 |[],_,_=>rfl
 |s::l,e,p=>by
  simp only[gX,qI];split
  ·exact Pe l _ _
  ·rfl
def Pd:{l:List aB.den} -> {e:Int} -> {p:List Int×List Int} -> {q:Int×(List Int×List Int)}->Good p e->1<=e->qI l e p=some q->Good q.2 q.1/\1<=q.1
 |[],e,p,q,h,he,hq=>by
  simp only[qI,ucj] at hq;subst hq;exact⟨h,he⟩
 |s::l,e,p,q,h,he,hq=>by
  simp only[qI] at hq;split at hq
  ·rename_i hs;obtain⟨h1,h2,_⟩:=QL.1 hs;have ht:=uez (uez he h1) (uep h2);exact Pd (h.addS he hs) ht hq
  ·cases hq
def qms:Good ([],[]) 1:=⟨rfl,rfl,by show(0:Int)<=1; decide,by simp⟩
def qex {l:List aB.den} (h:(iG l).isNone=false):Pos (cy l):=by
 unfold cy;unfold iG at *;split at h
 ·rename_i hl;rw[if_pos hl];rw[Pe] at h |-;cases hq:qI l 1 ([],[]) with
  |none=>rw[hq] at h; cases h
  |some q=>
   have hg:=(Pd qms (by decide) hq).1;show Pos (q.2.1,q.2.2,());refine⟨?_,hg.pos⟩;simp only[jU,hg.up,uei,ucs];exact hg.len
 ·cases h
noncomputable def Xa:Cx:=cx [(82,jb)] []
def EF:CxOK prog Xa:=aP aG ⟨Ky,uT⟩ trivial
def IA (x:ag [.d dG]):Fr (aa [.bool]):=
 let a:=x.1.2;Jv (bif bif bif bif bif bif decide (x.1.1>=0) then decide (x.1.1<4) else false then bif decide (a.1>=1) then decide (a.1<=1000000000000000) else false else false then decide (a.2.1>=0) else false then decide (a.2.1<=200) else false then decide (a.2.2.1>=0) else false then decide (a.2.2.1<100) else false,())
def qlz:af prog 86 (bg [.d dG] [.bool] IA):=
 aS EF f86
def I8 (x:ag [.d i64]):Fr (aa [.bool]):=
 Jv (bif decide (x.1>=1) then decide (x.1<=292194) else false,())
def qlm:af prog 90 (bg [.d i64] [.bool] I8):=
 aS EF f90
def QF (x:ag [.d cn]):Fr (aa [cn]):=
 Jb (bif !(jb.f ((x.1.1,x.1.2.1,()),())).1 then true else x.1.1==x.1.2.1) (Jv ((0,0,()),())) (Jv ((x.1.1,x.1.2.1,()),()))
def qls:af prog 136 (bg [.d cn] [cn] QF):=
 aS EF f136
def n8 (k v a z:Int):Bool:=decide (0<=k/\k<4/\1<=v/\v<=1000000000000000/\0<=a/\a<=200/\0<=z/\z<100)
def oy:Ct:=⟨[.d dG],[.bool],λx=>(n8 x.1.1 x.1.2.1 x.1.2.2.1 x.1.2.2.2.1,()),λ_=>[]⟩
def K2:af prog 86 oy:=
 conv qlz _ _ (λ_ _ x _ _ _=>by
  obtain⟨⟨k,v,a,z,_⟩,_⟩:=x;refine⟨by simp[av,Fr.ok,IA],?_⟩;dsimp only[IA,Fr.get,n8,Ty.den,PT.den];simp only[ubw,uba];congr 1;rw[udt];simp only[uc9,udp,ucs];omega)
def o7 (p l g d s:Int):Bool:=decide (0<=p/\p<8/\1<=s/\s<=10000/\0<=d/\d<l/\l<=g/\g<=1000000000000000)
def j6:Ct:=⟨[.d ak],[.bool],λx=>(o7 x.1.1 x.1.2.1 x.1.2.2.1 x.1.2.2.2.1 x.1.2.2.2.2.1,()),λ_=>[]⟩
def g8 (d:Int):Bool:=decide (1<=d/\d<=292194)
def tl:Ct:=⟨[.d i64],[.bool],λx=>(g8 x.1,()),λ_=>[]⟩
def Pk:af prog 90 tl:=
 conv qlm _ _ (λ_ _ x _ _ _=>by
  obtain⟨d,_⟩:=x;refine⟨by simp[av,Fr.ok,I8],?_⟩;dsimp only[I8,Fr.get,g8,Ty.den,PT.den];simp only[uba];congr 1;rw[udt];simp only[uc9,ucs,ge_iff_le])
def gr (a b d:Int):Bool:=decide (1<=a/\b<=292195/\a<=d/\d<b)
def fM:Ct:=⟨[.d cn,.d i64],[.bool],λx=>(gr x.1.1 x.1.2.1 x.2.1,()),λ_=>[]⟩
def rn (s:cn.den):cn.den:=if dN s=true then s else (0,0,())
def tu:Ct:=⟨[.d cn],[cn],λx=>(rn x.1,()),λ_=>[]⟩
def qo2 (a b:Int):((¬a>=1\/¬a<=b\/¬b<=292195)\/a=b)↔(¬a>=1\/¬a<b\/¬b<=292195):=by omega
def qoz (a b:Int):(bif !(jT (a,b,())) then true else a==b) = !(dN (a,b,())):=by
 dsimp only[jT,dN,Ty.den,PT.den];simp only[ubw];rw[udt];simp only[uc9,udp,uct,Bool.and_eq_false_iff,ucs,uau,ufc];exact qo2 a b
def qo1:af prog 136 tu:=
 conv qls _ _ (λ_ _ x _ _ _=>by
  obtain⟨⟨a,b,_⟩,_⟩:=x;refine⟨by simp[av,Fr.ok,QF],?_⟩;show(if (bif !(jT (a,b,())) then true else a==b)=true then (((0,0,()),()):cn.den×Unit) else ((a,b,()),()))=(if dN (a,b,())=true then (a,b,()) else (0,0,()),());rw[qoz];cases dN (a,b,())<;>rfl)
noncomputable def Xb:Cx:=cx [(136,tu)] []
def LR:CxOK prog Xb:=aP aG ⟨qo1,uT⟩ trivial
abbrev aV (T:Ty):PT:=.pf [T,T] [i64]
def aM {T:Ty} (g:(aV T).den) (x y:T.den):Bool:=decide ((g.1 (x,y,())).1<0)
def jv {T:Ty} (g:(aV T).den) (l:List T.den):Prop:=∀ x∈l,∀ y∈l,g.2 (x,y,())
def jv.sub {T:Ty} {g:(aV T).den} {l s:List T.den} (h:jv g l) (hs:∀ x∈s,x∈l):jv g s:=λx hx y hy=>h x (hs x hx) y (hs y hy)
def qna (h:i+j<=9223372036854775807):I6.wrap ((IntKind.u64.wrap (I6.wrap ((i:Int)+j))).fdiv (2 ^ min (Int.toNat 1) IntKind.u64.bits))=((i+j)/2:Nat):=by
 have h1:I6.wrap ((i:Int)+j)=(i:Int)+j:=IntWalk.i64_in _ (by omega);have h2:IntKind.u64.wrap ((i:Int)+j)=(i:Int)+j:=IntWalk.u64_in _ (by omega);have h3:(2:Int) ^ min (Int.toNat 1) IntKind.u64.bits=2:=by decide
 rw[h1,h2,h3,uag _ (by decide),IntWalk.i64_in _ (by omega)];omega
def Fo (h:i+j<=9223372036854775807):I6.wrap ((i:Int)+j)=(i+j:Nat):=by
 rw[IntWalk.i64_in _ (by omega)];omega
def zv (h:i+1<=9223372036854775807):I6.wrap ((i:Int)+1)=(i+1:Nat):=by
 rw[IntWalk.i64_in _ (by omega)];omega
def zu (h:j<=i) (h2:i<=9223372036854775807):I6.wrap ((i:Int)-j)=(i-j:Nat):=by
 rw[IntWalk.i64_in _ (by omega)];omega
def Uk (h:1<=i) (h2:i<=9223372036854775807):I6.wrap ((i:Int)-1)=(i-1:Nat):=by
 rw[IntWalk.i64_in _ (by omega)];omega
def ka {T:Ty} {l:List T.den}:(fx l T.dflt i j).length=l.length:=by simp[fx]
def VA {T:Ty} {l:List T.den} (hi:i<l.length) (hj:j<l.length) {x:T.den} (h:x∈fx l T.dflt i j):x∈l:=by
 unfold fx at h;have h1:l.getD i T.dflt∈l:=fo hi;have h2:l.getD j T.dflt∈l:=fo hj;rcases uao h with h|rfl
 ·rcases uao h with h|rfl
  ·exact h
  ·exact h2
 ·exact h1
abbrev eO (e:TypeId) (T:Ty):Pt:=⟨53,2,⟨[(1,.d i64),(2,.d i64),(3,(aV T)),(8,.d i64),(9,.d i64)],[.al 10000 0,.o 0 e T]⟩,⟨[(1,.d i64),(2,.d i64),(3,(aV T)),(8,.d i64)],[.al 10000 0,.o 0 e T]⟩,⟨[],[]⟩⟩
noncomputable def dB:Cx:=cx [] []
def aH:CxOK prog dB:=aP aG trivial trivial
def xI (e:TypeId) (T:Ty) (x:(eO e T).M.X):Fr (eO e T).Out:=
 let a:=x.1.1; let j:=x.1.2.2.2.2.1; let g:=x.1.2.2.1; let l:=x.2.1
 Jd (decide (j>a)=true->0<=j/\j<l.length)
  (Jd (decide (j>a)=true->j.toNat<l.length)
   (Jd (decide (j>a)=true->0<=I6.wrap (j-1)/\I6.wrap (j-1)<l.length)
    (Jd (decide (j>a)=true->(I6.wrap (j-1)).toNat<l.length)
     (Jd (decide (j>a)=true->g.2 (l.getD j.toNat T.dflt,l.getD (I6.wrap (j-1)).toNat T.dflt,()))
      (Jb (bif decide (j>a) then decide ((g.1 (l.getD j.toNat T.dflt,l.getD (I6.wrap (j-1)).toNat T.dflt,())).1<0) else false)
       (Jd (0<=I6.wrap (j-1)/\I6.wrap (j-1)<l.length)
        (Jd ((I6.wrap (j-1)).toNat<l.length)
         (Jd (0<=j/\j<l.length)
          (Jd (j.toNat<l.length)
           (Jd (0<=j/\j<l.length)
            (Jd (j.toNat<l.length)
             (Jd (0<=I6.wrap (j-1)/\I6.wrap (j-1)<(l.set j.toNat (l.getD (I6.wrap (j-1)).toNat T.dflt)).length)
              (Jd ((I6.wrap (j-1)).toNat<(l.set j.toNat (l.getD (I6.wrap (j-1)).toNat T.dflt)).length)
               (Jv (Rd.next ((a,x.1.2.1,(g.1,g.2),x.1.2.2.2.1,I6.wrap (j-1),()),
                ((l.set j.toNat (l.getD (I6.wrap (j-1)).toNat T.dflt)).set (I6.wrap (j-1)).toNat (l.getD j.toNat T.dflt),()))))))))))))
       (Jv (Rd.out ((a,x.1.2.1,(g.1,g.2),x.1.2.2.2.1,()),(l,())))))))))
structure InvInsI {T:Ty} (a j:Int) (g:(aV T).den) (l:List T.den):Prop where
 a0:0<=a
 aj:a<=j
 jl:j<l.length
 big:(l.length:Int)<=9223372036854775807
 dom:jv g l
def sG (e:TypeId) (T:Ty) (x:(eO e T).M.X):Fr (eO e T).Out:=
 Jd (InvInsI x.1.1 x.1.2.2.2.2.1 x.1.2.2.1 x.2.1) (Jv (Rd.out ((x.1.1,x.1.2.1,x.1.2.2.1,x.1.2.2.2.1,()),(fp (aM x.1.2.2.1) T.dflt x.1.1.toNat x.1.2.2.2.2.1.toNat x.2.1,()))))
def qpr {T:Ty} (a b i j:Int) (g:(aV T).den) (l:List T.den) (hinv:InvInsI a j g l) (Q:(eO e T).Out->Prop)
  (hq:Q (Rd.out ((a,b,g,i,()),(fp (aM g) T.dflt a.toNat j.toNat l,())))):((xI e T) ((a,b,g,i,j,()),(l,()))).satP λ
   |.next x'=>InvInsI x'.1.1 x'.1.2.2.2.2.1 x'.1.2.2.1 x'.2.1/\x'.1.2.2.2.2.1.toNat<j.toNat/\((sG e T) x').satP Q
   |.out y=>Q (.out y)
   |.back z=>Q (.back z)
   |.pan p=>Q (.pan p):=by
 obtain⟨h0,h1,h2,h3,h4⟩:=hinv;obtain⟨a',rfl⟩:∃ n:Nat,a=n:=⟨a.toNat,by omega⟩;obtain⟨j',rfl⟩:∃ n:Nat,j=n:=⟨j.toNat,by omega⟩;dsimp only[xI,Fr.satP,Ty.den,PT.den];by_cases hj:a'<j'
 ·obtain⟨k,rfl⟩:∃ k,j'=k+1:=⟨j'-1,by omega⟩;have hkl:k+1<l.length:=by omega
  have hw:I6.wrap (((k+1:Nat):Int)-1)=(k:Nat):=by rw[Uk (by omega) (by omega)]; rfl
  have hd:decide (((k+1:Nat):Int)>(a':Int))=true:=ud6 (by omega);have t1:((k+1:Nat):Int).toNat=k+1:=rfl;have t2:((k:Nat):Int).toNat=k:=rfl;rw[hw,hd,t1,t2];simp only[udk];refine⟨λ_=>⟨by omega,by omega⟩,λ_=>by omega,λ_=>⟨by omega,by omega⟩,λ_=>by omega,λ_=>h4 _ (fo hkl) _ (fo (by omega)),λhc=>?_,λhc=>?_⟩
  ·refine⟨⟨by omega,by omega⟩,by omega,⟨by omega,by omega⟩,by omega,⟨by omega,by omega⟩,by omega,⟨by omega,by omega⟩,by omega,?_⟩;have hI:InvInsI a' k g (fx l T.dflt (k+1) k):=⟨by omega,by omega,by rw[ka]; omega,by rw[ka]; omega,h4.sub λx hx=>VA hkl (by omega) hx⟩;refine⟨hI,by omega,hI,?_⟩;simp only[ucy,fp] at hq |-;rw[if_pos (by omega)] at hq;have hc':aM g (l.getD (k+1) T.dflt) (l.getD k T.dflt)=true:=hc;rw[hc'] at hq;exact hq
  ·simp only[ucy,fp] at hq;rw[if_pos (by omega)] at hq;have hc':aM g (l.getD (k+1) T.dflt) (l.getD k T.dflt)=false:=hc;rw[hc'] at hq;exact hq
 ·have hd:decide ((j':Int)>(a':Int))=false:=udr (by omega);rw[hd];refine⟨λh=>(by cases h),λh=>(by cases h),λh=>(by cases h),λh=>(by cases h),λh=>(by cases h),λhc=>(by cases hc),λ_=>?_⟩;have hx:fp (aM g) T.dflt a' j' l=l:=by
   cases j' with
   |zero=>rfl
   |succ k=>simp only[fp]; rw[if_neg (by omega)]
  simp only[ucy,hx] at hq;exact hq
def S5 {T:Ty} {c:Code} (sem:ae P c (eO e T).M (eO e T) (xI e T)):ae P (.loop c) (eO e T).M (eO e T) (sG e T):=by
 refine ae.loop (n:=53) (id:=2) sem (inv:=λx=>InvInsI x.1.1 x.1.2.2.2.2.1 x.1.2.2.1 x.2.1) (μ:=λx=>x.1.2.2.2.2.1.toNat) ?_ (λx Q h=>h.1);rintro⟨⟨a,b,g,i,j,_⟩,⟨l,_⟩⟩ hinv Q hq;exact qpr a b i j g l hinv Q hq.2
abbrev eP (e:TypeId) (T:Ty):Pt:=⟨53,0,⟨[(1,.d i64),(2,.d i64),(3,(aV T)),(8,.d i64)],[.al 10000 0,.o 0 e T]⟩,⟨[],[.al 10000 0,.o 0 e T]⟩,⟨[],[]⟩⟩
def xJ (e:TypeId) (T:Ty) (x:(eP e T).M.X):Fr (eP e T).Out:=
 let a:=x.1.1; let b:=x.1.2.1; let g:=x.1.2.2.1; let i:=x.1.2.2.2.1; let l:=x.2.1
 Jb (decide (i<b))
  (Jd (InvInsI a i (g.1,g.2) l) (Jv (Rd.next ((a,b,(g.1,g.2),I6.wrap (i+1),()),(fp (aM (g.1,g.2)) T.dflt a.toNat i.toNat l,())))))
  (Jv (Rd.out ((),(l,()))))
def RL {T:Ty} {lt:T.den->T.den->Bool} {a:Nat}:(j:Nat) -> {l:List T.den}->j<l.length->∀ x∈fp lt T.dflt a j l,x∈l
 |0,_,_,_,h=>h
 |j+1,l,hj,x,h=>by
  simp only[fp] at h;split at h
  ·cases hc:lt (l.getD (j+1) T.dflt) (l.getD j T.dflt) with
   |true=>
    rw[hc] at h;exact VA hj (by omega) (RL j (by rw[ka]; omega) x h)
   |false=>
    rw[hc] at h;exact h
  ·exact h
def IX {T:Ty} {lt:T.den->T.den->Bool} {a:Nat}:(j:Nat) -> {l:List T.den}->(fp lt T.dflt a j l).length=l.length
 |0,_=>rfl
 |j+1,l=>by
  simp only[fp];split
  ·cases lt (l.getD (j+1) T.dflt) (l.getD j T.dflt) with
   |true=>rw[cond_true,IX j,ka]
   |false=>rfl
  ·rfl
structure InvInsO {T:Ty} (a b i:Int) (g:(aV T).den) (l:List T.den):Prop where
 a0:0<=a
 ai:a<i
 bl:b<=l.length
 il:i<=9223372036854775807
 big:(l.length:Int)<=9223372036854775807
 dom:jv g l
def sH (e:TypeId) (T:Ty) (x:(eP e T).M.X):Fr (eP e T).Out:=
 Jd (InvInsO x.1.1 x.1.2.1 x.1.2.2.2.1 x.1.2.2.1 x.2.1) (Jv (Rd.out ((),(lI (aM x.1.2.2.1) T.dflt x.1.1.toNat (x.1.2.1-x.1.2.2.2.1).toNat x.1.2.2.2.1.toNat x.2.1,()))))
def qps {T:Ty} (a b i:Int) (g:(aV T).den) (l:List T.den) (hinv:InvInsO a b i g l) (Q:(eP e T).Out->Prop)
  (hq:Q (Rd.out ((),(lI (aM g) T.dflt a.toNat (b-i).toNat i.toNat l,())))):((xJ e T) ((a,b,g,i,()),(l,()))).satP λ
   |.next x'=>InvInsO x'.1.1 x'.1.2.1 x'.1.2.2.2.1 x'.1.2.2.1 x'.2.1/\(x'.1.2.1-x'.1.2.2.2.1).toNat<(b-i).toNat/\((sH e T) x').satP Q
   |.out y=>Q (.out y)
   |.back z=>Q (.back z)
   |.pan p=>Q (.pan p):=by
 obtain⟨h0,h1,h2,h3,h4,h5⟩:=hinv;dsimp only[xJ,Fr.satP,Ty.den,PT.den];refine⟨λhi=>?_,λhi=>?_⟩
 ·have hlt:=ucv hi;have hw:I6.wrap (i+1)=i+1:=IntWalk.i64_in _ (by omega);have hI:InvInsO a b (i+1) g (fp (aM g) T.dflt a.toNat i.toNat l):=⟨h0,by omega,by rw[IX]; exact h2,by omega,by rw[IX]; exact h4,h5.sub λx hx=>RL _ (by omega) x hx⟩;refine⟨⟨h0,by omega,by omega,h4,h5⟩,?_⟩;rw[hw];refine⟨hI,by omega,hI,?_⟩;have e1:(b-i).toNat=(b-(i+1)).toNat+1:=by omega
  have e2:(i+1).toNat=i.toNat+1:=by omega
  rw[e1] at hq;rw[e2];exact hq
 ·have hge:=ucf hi;have e1:(b-i).toNat=0:=by omega
  rw[e1] at hq;exact hq
def S6 {T:Ty} {c:Code} (sem:ae P c (eP e T).M (eP e T) (xJ e T)):ae P (.loop c) (eP e T).M (eP e T) (sH e T):=by
 refine ae.loop sem (μ:=λx=>(x.1.2.1-x.1.2.2.2.1).toNat) ?_ (λx Q h=>h.1);rintro⟨⟨a,b,g,i,_⟩,⟨l,_⟩⟩ hinv Q hq;exact qps a b i g l hinv Q hq.2
def gR {T:Ty} (g:(aV T).den) (l:List T.den):Prop:=jv g l/\∃ key:T.den->Int,dd (aM g) key l
def gR.sub {T:Ty} {g:(aV T).den} {l s:List T.den} (h:gR g l) (hs:∀ x∈s,x∈l):gR g s:=by
 obtain⟨h1,key,h2⟩:=h;exact⟨h1.sub hs,key,h2.sub hs⟩
noncomputable def kQ (e:TypeId) (T:Ty):Mt:=⟨e,T,[.d i64,.d i64,(aV T)],[],λl x=>(bA (aM x.2.2.1) x.1.toNat x.2.1.toNat l,()),λl x=>[0<=x.1,x.1<=x.2.1,x.2.1<=l.length,(l.length:Int)<=4611686018427387903,gR x.2.2.1 l]⟩
def xK (e:TypeId) (T:Ty) (l:List T.den) (x:ag [.d i64,.d i64,(aV T)]):Fr (List T.den×aa []):=
 let b:=(x.2.2.1.1,x.2.2.1.2);let a:=I6.wrap (x.1+1);Jd (InvInsO x.1 x.2.1 a b l)
  (Jv (lI (aM b) T.dflt x.1.toNat (x.2.1-I6.wrap (x.1+1)).toNat a.toNat l,()))
def RO {T:Ty} (l:List T.den) (xs:ag (kQ e T).ps) (hlen:l.length<=maxLen) (hok:av ((kQ e T).ok l xs)):av [((xK e T) l xs).ok]/\((xK e T) l xs).get=(kQ e T).f l xs:=by
 obtain⟨a,b,g,rfl⟩:∃ (a b:Int) (g:(aV T).den),xs=(a,b,g,()):=⟨xs.1,xs.2.1,xs.2.2.1,rfl⟩;have hok':(0:Int)<=a/\(a:Int)<=b/\(b:Int)<=(List.length (α:=T.den) l:Int)/\(List.length (α:=T.den) l:Int)<=4611686018427387903/\gR g l:=hok;obtain⟨h1,h2,h3,hlen,h4,key,h5⟩:=hok';have hw:I6.wrap (a+1)=a+1:=IntWalk.i64_in _ (by omega);dsimp only[xK,Fr.ok,Fr.get,Ty.den,PT.den];rw[hw];refine⟨⟨⟨h1,by omega,h3,by omega,by omega,h4⟩,uT⟩,?_⟩;have:=qn1 (key:=key) (lt:=aM g) (d:=T.dflt) (a:=a.toNat) (b:=b.toNat) (l:=l) (by omega) (by omega) h5;show(lI (aM g) T.dflt a.toNat (b-(a+1)).toNat (a+1).toNat l,())=(bA (aM g) a.toNat b.toNat l,());rw[<- this,show(b-(a+1)).toNat=b.toNat-(a.toNat+1) by omega,show(a+1).toNat=a.toNat+1 by omega]
abbrev eX (e:TypeId) (T:Ty):Pt:=⟨38,0,⟨[(1,.d i64),(2,.d i64),(3,.d i64),(10,.d i64)],[.al 10000 0,.o 0 e T]⟩,⟨[],[.al 10000 0,.o 0 e T]⟩,⟨[],[]⟩⟩
def xU (e:TypeId) (T:Ty) (x:(eX e T).M.X):Fr (eX e T).Out:=
 let a:=x.1.1; let b:=x.1.2.1; let n:=x.1.2.2.1; let i:=x.1.2.2.2.1; let l:=x.2.1
 Jb (decide (i<n))
  (Jd (0<=I6.wrap (b+i)/\I6.wrap (b+i)<l.length)
   (Jd ((I6.wrap (b+i)).toNat<l.length)
    (Jd (0<=I6.wrap (a+i)/\I6.wrap (a+i)<l.length)
     (Jd ((I6.wrap (a+i)).toNat<l.length)
      (Jd (0<=I6.wrap (a+i)/\I6.wrap (a+i)<l.length)
       (Jd ((I6.wrap (a+i)).toNat<l.length)
        (Jd (0<=I6.wrap (b+i)/\I6.wrap (b+i)<(l.set (I6.wrap (a+i)).toNat (l.getD (I6.wrap (b+i)).toNat T.dflt)).length)
         (Jd ((I6.wrap (b+i)).toNat<(l.set (I6.wrap (a+i)).toNat (l.getD (I6.wrap (b+i)).toNat T.dflt)).length)
          (Jv (Rd.next ((a,b,n,I6.wrap (i+1),()),
           ((l.set (I6.wrap (a+i)).toNat (l.getD (I6.wrap (b+i)).toNat T.dflt)).set (I6.wrap (b+i)).toNat (l.getD (I6.wrap (a+i)).toNat T.dflt),()))))))))))))
  (Jv (Rd.out ((),(l,()))))
structure InvSwp {T:Ty} (a b n i:Int) (l:List T.den):Prop where
 a0:0<=a
 b0:0<=b
 i0:0<=i
 al:a+n<=l.length
 bl:b+n<=l.length
 big:(l.length:Int)<=9223372036854775807
def sP (e:TypeId) (T:Ty) (x:(eX e T).M.X):Fr (eX e T).Out:=
 Jd (InvSwp x.1.1 x.1.2.1 x.1.2.2.1 x.1.2.2.2.1 x.2.1) (Jv (Rd.out ((),(e9 T.dflt (x.1.2.2.1-x.1.2.2.2.1).toNat (x.1.1+x.1.2.2.2.1).toNat (x.1.2.1+x.1.2.2.2.1).toNat x.2.1,()))))
def qp7 {T:Ty} (a b n i:Int) (l:List T.den) (hinv:InvSwp a b n i l) (Q:(eX e T).Out->Prop)
  (hq:Q (Rd.out ((),(e9 T.dflt (n-i).toNat (a+i).toNat (b+i).toNat l,())))):((xU e T) ((a,b,n,i,()),(l,()))).satP λ
   |.next x'=>InvSwp x'.1.1 x'.1.2.1 x'.1.2.2.1 x'.1.2.2.2.1 x'.2.1/\(x'.1.2.2.1-x'.1.2.2.2.1).toNat<(n-i).toNat/\((sP e T) x').satP Q
   |.out y=>Q (.out y)
   |.back z=>Q (.back z)
   |.pan p=>Q (.pan p):=by
 obtain⟨h0,h1,h2,h3,h4,h5⟩:=hinv;dsimp only[xU,Fr.satP,Ty.den,PT.den];refine⟨λhi=>?_,λhi=>?_⟩
 ·have hlt:=ucv hi;have w1:I6.wrap (b+i)=b+i:=IntWalk.i64_in _ (by omega);have w2:I6.wrap (a+i)=a+i:=IntWalk.i64_in _ (by omega);have w3:I6.wrap (i+1)=i+1:=IntWalk.i64_in _ (by omega);rw[w1,w2,w3];simp;refine⟨⟨by omega,by omega⟩,by omega,⟨by omega,by omega⟩,by omega,⟨by omega,by omega⟩,by omega,⟨by omega,by omega⟩,by omega,?_⟩;have hI:InvSwp a b n (i+1) (fx l T.dflt (a+i).toNat (b+i).toNat):=⟨h0,h1,by omega,by rw[ka]; omega,by rw[ka]; omega,by rw[ka]; omega⟩;refine⟨hI,by omega,hI,?_⟩;rw[show(n-i).toNat=(n-(i+1)).toNat+1 by omega] at hq;rw[show(a+(i+1)).toNat=(a+i).toNat+1 by omega,show(b+(i+1)).toNat=(b+i).toNat+1 by omega];exact hq
 ·have hge:=ucf hi;rw[show(n-i).toNat=0 by omega] at hq;exact hq
def SE {T:Ty} {c:Code} (sem:ae P c (eX e T).M (eX e T) (xU e T)):ae P (.loop c) (eX e T).M (eX e T) (sP e T):=by
 refine ae.loop sem (μ:=λx=>(x.1.2.2.1-x.1.2.2.2.1).toNat) ?_ (λx Q h=>h.1);rintro⟨⟨a,b,n,i,_⟩,⟨l,_⟩⟩ hinv Q hq;exact qp7 a b n i l hinv Q hq.2
noncomputable def jL (e:TypeId) (T:Ty):Mt:=⟨e,T,[.d i64,.d i64,.d i64,(aV T)],[],λl x=>(e9 T.dflt x.2.2.1.toNat x.1.toNat x.2.1.toNat l,()),λl x=>[0<=x.1,0<=x.2.1,x.1+x.2.2.1<=l.length,x.2.1+x.2.2.1<=l.length]⟩
def Ca (e:TypeId) (T:Ty) (l:List T.den) (x:ag [.d i64,.d i64,.d i64,(aV T)]):Fr (List T.den×aa []):=
 Jd (InvSwp x.1 x.2.1 x.2.2.1 0 l) (Jv (e9 T.dflt (x.2.2.1-0).toNat (x.1+0).toNat (x.2.1+0).toNat l,()))
def VE {T:Ty} (l:List T.den) (xs:ag (jL e T).ps) (hlen:l.length<=maxLen) (hok:av ((jL e T).ok l xs)):av [((Ca e T) l xs).ok]/\((Ca e T) l xs).get=(jL e T).f l xs:=by
 obtain⟨a,b,n,g,rfl⟩:∃ (a b n:Int) (g:(aV T).den),xs=(a,b,n,g,()):=⟨xs.1,xs.2.1,xs.2.2.1,xs.2.2.2.1,rfl⟩;have hok':(0:Int)<=a/\(0:Int)<=b/\(a:Int)+n<=(List.length (α:=T.den) l:Int)/\(b:Int)+n<=(List.length (α:=T.den) l:Int):=hok;obtain⟨h1,h2,h3,h4⟩:=hok';simp only[maxLen] at hlen;refine⟨⟨⟨h1,h2,ue5 _,h3,h4,by omega⟩,uT⟩,?_⟩;show(e9 T.dflt (n-0).toNat (a+0).toNat (b+0).toNat l,())=(e9 T.dflt n.toNat a.toNat b.toNat l,());rw[uen,Int.add_zero,Int.add_zero]
def At {Q:Nat->Bool}:(f f' i j:Nat)->j-i<=f->j-i<=f'->cp Q f i j=cp Q f' i j
 |0,0,_,_,_,_=>rfl
 |0,f'+1,i,j,h,_=>by simp only[cp]; rw[if_neg (by omega)]
 |f+1,0,i,j,_,h=>by simp only[cp]; rw[if_neg (by omega)]
 |f+1,f'+1,i,j,h,h'=>by
  simp only[cp];split
  ·cases Q ((i+j)/2) with
   |true=>exact At f f' _ _ (by omega) (by omega)
   |false=>exact At f f' _ _ (by omega) (by omega)
  ·rfl
def FP {Q:Nat->Bool} (h:i<j):cp Q (j-i) i j=bif Q ((i+j)/2) then cp Q (j-((i+j)/2+1)) ((i+j)/2+1) j else cp Q ((i+j)/2-i) i ((i+j)/2):=by
 obtain⟨f,hf⟩:∃ f,j-i=f+1:=⟨j-i-1,by omega⟩;rw[hf];simp only[cp];rw[if_pos h];cases Q ((i+j)/2) with
 |true=>exact At _ _ _ _ (by omega) (by omega)
 |false=>exact At _ _ _ _ (by omega) (by omega)
def D4 {d:α}:(f f' i j:Nat)->(l:List α)->0<i->0<j->i+j<=f->i+j<=f'->dH d m f i j l=dH d m f' i j l
 |0,_,i,j,_,_,_,_,_=>by omega
 |f+1,0,i,j,_,_,_,_,_=>by omega
 |f+1,f'+1,i,j,l,h1,h2,h3,h4=>by
  simp only[dH];split
  ·rfl
  ·split
   ·exact D4 f f' _ _ _ (by omega) (by omega) (by omega) (by omega)
   ·exact D4 f f' _ _ _ (by omega) (by omega) (by omega) (by omega)
abbrev eR (e:TypeId) (T:Ty):Pt:=⟨58,0,⟨[(2,.d i64),(4,(aV T)),(10,.d i64),(11,.d i64)],[.al 10000 0,.o 0 e T]⟩,⟨[(2,.d i64),(4,(aV T)),(10,.d i64)],[.al 10000 0,.o 0 e T]⟩,⟨[],[]⟩⟩
noncomputable def xM (e:TypeId) (T:Ty) (x:(eR e T).M.X):Fr (eR e T).Out:=
 let m:=x.1.1; let g:=x.1.2.1; let i:=x.1.2.2.1; let j:=x.1.2.2.2.1; let l:=x.2.1
 Jb (i != j)
  (Jb (decide (i>j))
   (Jd (0<=I6.wrap (m-i))
    (Jd (0<=m)
     (Jd (I6.wrap (m-i)+j<=(l.length:Int))
      (Jd (m+j<=(l.length:Int))
       (Jv (Rd.next ((m,(g.1,g.2),I6.wrap (i-j),j,()),(((jL e T).f l (I6.wrap (m-i),m,j,(g.1,g.2),())).1,()))))))))
   (Jd (0<=I6.wrap (m-i))
    (Jd (0<=I6.wrap (I6.wrap (m+j)-i))
     (Jd (I6.wrap (m-i)+i<=(l.length:Int))
      (Jd (I6.wrap (I6.wrap (m+j)-i)+i<=(l.length:Int))
       (Jv (Rd.next ((m,(g.1,g.2),i,I6.wrap (j-i),()),(((jL e T).f l (I6.wrap (m-i),I6.wrap (I6.wrap (m+j)-i),i,(g.1,g.2),())).1,())))))))))
  (Jv (Rd.out ((m,(g.1,g.2),i,()),(l,()))))
def zj8 {T:Ty}:(n a b:Nat)->(l:List T.den)->(e9 T.dflt n a b l).length=l.length
 |0,_,_,_=>rfl
 |n+1,a,b,l=>by simp only[e9]; rw[zj8 n,ka]
structure InvRot {T:Ty} (m i j:Int) (l:List T.den):Prop where
 i0:0<i
 j0:0<j
 im:i<=m
 ml:m+j<=l.length
 big:(l.length:Int)<=4611686018427387903
def sJ (e:TypeId) (T:Ty) (x:(eR e T).M.X):Fr (eR e T).Out:=
 Jd (InvRot x.1.1 x.1.2.2.1 x.1.2.2.2.1 x.2.1) (Jv (Rd.out ((x.1.1,x.1.2.1,((dH T.dflt x.1.1.toNat (x.1.2.2.1.toNat+x.1.2.2.2.1.toNat) x.1.2.2.1.toNat x.1.2.2.2.1.toNat x.2.1).1:Nat),()),
  ((dH T.dflt x.1.1.toNat (x.1.2.2.1.toNat+x.1.2.2.2.1.toNat) x.1.2.2.1.toNat x.1.2.2.2.1.toNat x.2.1).2,()))))
def qp0 {T:Ty} (m i j:Int) (g:(aV T).den) (l:List T.den) (hinv:InvRot m i j l) (Q:(eR e T).Out->Prop)
  (hq:Q (Rd.out ((m,g,((dH T.dflt m.toNat (i.toNat+j.toNat) i.toNat j.toNat l).1:Nat),()),((dH T.dflt m.toNat (i.toNat+j.toNat) i.toNat j.toNat l).2,())))):((xM e T) ((m,g,i,j,()),(l,()))).satP λ
   |.next x'=>InvRot x'.1.1 x'.1.2.2.1 x'.1.2.2.2.1 x'.2.1/\x'.1.2.2.1.toNat+x'.1.2.2.2.1.toNat<i.toNat+j.toNat/\((sJ e T) x').satP Q
   |.out y=>Q (.out y)
   |.back z=>Q (.back z)
   |.pan p=>Q (.pan p):=by
 obtain⟨h0,h1,h2,h3,h4⟩:=hinv;obtain⟨f,hf⟩:∃ f,i.toNat+j.toNat=f+1:=⟨i.toNat+j.toNat-1,by omega⟩;have w1:I6.wrap (m-i)=m-i:=IntWalk.i64_in _ (by omega);have w2:I6.wrap (i-j)=i-j:=IntWalk.i64_in _ (by omega);have w3:I6.wrap (m+j)=m+j:=IntWalk.i64_in _ (by omega);have w4:I6.wrap (m+j-i)=m+j-i:=IntWalk.i64_in _ (by omega);have w5:I6.wrap (j-i)=j-i:=IntWalk.i64_in _ (by omega);dsimp only[xM,Fr.satP,Ty.den,PT.den,jL];rw[w1,w2,w3,w4,w5];rw[hf] at hq;simp only[dH] at hq;refine⟨λhc=>⟨λhd=>?_,λhd=>?_⟩,λhc=>?_⟩
 ·have hgt:i>j:=ucv hd;rw[if_neg (by omega),if_pos (by omega)] at hq;have hI:InvRot m (i-j) j (e9 T.dflt j.toNat (m-i).toNat m.toNat l):=⟨by omega,h1,by omega,by rw[zj8]; omega,by rw[zj8]; omega⟩;refine⟨by omega,by omega,by omega,by omega,hI,by omega,hI,?_⟩;dsimp only[Ty.den,PT.den];rw[D4 _ f (i-j).toNat j.toNat _ (by omega) (by omega) (ue4 _) (by omega),show(i-j).toNat=i.toNat-j.toNat by omega,show(m-i).toNat=m.toNat-i.toNat by omega];exact hq
 ·have hle:¬ i>j:=ucf hd;have hne:i≠j:=by simpa using hc
  rw[if_neg (by omega),if_neg (by omega)] at hq;have hI:InvRot m i (j-i) (e9 T.dflt i.toNat (m-i).toNat (m+j-i).toNat l):=⟨h0,by omega,h2,by rw[zj8]; omega,by rw[zj8]; omega⟩;refine⟨by omega,by omega,by omega,by omega,hI,by omega,hI,?_⟩;dsimp only[Ty.den,PT.den];rw[D4 _ f i.toNat (j-i).toNat _ (by omega) (by omega) (ue4 _) (by omega),show(j-i).toNat=j.toNat-i.toNat by omega,show(m-i).toNat=m.toNat-i.toNat by omega,show(m+j-i).toNat=m.toNat+j.toNat-i.toNat by omega];exact hq
 ·have heq:i=j:=by simpa using hc
  rw[if_pos (by omega)] at hq;have:((i.toNat:Nat):Int)=i:=by omega
  rw[this] at hq;exact hq
def S8 {T:Ty} {c:Code} (sem:ae P c (eR e T).M (eR e T) (xM e T)):ae P (.loop c) (eR e T).M (eR e T) (sJ e T):=by
 refine ae.loop (n:=58) (id:=0) sem (inv:=λx=>InvRot x.1.1 x.1.2.2.1 x.1.2.2.2.1 x.2.1) (μ:=λx=>x.1.2.2.1.toNat+x.1.2.2.2.1.toNat) ?_ (λx Q h=>h.1);rintro⟨⟨m,g,i,j,_⟩,⟨l,_⟩⟩ hinv Q hq;exact qp0 m i j g l hinv Q hq.2
def K4 {T:Ty} {m:Nat}:(f i j:Nat)->(l:List T.den)->0<i->0<j->i+j<=f->0<(dH T.dflt m f i j l).1/\(dH T.dflt m f i j l).1<=i/\(dH T.dflt m f i j l).1<=j/\(dH T.dflt m f i j l).2.length=l.length
 |0,i,j,l,_,_,_=>by omega
 |f+1,i,j,l,h1,h2,h3=>by
  simp only[dH];split
  ·exact⟨h1,ue4 _,by omega,rfl⟩
  ·split
   ·have:=K4 (m:=m) f (i-j) j (e9 T.dflt j (m-i) m l) (by omega) h2 (by omega);rw[zj8] at this;omega
   ·have:=K4 (m:=m) f i (j-i) (e9 T.dflt i (m-i) (m+j-i) l) h1 (by omega) (by omega);rw[zj8] at this;omega
noncomputable def pb (e:TypeId) (T:Ty):Mt:=⟨e,T,[.d i64,.d i64,.d i64,(aV T)],[],λl x=>(pC T.dflt x.1.toNat x.2.1.toNat x.2.2.1.toNat l,()),λl x=>[0<=x.1,x.1<x.2.1,x.2.1<x.2.2.1,x.2.2.1<=l.length,(l.length:Int)<=4611686018427387903]⟩
def U8 {T:Ty} (m i j:Int) (l:List T.den):Int:=((dH T.dflt m.toNat (i.toNat+j.toNat) i.toNat j.toNat l).1:Nat)
def U9 {T:Ty} (m i j:Int) (l:List T.den):List T.den:=(dH T.dflt m.toNat (i.toNat+j.toNat) i.toNat j.toNat l).2
noncomputable def xN (e:TypeId) (T:Ty) (l:List T.den) (x:ag [.d i64,.d i64,.d i64,(aV T)]):Fr (List T.den×aa []):=
 let a:=x.1; let m:=x.2.1; let b:=x.2.2.1; let g:=x.2.2.2.1
 let i:=U8 m (I6.wrap (m-a)) (I6.wrap (b-m)) l
 let r:=U9 m (I6.wrap (m-a)) (I6.wrap (b-m)) l
 Jd (InvRot m (I6.wrap (m-a)) (I6.wrap (b-m)) l)
 (Jd (0<=I6.wrap (m-i))
  (Jd (0<=m)
   (Jd (I6.wrap (m-i)+i<=(r.length:Int))
    (Jd (m+i<=(r.length:Int))
     (Jv (((jL e T).f r (I6.wrap (m-i),m,i,(g.1,g.2),())).1,()))))))
def UB {T:Ty} (l:List T.den) (xs:ag (pb e T).ps) (hlen:l.length<=maxLen) (hok:av ((pb e T).ok l xs)):av [((xN e T) l xs).ok]/\((xN e T) l xs).get=(pb e T).f l xs:=by
 obtain⟨a,m,b,g,rfl⟩:∃ (a m b:Int) (g:(aV T).den),xs=(a,m,b,g,()):=⟨xs.1,xs.2.1,xs.2.2.1,xs.2.2.2.1,rfl⟩;have hok':(0:Int)<=a/\(a:Int)<m/\(m:Int)<b/\(b:Int)<=(List.length (α:=T.den) l:Int)/\(List.length (α:=T.den) l:Int)<=4611686018427387903:=hok;obtain⟨h1,h2,h3,h4,h5⟩:=hok';have w1:I6.wrap (m-a)=m-a:=IntWalk.i64_in _ (by omega);have w2:I6.wrap (b-m)=b-m:=IntWalk.i64_in _ (by omega);have hf:=K4 (m:=m.toNat) ((m-a).toNat+(b-m).toNat) (m-a).toNat (b-m).toNat l (by omega) (by omega) (ue4 _);dsimp only[xN,Fr.ok,Fr.get,Ty.den,PT.den,jL,U8,U9];rw[w1,w2];have e1:pC T.dflt a.toNat m.toNat b.toNat l=e9 T.dflt (dH T.dflt m.toNat ((m-a).toNat+(b-m).toNat) (m-a).toNat (b-m).toNat l).1 (m.toNat-(dH T.dflt m.toNat ((m-a).toNat+(b-m).toNat) (m-a).toNat (b-m).toNat l).1) m.toNat (dH T.dflt m.toNat ((m-a).toNat+(b-m).toNat) (m-a).toNat (b-m).toNat l).2:=by
  unfold pC;rw[show b.toNat-a.toNat=(m-a).toNat+(b-m).toNat by omega,show m.toNat-a.toNat=(m-a).toNat by omega,show b.toNat-m.toNat=(b-m).toNat by omega]
 generalize dH T.dflt m.toNat ((m-a).toNat+(b-m).toNat) (m-a).toNat (b-m).toNat l=r at hf e1 |-;have w3:I6.wrap (m-(r.1:Int))=m-r.1:=IntWalk.i64_in _ (by omega);rw[w3];refine⟨⟨⟨by omega,by omega,by omega,by omega,h5⟩,by omega,by omega,by omega,by omega,uT⟩,?_⟩;show(e9 T.dflt (r.1:Int).toNat (m-r.1).toNat m.toNat r.2,())=(pC T.dflt a.toNat m.toNat b.toNat l,());rw[e1,show(r.1:Int).toNat=r.1 by omega,show(m-(r.1:Int)).toNat=m.toNat-r.1 by omega]
def cE (i j:Int):Int:=I6.wrap ((IntKind.u64.wrap (I6.wrap (i+j))).fdiv (2 ^ min (Int.toNat 1) IntKind.u64.bits))
def CI (h:i+j<=9223372036854775807):cE (i:Int) j=((i+j)/2:Nat):=qna h
abbrev eS (e:TypeId) (T:Ty):Pt:=⟨220,0,⟨[(1,.d i64),(4,(aV T)),(10,.d i64),(11,.d i64)],[.al 10000 0,.o 0 e T]⟩,⟨[(1,.d i64),(10,.d i64)],[.al 10000 0,.o 0 e T]⟩,⟨[],[]⟩⟩
def xO (e:TypeId) (T:Ty) (x:(eS e T).M.X):Fr (eS e T).Out:=
 let c:=x.1.1; let g:=x.1.2.1; let i:=x.1.2.2.1; let j:=x.1.2.2.2.1; let l:=x.2.1
 Jb (decide (i<j))
  (Jd (¬(1:Int)<0)
   (Jd (0<=cE i j/\cE i j<(l.length:Int))
    (Jd ((cE i j).toNat<l.length)
     (Jd (0<=c/\c<(l.length:Int))
      (Jd ((c).toNat<l.length)
       (Jd (g.2 (l.getD (cE i j).toNat T.dflt,l.getD c.toNat T.dflt,()))
        (Jb (decide ((g.1 (l.getD (cE i j).toNat T.dflt,l.getD c.toNat T.dflt,())).1<0))
         (Jv (Rd.next ((c,(g.1,g.2),I6.wrap (cE i j+1),j,()),(l,()))))
         (Jv (Rd.next ((c,(g.1,g.2),i,cE i j,()),(l,())))))))))))
  (Jv (Rd.out ((c,i,()),(l,()))))
structure InvS0 {T:Ty} (c i j:Int) (g:(aV T).den) (l:List T.den):Prop where
 c0:0<=c
 cl:c<l.length
 i0:0<=i
 ij:i<=j
 jl:j<=l.length
 big:(l.length:Int)<=4611686018427387903
 dom:jv g l
def sK (e:TypeId) (T:Ty) (x:(eS e T).M.X):Fr (eS e T).Out:=
 let c:=x.1.1; let g:=x.1.2.1; let i:=x.1.2.2.1; let j:=x.1.2.2.2.1; let l:=x.2.1
 Jd (InvS0 c i j g l) (Jv (Rd.out ((c,(cp (λh=>aM g (l.getD h T.dflt) (l.getD c.toNat T.dflt)) (j.toNat-i.toNat) i.toNat j.toNat:Nat),()),(l,()))))
def qp1 {T:Ty} (c i j:Int) (g:(aV T).den) (l:List T.den) (hinv:InvS0 c i j g l) (Q:(eS e T).Out->Prop)
  (hq:Q (Rd.out ((c,(cp (λh=>aM g (l.getD h T.dflt) (l.getD c.toNat T.dflt)) (j.toNat-i.toNat) i.toNat j.toNat:Nat),()),(l,())))):((xO e T) ((c,g,i,j,()),(l,()))).satP λ
   |.next x'=>InvS0 x'.1.1 x'.1.2.2.1 x'.1.2.2.2.1 x'.1.2.1 x'.2.1/\(x'.1.2.2.2.1-x'.1.2.2.1).toNat<(j-i).toNat/\((sK e T) x').satP Q
   |.out y=>Q (.out y)
   |.back z=>Q (.back z)
   |.pan p=>Q (.pan p):=by
 obtain⟨h0,h1,h2,h3,h4,hb,hd⟩:=hinv;obtain⟨i',rfl⟩:∃ n:Nat,i=n:=⟨i.toNat,by omega⟩;obtain⟨j',rfl⟩:∃ n:Nat,j=n:=⟨j.toNat,by omega⟩;obtain⟨c',rfl⟩:∃ n:Nat,c=n:=⟨c.toNat,by omega⟩;have hm:cE (i':Int) j'=((i'+j')/2:Nat):=CI (by omega);have hw:I6.wrap ((((i'+j')/2:Nat):Int)+1)=((i'+j')/2+1:Nat):=zv (by omega);dsimp only[xO,Fr.satP,PT.den];rw[hm,hw];simp only[ucy] at hq |-;refine⟨λhi=>?_,λhi=>?_⟩
 ·have hlt:i'<j':=by have:(i':Int)<j':=ucv hi; omega
  rw[FP hlt] at hq;have hml:(i'+j')/2<l.length:=by omega
  have hcl:c'<l.length:=by omega
  refine⟨by omega,⟨by omega,by omega⟩,by omega,⟨by omega,by omega⟩,by omega,hd _ (fo hml) _ (fo hcl),λhc=>?_,λhc=>?_⟩
  ·have hc':(aM g (l.getD ((i'+j')/2) T.dflt) (l.getD c' T.dflt))=true:=hc;rw[hc'] at hq;have hI:InvS0 (c':Int) ((i'+j')/2+1:Nat) j' g l:=⟨h0,h1,by omega,by omega,by omega,hb,hd⟩;exact⟨hI,by omega,hI,hq⟩
  ·have hc':(aM g (l.getD ((i'+j')/2) T.dflt) (l.getD c' T.dflt))=false:=hc;rw[hc'] at hq;have hI:InvS0 (c':Int) i' ((i'+j')/2:Nat) g l:=⟨h0,h1,by omega,by omega,by omega,hb,hd⟩;exact⟨hI,by omega,hI,hq⟩
 ·have hge:¬ i'<j':=by have:¬ (i':Int)<j':=ucf hi; omega
  rw[show j'-i'=0 by omega] at hq;exact hq
def S9 {T:Ty} {c:Code} (sem:ae P c (eS e T).M (eS e T) (xO e T)):ae P (.loop c) (eS e T).M (eS e T) (sK e T):=by
 refine ae.loop sem (μ:=λx=>(x.1.2.2.2.1-x.1.2.2.1).toNat) ?_ (λx Q h=>h.1);rintro⟨⟨c,g,i,j,_⟩,⟨l,_⟩⟩ hinv Q hq;exact qp1 c i j g l hinv Q hq.2
abbrev eU (e:TypeId) (T:Ty):Pt:=⟨220,4,⟨[(2,.d i64),(4,(aV T)),(14,.d i64),(15,.d i64)],[.al 10000 0,.o 0 e T]⟩,⟨[(2,.d i64),(14,.d i64)],[.al 10000 0,.o 0 e T]⟩,⟨[],[]⟩⟩
def xQ (e:TypeId) (T:Ty) (x:(eU e T).M.X):Fr (eU e T).Out:=
 let c:=x.1.1; let g:=x.1.2.1; let i:=x.1.2.2.1; let j:=x.1.2.2.2.1; let l:=x.2.1
 Jb (decide (i<j))
  (Jd (¬(1:Int)<0)
   (Jd (0<=c/\c<(l.length:Int))
    (Jd ((c).toNat<l.length)
     (Jd (0<=cE i j/\cE i j<(l.length:Int))
      (Jd ((cE i j).toNat<l.length)
       (Jd (g.2 (l.getD c.toNat T.dflt,l.getD (cE i j).toNat T.dflt,()))
        (Jb (!decide ((g.1 (l.getD c.toNat T.dflt,l.getD (cE i j).toNat T.dflt,())).1<0))
         (Jv (Rd.next ((c,(g.1,g.2),I6.wrap (cE i j+1),j,()),(l,()))))
         (Jv (Rd.next ((c,(g.1,g.2),i,cE i j,()),(l,())))))))))))
  (Jv (Rd.out ((c,i,()),(l,()))))
structure InvS2 {T:Ty} (c i j:Int) (g:(aV T).den) (l:List T.den):Prop where
 c0:0<=c
 cl:c<l.length
 i0:0<=i
 ij:i<=j
 jl:j<=l.length
 big:(l.length:Int)<=4611686018427387903
 dom:jv g l
def sM (e:TypeId) (T:Ty) (x:(eU e T).M.X):Fr (eU e T).Out:=
 let c:=x.1.1; let g:=x.1.2.1; let i:=x.1.2.2.1; let j:=x.1.2.2.2.1; let l:=x.2.1
 Jd (InvS2 c i j g l) (Jv (Rd.out ((c,(cp (λh=>!aM g (l.getD c.toNat T.dflt) (l.getD h T.dflt)) (j.toNat-i.toNat) i.toNat j.toNat:Nat),()),(l,()))))
def qp3 {T:Ty} (c i j:Int) (g:(aV T).den) (l:List T.den) (hinv:InvS2 c i j g l) (Q:(eU e T).Out->Prop)
  (hq:Q (Rd.out ((c,(cp (λh=>!aM g (l.getD c.toNat T.dflt) (l.getD h T.dflt)) (j.toNat-i.toNat) i.toNat j.toNat:Nat),()),(l,())))):((xQ e T) ((c,g,i,j,()),(l,()))).satP λ
   |.next x'=>InvS2 x'.1.1 x'.1.2.2.1 x'.1.2.2.2.1 x'.1.2.1 x'.2.1/\(x'.1.2.2.2.1-x'.1.2.2.1).toNat<(j-i).toNat/\((sM e T) x').satP Q
   |.out y=>Q (.out y)
   |.back z=>Q (.back z)
   |.pan p=>Q (.pan p):=by
 obtain⟨h0,h1,h2,h3,h4,hb,hd⟩:=hinv;obtain⟨i',rfl⟩:∃ n:Nat,i=n:=⟨i.toNat,by omega⟩;obtain⟨j',rfl⟩:∃ n:Nat,j=n:=⟨j.toNat,by omega⟩;obtain⟨c',rfl⟩:∃ n:Nat,c=n:=⟨c.toNat,by omega⟩;have hm:cE (i':Int) j'=((i'+j')/2:Nat):=CI (by omega);have hw:I6.wrap ((((i'+j')/2:Nat):Int)+1)=((i'+j')/2+1:Nat):=zv (by omega);dsimp only[xQ,Fr.satP,PT.den];rw[hm,hw];simp only[ucy] at hq |-;refine⟨λhi=>?_,λhi=>?_⟩
 ·have hlt:i'<j':=by have:(i':Int)<j':=ucv hi; omega
  rw[FP hlt] at hq;have hml:(i'+j')/2<l.length:=by omega
  have hcl:c'<l.length:=by omega
  refine⟨by omega,⟨by omega,by omega⟩,by omega,⟨by omega,by omega⟩,by omega,hd _ (fo hcl) _ (fo hml),λhc=>?_,λhc=>?_⟩
  ·have hc':(!aM g (l.getD c' T.dflt) (l.getD ((i'+j')/2) T.dflt))=true:=hc;rw[hc'] at hq;have hI:InvS2 (c':Int) ((i'+j')/2+1:Nat) j' g l:=⟨h0,h1,by omega,by omega,by omega,hb,hd⟩;exact⟨hI,by omega,hI,hq⟩
  ·have hc':(!aM g (l.getD c' T.dflt) (l.getD ((i'+j')/2) T.dflt))=false:=hc;rw[hc'] at hq;have hI:InvS2 (c':Int) i' ((i'+j')/2:Nat) g l:=⟨h0,h1,by omega,by omega,by omega,hb,hd⟩;exact⟨hI,by omega,hI,hq⟩
 ·have hge:¬ i'<j':=by have:¬ (i':Int)<j':=ucf hi; omega
  rw[show j'-i'=0 by omega] at hq;exact hq
def SB {T:Ty} {c:Code} (sem:ae P c (eU e T).M (eU e T) (xQ e T)):ae P (.loop c) (eU e T).M (eU e T) (sM e T):=by
 refine ae.loop sem (μ:=λx=>(x.1.2.2.2.1-x.1.2.2.1).toNat) ?_ (λx Q h=>h.1);rintro⟨⟨c,g,i,j,_⟩,⟨l,_⟩⟩ hinv Q hq;exact qp3 c i j g l hinv Q hq.2
abbrev eW (e:TypeId) (T:Ty):Pt:=⟨220,8,⟨[(1,.d i64),(2,.d i64),(3,.d i64),(4,(aV T)),(18,.d i64),(19,.d i64),(20,.d i64),(21,.d i64),(22,.d i64)],[.al 10000 0,.o 0 e T]⟩,⟨[(1,.d i64),(2,.d i64),(3,.d i64),(4,(aV T)),(18,.d i64),(19,.d i64),(20,.d i64)],[.al 10000 0,.o 0 e T]⟩,⟨[],[]⟩⟩
def xS (e:TypeId) (T:Ty) (x:(eW e T).M.X):Fr (eW e T).Out:=
 let a:=x.1.1; let m:=x.1.2.1; let b:=x.1.2.2.1; let g:=x.1.2.2.2.1; let aX:=x.1.2.2.2.2.1; let n:=x.1.2.2.2.2.2.1; let i:=x.1.2.2.2.2.2.2.1; let j:=x.1.2.2.2.2.2.2.2.1; let p:=x.1.2.2.2.2.2.2.2.2.1; let l:=x.2.1
 Jb (decide (i<j))
  (Jd (¬(1:Int)<0)
   (Jd (0<=I6.wrap (p-cE i j)/\I6.wrap (p-cE i j)<(l.length:Int))
    (Jd ((I6.wrap (p-cE i j)).toNat<l.length)
     (Jd (0<=cE i j/\cE i j<(l.length:Int))
      (Jd ((cE i j).toNat<l.length)
       (Jd (g.2 (l.getD (I6.wrap (p-cE i j)).toNat T.dflt,l.getD (cE i j).toNat T.dflt,()))
        (Jb (!decide ((g.1 (l.getD (I6.wrap (p-cE i j)).toNat T.dflt,l.getD (cE i j).toNat T.dflt,())).1<0))
         (Jv (Rd.next ((a,m,b,(g.1,g.2),aX,n,I6.wrap (cE i j+1),j,p,()),(l,()))))
         (Jv (Rd.next ((a,m,b,(g.1,g.2),aX,n,i,cE i j,p,()),(l,())))))))))))
  (Jv (Rd.out ((a,m,b,(g.1,g.2),aX,n,i,()),(l,()))))
structure InvS4 {T:Ty} (p i j:Int) (g:(aV T).den) (l:List T.den):Prop where
 p0:0<=p
 pl:p<i+l.length
 pj:j<=p+1
 i0:0<=i
 ij:i<=j
 jl:j<=l.length
 big:(l.length:Int)<=4611686018427387903
 dom:jv g l
def sO (e:TypeId) (T:Ty) (x:(eW e T).M.X):Fr (eW e T).Out:=
 let a:=x.1.1; let m:=x.1.2.1; let b:=x.1.2.2.1; let g:=x.1.2.2.2.1; let aX:=x.1.2.2.2.2.1; let n:=x.1.2.2.2.2.2.1; let i:=x.1.2.2.2.2.2.2.1; let j:=x.1.2.2.2.2.2.2.2.1; let p:=x.1.2.2.2.2.2.2.2.2.1; let l:=x.2.1
 Jd (InvS4 p i j g l) (Jv (Rd.out ((a,m,b,g,aX,n,(cp (λh=>!aM g (l.getD (p.toNat-h) T.dflt) (l.getD h T.dflt)) (j.toNat-i.toNat) i.toNat j.toNat:Nat),()),(l,()))))
def qp5 {T:Ty} (a m b aX n p i j:Int) (g:(aV T).den) (l:List T.den) (hinv:InvS4 p i j g l) (Q:(eW e T).Out->Prop)
  (hq:Q (Rd.out ((a,m,b,g,aX,n,(cp (λh=>!aM g (l.getD (p.toNat-h) T.dflt) (l.getD h T.dflt)) (j.toNat-i.toNat) i.toNat j.toNat:Nat),()),(l,())))):((xS e T) ((a,m,b,g,aX,n,i,j,p,()),(l,()))).satP λ
   |.next x'=>InvS4 x'.1.2.2.2.2.2.2.2.2.1 x'.1.2.2.2.2.2.2.1 x'.1.2.2.2.2.2.2.2.1 x'.1.2.2.2.1 x'.2.1/\(x'.1.2.2.2.2.2.2.2.1-x'.1.2.2.2.2.2.2.1).toNat<(j-i).toNat/\((sO e T) x').satP Q
   |.out y=>Q (.out y)
   |.back z=>Q (.back z)
   |.pan p=>Q (.pan p):=by
 obtain⟨fF,h0,h1,h2,h3,h4,hb,hd⟩:=hinv;obtain⟨i',rfl⟩:∃ n:Nat,i=n:=⟨i.toNat,by omega⟩;obtain⟨j',rfl⟩:∃ n:Nat,j=n:=⟨j.toNat,by omega⟩;obtain⟨p',rfl⟩:∃ n:Nat,p=n:=⟨p.toNat,by omega⟩;have hm:cE (i':Int) j'=((i'+j')/2:Nat):=CI (by omega);have hw:I6.wrap ((((i'+j')/2:Nat):Int)+1)=((i'+j')/2+1:Nat):=zv (by omega);dsimp only[xS,Fr.satP,PT.den];rw[hm,hw];have hp:(i'<j')->I6.wrap ((p':Int)-(((i'+j')/2:Nat):Int))=(p'-(i'+j')/2:Nat):=λh=>zu (by omega) (by omega);simp only[ucy] at hq |-;refine⟨λhi=>?_,λhi=>?_⟩
 ·have hlt:i'<j':=by have:(i':Int)<j':=ucv hi; omega
  rw[FP hlt] at hq;rw[hp hlt];have hml:p'-(i'+j')/2<l.length:=by omega
  have hcl:(i'+j')/2<l.length:=by omega
  refine⟨by omega,⟨by omega,by omega⟩,by omega,⟨by omega,by omega⟩,by omega,hd _ (fo hml) _ (fo hcl),λhc=>?_,λhc=>?_⟩
  ·have hc':(!aM g (l.getD (p'-(i'+j')/2) T.dflt) (l.getD ((i'+j')/2) T.dflt))=true:=hc;rw[hc'] at hq;have hI:InvS4 (p':Int) ((i'+j')/2+1:Nat) j' g l:=⟨fF,by omega,by omega,by omega,by omega,by omega,hb,hd⟩;exact⟨hI,by omega,hI,hq⟩
  ·have hc':(!aM g (l.getD (p'-(i'+j')/2) T.dflt) (l.getD ((i'+j')/2) T.dflt))=false:=hc;rw[hc'] at hq;have hI:InvS4 (p':Int) i' ((i'+j')/2:Nat) g l:=⟨fF,by omega,by omega,by omega,by omega,by omega,hb,hd⟩;exact⟨hI,by omega,hI,hq⟩
 ·have hge:¬ i'<j':=by have:¬ (i':Int)<j':=ucf hi; omega
  rw[show j'-i'=0 by omega] at hq;exact hq
def SD {T:Ty} {c:Code} (sem:ae P c (eW e T).M (eW e T) (xS e T)):ae P (.loop c) (eW e T).M (eW e T) (sO e T):=by
 refine ae.loop sem (μ:=λx=>(x.1.2.2.2.2.2.2.2.1-x.1.2.2.2.2.2.2.1).toNat) ?_ (λx Q h=>h.1);rintro⟨⟨a,m,b,g,aX,n,i,j,p,_⟩,⟨l,_⟩⟩ hinv Q hq;exact qp5 a m b aX n p i j g l hinv Q hq.2
abbrev eT (e:TypeId) (T:Ty):Pt:=⟨220,2,⟨[(10,.d i64),(13,.d i64)],[.al 10000 0,.o 0 e T]⟩,⟨[],[.al 10000 0,.o 0 e T]⟩,⟨[],[]⟩⟩
def xP (e:TypeId) (T:Ty) (x:(eT e T).M.X):Fr (eT e T).Out:=
 let i:=x.1.1; let k:=x.1.2.1; let l:=x.2.1
 Jb (decide (k<I6.wrap (i-1)))
  (Jd (0<=I6.wrap (k+1)/\I6.wrap (k+1)<(l.length:Int))
   (Jd ((I6.wrap (k+1)).toNat<l.length)
    (Jd (0<=k/\k<(l.length:Int))
     (Jd (k.toNat<l.length)
      (Jd (0<=k/\k<(l.length:Int))
       (Jd (k.toNat<l.length)
        (Jd (0<=I6.wrap (k+1)/\I6.wrap (k+1)<((l.set k.toNat (l.getD (I6.wrap (k+1)).toNat T.dflt)).length:Int))
         (Jd ((I6.wrap (k+1)).toNat<(l.set k.toNat (l.getD (I6.wrap (k+1)).toNat T.dflt)).length)
          (Jv (Rd.next ((i,I6.wrap (k+1),()),((l.set k.toNat (l.getD (I6.wrap (k+1)).toNat T.dflt)).set (I6.wrap (k+1)).toNat (l.getD k.toNat T.dflt),()))))))))))))
  (Jv (Rd.out ((),(l,()))))
structure InvS1 {T:Ty} (i k:Int) (l:List T.den):Prop where
 k0:0<=k
 i0:0<=i
 il:i<=l.length
 big:(l.length:Int)<=4611686018427387903
def sL (e:TypeId) (T:Ty) (x:(eT e T).M.X):Fr (eT e T).Out:=
 let i:=x.1.1; let k:=x.1.2.1; let l:=x.2.1
 Jd (InvS1 i k l) (Jv (Rd.out ((),(nG T.dflt (i-1-k).toNat k.toNat l,()))))
def qp2 {T:Ty} (i k:Int) (l:List T.den) (hinv:InvS1 i k l) (Q:(eT e T).Out->Prop) (hq:Q (Rd.out ((),(nG T.dflt (i-1-k).toNat k.toNat l,())))):((xP e T) ((i,k,()),(l,()))).satP λ
   |.next x'=>InvS1 x'.1.1 x'.1.2.1 x'.2.1/\(x'.1.1-1-x'.1.2.1).toNat<(i-1-k).toNat/\((sL e T) x').satP Q
   |.out y=>Q (.out y)
   |.back z=>Q (.back z)
   |.pan p=>Q (.pan p):=by
 obtain⟨h0,h1,h2,h3⟩:=hinv;have w1:I6.wrap (i-1)=i-1:=IntWalk.i64_in _ (by omega);dsimp only[xP,Fr.satP,Ty.den,PT.den];rw[w1];simp only[udk];refine⟨λhc=>?_,λhc=>?_⟩
 ·have hlt:=ucv hc;have w2:I6.wrap (k+1)=k+1:=IntWalk.i64_in _ (by omega);rw[w2];have hI:InvS1 i (k+1) (fx l T.dflt k.toNat (k+1).toNat):=⟨by omega,by omega,by rw[ka]; omega,by rw[ka]; omega⟩;refine⟨⟨by omega,by omega⟩,by omega,⟨by omega,by omega⟩,by omega,⟨by omega,by omega⟩,by omega,⟨by omega,by omega⟩,by omega,hI,by omega,hI,?_⟩;rw[show(i-1-k).toNat=(i-1-(k+1)).toNat+1 by omega] at hq;simp only[nG] at hq;rw[show k.toNat+1=(k+1).toNat by omega] at hq;exact hq
 ·have hge:=ucf hc;rw[show(i-1-k).toNat=0 by omega] at hq;exact hq
def SA {T:Ty} {c:Code} (sem:ae P c (eT e T).M (eT e T) (xP e T)):ae P (.loop c) (eT e T).M (eT e T) (sL e T):=by
 refine ae.loop sem (μ:=λx=>(x.1.1-1-x.1.2.1).toNat) ?_ (λx Q h=>h.1);rintro⟨⟨i,k,_⟩,⟨l,_⟩⟩ hinv Q hq;exact qp2 i k l hinv Q hq.2
abbrev eV (e:TypeId) (T:Ty):Pt:=⟨220,6,⟨[(14,.d i64),(17,.d i64)],[.al 10000 0,.o 0 e T]⟩,⟨[],[.al 10000 0,.o 0 e T]⟩,⟨[],[]⟩⟩
def xR (e:TypeId) (T:Ty) (x:(eV e T).M.X):Fr (eV e T).Out:=
 let i:=x.1.1; let k:=x.1.2.1; let l:=x.2.1
 Jb (decide (k>i))
  (Jd (0<=I6.wrap (k-1)/\I6.wrap (k-1)<(l.length:Int))
   (Jd ((I6.wrap (k-1)).toNat<l.length)
    (Jd (0<=k/\k<(l.length:Int))
     (Jd (k.toNat<l.length)
      (Jd (0<=k/\k<(l.length:Int))
       (Jd (k.toNat<l.length)
        (Jd (0<=I6.wrap (k-1)/\I6.wrap (k-1)<((l.set k.toNat (l.getD (I6.wrap (k-1)).toNat T.dflt)).length:Int))
         (Jd ((I6.wrap (k-1)).toNat<(l.set k.toNat (l.getD (I6.wrap (k-1)).toNat T.dflt)).length)
          (Jv (Rd.next ((i,I6.wrap (k-1),()),((l.set k.toNat (l.getD (I6.wrap (k-1)).toNat T.dflt)).set (I6.wrap (k-1)).toNat (l.getD k.toNat T.dflt),()))))))))))))
  (Jv (Rd.out ((),(l,()))))
structure InvS3 {T:Ty} (i k:Int) (l:List T.den):Prop where
 i0:0<=i
 ik:i<=k
 kl:k<l.length
 big:(l.length:Int)<=4611686018427387903
def sN (e:TypeId) (T:Ty) (x:(eV e T).M.X):Fr (eV e T).Out:=
 let i:=x.1.1; let k:=x.1.2.1; let l:=x.2.1
 Jd (InvS3 i k l) (Jv (Rd.out ((),(mM T.dflt (k-i).toNat k.toNat l,()))))
def qp4 {T:Ty} (i k:Int) (l:List T.den) (hinv:InvS3 i k l) (Q:(eV e T).Out->Prop) (hq:Q (Rd.out ((),(mM T.dflt (k-i).toNat k.toNat l,())))):((xR e T) ((i,k,()),(l,()))).satP λ
   |.next x'=>InvS3 x'.1.1 x'.1.2.1 x'.2.1/\(x'.1.2.1-x'.1.1).toNat<(k-i).toNat/\((sN e T) x').satP Q
   |.out y=>Q (.out y)
   |.back z=>Q (.back z)
   |.pan p=>Q (.pan p):=by
 obtain⟨h0,h1,h2,h3⟩:=hinv;have w2:I6.wrap (k-1)=k-1:=IntWalk.i64_in _ (by omega);dsimp only[xR,Fr.satP,Ty.den,PT.den];rw[w2];simp only[udk];refine⟨λhc=>?_,λhc=>?_⟩
 ·have hlt:=ucv hc;have hI:InvS3 i (k-1) (fx l T.dflt k.toNat (k-1).toNat):=⟨by omega,by omega,by rw[ka]; omega,by rw[ka]; omega⟩;refine⟨⟨by omega,by omega⟩,by omega,⟨by omega,by omega⟩,by omega,⟨by omega,by omega⟩,by omega,⟨by omega,by omega⟩,by omega,hI,by omega,hI,?_⟩;rw[show(k-i).toNat=(k-1-i).toNat+1 by omega] at hq;simp only[mM] at hq;rw[show k.toNat-1=(k-1).toNat by omega] at hq;exact hq
 ·have hge:=ucf hc;rw[show(k-i).toNat=0 by omega] at hq;exact hq
def SC {T:Ty} {c:Code} (sem:ae P c (eV e T).M (eV e T) (xR e T)):ae P (.loop c) (eV e T).M (eV e T) (sN e T):=by
 refine ae.loop sem (μ:=λx=>(x.1.2.1-x.1.1).toNat) ?_ (λx Q h=>h.1);rintro⟨⟨i,k,_⟩,⟨l,_⟩⟩ hinv Q hq;exact qp4 i k l hinv Q hq.2
structure SymOk {T:Ty} (n:Nat) (a m b:Int) (g:(aV T).den) (l:List T.den):Prop where
 a0:0<=a
 am:a<m
 mb:m<b
 bl:b<=l.length
 big:(l.length:Int)<=4611686018427387903
 size:b-a<=n
 dom:jv g l
 key:∃ key:T.den->Int,dd (aM g) key l/\bY key (bf a.toNat m.toNat l)/\bY key (bf m.toNat b.toNat l)
noncomputable def iP (e:TypeId) (T:Ty) (n:Nat):Mt:=⟨e,T,[.d i64,.d i64,.d i64,(aV T)],[],λl x=>(bA (aM x.2.2.2.1) x.1.toNat x.2.2.1.toNat l,()),λl x=>[SymOk n x.1 x.2.1 x.2.2.1 x.2.2.2.1 l]⟩
def tg {T:Ty} (c i j:Int) (g:(aV T).den) (l:List T.den):Int:=(cp (λh=>aM g (l.getD h T.dflt) (l.getD c.toNat T.dflt)) (j.toNat-i.toNat) i.toNat j.toNat:Nat)
def FN {T:Ty} (c i j:Int) (g:(aV T).den) (l:List T.den):Int:=(cp (λh=>!aM g (l.getD c.toNat T.dflt) (l.getD h T.dflt)) (j.toNat-i.toNat) i.toNat j.toNat:Nat)
def Ar {T:Ty} (p i j:Int) (g:(aV T).den) (l:List T.den):Int:=(cp (λh=>!aM g (l.getD (p.toNat-h) T.dflt) (l.getD h T.dflt)) (j.toNat-i.toNat) i.toNat j.toNat:Nat)
noncomputable def zz (e:TypeId) (T:Ty) (n:Nat) (aX en b:Int) (g:(aV T).den) (l:List T.den):Fr (List T.den×aa []):=
 Jb (bif decide (aX<en) then decide (en<b) else false) (Jd (SymOk n aX en b (g.1,g.2) l) (Jv ((((iP e T) n).f l (aX,en,b,(g.1,g.2),())).1,()))) (Jv (l,()))
noncomputable def zy (e:TypeId) (T:Ty) (n:Nat) (a st aX en b:Int) (g:(aV T).den) (l:List T.den):Fr (List T.den×aa []):=
 Jb (bif decide (a<st) then decide (st<aX) else false) (Jd (SymOk n a st aX (g.1,g.2) l) ((zz e T) n aX en b g (((iP e T) n).f l (a,st,aX,(g.1,g.2),())).1)) ((zz e T) n aX en b g l)
noncomputable def Ek (e:TypeId) (T:Ty) (n:Nat) (a m b st aX en:Int) (g:(aV T).den) (l:List T.den):Fr (List T.den×aa []):=
 Jb (bif decide (st<m) then decide (m<en) else false)
  (Jd (0<=st) (Jd (st<m) (Jd (m<en) (Jd (en<=(l.length:Int)) (Jd ((l.length:Int)<=4611686018427387903) ((zy e T) n a st aX en b g ((pb e T).f l (st,m,en,(g.1,g.2),())).1))))))
  ((zy e T) n a st aX en b g l)
noncomputable def zx (e:TypeId) (T:Ty) (n:Nat) (a m b aX i j:Int) (g:(aV T).den) (l:List T.den):Fr (List T.den×aa []):=
 let p:=I6.wrap (I6.wrap (aX+m)-1)
 Jd (InvS4 p i j (g.1,g.2) l) ((Ek e T) n a m b (Ar p i j (g.1,g.2) l) aX (I6.wrap (I6.wrap (aX+m)-Ar p i j (g.1,g.2) l)) g l)
noncomputable def qY (e:TypeId) (T:Ty) (n:Nat) (l:List T.den) (x:ag [.d i64,.d i64,.d i64,(aV T)]):Fr (List T.den×aa []):=
 let a:=x.1; let m:=x.2.1; let b:=x.2.2.1; let g:=x.2.2.2.1
 Jb (I6.wrap (m-a)==1)
  (Jd (InvS0 a m b (g.1,g.2) l) (Jd (InvS1 (tg a m b (g.1,g.2) l) a l) (Jv (nG T.dflt (tg a m b (g.1,g.2) l-1-a).toNat a.toNat l,()))))
  (Jb (I6.wrap (b-m)==1)
   (Jd (InvS2 m a m (g.1,g.2) l) (Jd (InvS3 (FN m a m (g.1,g.2) l) m l) (Jv (mM T.dflt (m-FN m a m (g.1,g.2) l).toNat m.toNat l,()))))
   (Jd (¬(1:Int)<0)
    (Jb (decide (m>cE a b))
     ((zx e T) n a m b (cE a b) (I6.wrap (I6.wrap (cE a b+m)-b)) (cE a b) g l)
     ((zx e T) n a m b (cE a b) a m g l))))
def As {Q:Nat->Bool}:(f i j:Nat)->i<=j->i<=cp Q f i j/\cp Q f i j<=j
 |0,i,j,h=>⟨ue4 _,h⟩
 |f+1,i,j,h=>by
  simp only[cp];split
  ·cases Q ((i+j)/2) with
   |true=>
    have:=As (Q:=Q) f ((i+j)/2+1) j (by omega);simp;omega
   |false=>
    have:=As (Q:=Q) f i ((i+j)/2) (by omega);simp;omega
  ·exact⟨ue4 _,h⟩
structure Sym3 {T:Ty} (lt:T.den->T.den->Bool) (key:T.den->Int) (a m b st:Nat) (l:List T.den):Prop where
 s1:a<=st
 s2:st<=m
 s3:st<=(a+b)/2
 s4:(a+b)/2<=b
 e1:m+st<=(a+b)/2+m
 e2:(a+b)/2+m<=b+st
 len1:(cT T.dflt m st ((a+b)/2+m-st) l).length=l.length
 same1:bh key l (cT T.dflt m st ((a+b)/2+m-st) l)
 sA1:bY key (bf a st (cT T.dflt m st ((a+b)/2+m-st) l))
 sB1:bY key (bf st ((a+b)/2) (cT T.dflt m st ((a+b)/2+m-st) l))
 len2:(if a<st/\st<(a+b)/2 then bA lt a ((a+b)/2) (cT T.dflt m st ((a+b)/2+m-st) l) else cT T.dflt m st ((a+b)/2+m-st) l).length=l.length
 same2:bh key l (if a<st/\st<(a+b)/2 then bA lt a ((a+b)/2) (cT T.dflt m st ((a+b)/2+m-st) l) else cT T.dflt m st ((a+b)/2+m-st) l)
 sA2:bY key (bf ((a+b)/2) ((a+b)/2+m-st) (if a<st/\st<(a+b)/2 then bA lt a ((a+b)/2) (cT T.dflt m st ((a+b)/2+m-st) l) else cT T.dflt m st ((a+b)/2+m-st) l))
 sB2:bY key (bf ((a+b)/2+m-st) b (if a<st/\st<(a+b)/2 then bA lt a ((a+b)/2) (cT T.dflt m st ((a+b)/2+m-st) l) else cT T.dflt m st ((a+b)/2+m-st) l))
def zbg {T:Ty} {lt:T.den->T.den->Bool} {key:T.den->Int} {a:Nat} {l:List T.den} (h1:a<m) (h2:m<b) (h3:b<=l.length) (hl:dd lt key l) (sA:bY key (bf a m l)) (sB:bY key (bf m b l)) :
  Sym3 lt key a m b (zem lt T.dflt a m b l) l:=by
 obtain⟨p,q,hL,hp,hA,hB,hq⟩:=Vf (ue0 h1) (ue0 h2) h3;have hAB:=hl.sub λz hz=>by
  rw[hL];rcases udo.1 hz with h|h
  ·exact ua5 _ (ubi _ h)
  ·exact ua5 _ (ua5 _ (ubi _ h))
 obtain⟨A1,A2,B1,B2,eA,eB,e1,e2,f1,f2⟩:=VK (d:=T.dflt) hp hA hB h1 h2 hAB sA sB;rw[<- hL] at e1 e2;rw[eA] at sA hA;rw[eB] at sB hB;rw[eA,eB] at hL;generalize zem lt T.dflt a m b l=st at e1 e2 |-;subst hL;simp at hA hB h3;have pA:=ubn.1 sA;have pB:=ubn.1 sB;have hen:(a+b)/2+m-st=m+B1.length:=by omega
 have hR:cT T.dflt m st ((a+b)/2+m-st) (p++(A1++A2++(B1++B2++q)))=p++(A1++(B1++(A2++(B2++q)))):=by
  rw[hen];unfold cT;split
  ·rename_i hc;have:=UA (d:=T.dflt) (a:=st) (m:=m) (x:=A2) (y:=B1) (p:=p++A1) (q:=B2++q) (by omega) (by omega) (by simp; omega) (by omega) rfl;simpa using this
  ·rename_i hc;by_cases hb1:B1=[]
   ·subst hb1; simp
   ·have:=ubx.2 hb1;have:A2=[]:=uay.1 (by omega);subst this; simp
 have same1:bh key (p++(A1++A2++(B1++B2++q))) (p++(A1++(B1++(A2++(B2++q))))):=by
  have h:=(bh.refl p).app (((bh.refl A1).app (bh.swap λx hx y hy=>by have:=f2 y hy x hx; omega:bh key (A2++B1) (B1++A2))).app (bh.refl (B2++q)));simpa using h
 have hl1:=hl.sub λz hz=>same1.mem.1 hz;have g1:bf a st (p++(A1++(B1++(A2++(B2++q)))))=A1:=rZ hp (by omega);have g2:bf st ((a+b)/2) (p++(A1++(B1++(A2++(B2++q)))))=B1:=by
  have:=rZ (p:=p++A1) (s:=B1) (q:=A2++(B2++q)) (a:=st) (b:=(a+b)/2) (by simp; omega) (by omega);simpa using this
 have hX:∀ TT:List T.den,TT.length=A1.length+B1.length->bf ((a+b)/2) ((a+b)/2+m-st) (p++(TT++(A2++(B2++q))))=A2/\bf ((a+b)/2+m-st) b (p++(TT++(A2++(B2++q))))=B2:=λTT hT=>by
  have k1:=rZ (p:=p++TT) (s:=A2) (q:=B2++q) (a:=(a+b)/2) (b:=(a+b)/2+m-st) (by simp; omega) (by omega);have k2:=rZ (p:=p++TT++A2) (s:=B2) (q:=q) (a:=(a+b)/2+m-st) (b:=b) (by simp; omega) (by omega);exact⟨by simpa using k1,by simpa using k2⟩
 have hlen:(p++(A1++(B1++(A2++(B2++q))))).length=(p++(A1++A2++(B1++B2++q))).length:=by simp; omega
 have hpart:a<st/\st<(a+b)/2->bA lt a ((a+b)/2) (p++(A1++(B1++(A2++(B2++q)))))=p++(cM lt (A1++B1)++(A2++(B2++q))):=λhc=>by
  have:=rE (lt:=lt) (b:=(a+b)/2) (s:=A1++B1) (q:=A2++(B2++q)) hp (by simp; omega);simpa using this
 refine⟨by omega,by omega,by omega,by omega,by omega,by omega,by rw[hR]; exact hlen,by rw[hR]; exact same1,by rw[hR,g1]; exact pA.1,by rw[hR,g2]; exact pB.1,?_,?_,?_,?_⟩
 ·rw[hR];split
  ·rw[rF (by omega) (by simp; omega)];exact hlen
  ·exact hlen
 ·rw[hR];split
  ·exact same1.trans (Ka (by omega) (by simp; omega) hl1)
  ·exact same1
 ·rw[hR];split
  ·rename_i hc;rw[hpart hc,(hX _ (by rw[mj]; simp)).1];exact pA.2.1
  ·have:=(hX (A1++B1) (by simp)).1;rw[show p++(A1++(B1++(A2++(B2++q))))=p++((A1++B1)++(A2++(B2++q))) by simp,this];exact pA.2.1
 ·rw[hR];split
  ·rename_i hc;rw[hpart hc,(hX _ (by rw[mj]; simp)).2];exact pB.2.1
  ·have:=(hX (A1++B1) (by simp)).2;rw[show p++(A1++(B1++(A2++(B2++q))))=p++((A1++B1)++(A2++(B2++q))) by simp,this];exact pB.2.1
def zbj {T:Ty} {lt:T.den->T.den->Bool} {key:T.den->Int} {a:Nat} {l:List T.den} (h1:a<m) (h2:m<b) (h3:b<=l.length) (hl:dd lt key l) (sA:bY key (bf a m l)) (sB:bY key (bf m b l)) :
  pO lt T.dflt a m b l=bA lt a b l:=by
 obtain⟨p,q,hL,hp,hA,hB,hq⟩:=Vf (ue0 h1) (ue0 h2) h3;generalize bf a m l=A at hL hA sA;generalize bf m b l=B at hL hB sB;subst hL;have hAB:=hl.sub λz hz=>by
  rcases udo.1 hz with h|h
  ·exact ua5 _ (ubi _ h)
  ·exact ua5 _ (ua5 _ (ubi _ h))
 rw[zbi hp hA hB h1 h2 hAB sA sB];have:=rE (lt:=lt) (b:=b) (s:=A++B) (q:=q) hp (by simp; omega);rw[<- this];simp
def F5 (p q:Prop) [Decidable p] [Decidable q]:(bif decide p then decide q else false)=decide (p/\q):=by
 by_cases p<;>by_cases q<;>simp_all
def VI {T:Ty} {aX en:Nat} {g:(aV T).den} {l:List T.den} (h:aX<en/\en<b->SymOk n aX en b g l) :
  ((zz e T) n aX en b g l).ok/\((zz e T) n aX en b g l).get=((if aX<en/\en<b then bA (aM g) aX b l else l),()):=by
 unfold zz;have hd:(bif decide ((aX:Int)<en) then decide ((en:Int)<b) else false)=decide (aX<en/\en<b):=by
  rw[F5,ude];omega
 rw[hd];by_cases hc:aX<en/\en<b
 ·rw[ud6 hc,if_pos hc];exact⟨⟨λ_=>⟨h hc,uT⟩,λhb=>by cases hb⟩,rfl⟩
 ·rw[udr hc,if_neg hc];exact⟨⟨λhb=>(by cases hb),λ_=>uT⟩,rfl⟩
def VH {T:Ty} {a st aX en:Nat} {g:(aV T).den} {l:List T.den} (h:a<st/\st<aX->SymOk n a st aX g l)
  (k:aX<en/\en<b->SymOk n aX en b g (if a<st/\st<aX then bA (aM g) a aX l else l)) :
  ((zy e T) n a st aX en b g l).ok/\((zy e T) n a st aX en b g l).get=((if aX<en/\en<b then bA (aM g) aX b (if a<st/\st<aX then bA (aM g) a aX l else l) else (if a<st/\st<aX then bA (aM g) a aX l else l)),()):=by
 unfold zy;have hd:(bif decide ((a:Int)<st) then decide ((st:Int)<aX) else false)=decide (a<st/\st<aX):=by
  rw[F5,ude];omega
 rw[hd];by_cases hc:a<st/\st<aX
 ·rw[if_pos hc] at k |-;rw[ud6 hc];obtain⟨h1,h2⟩:=VI k;exact⟨⟨λ_=>⟨h hc,h1⟩,λhb=>by cases hb⟩,h2⟩
 ·rw[if_neg hc] at k |-;rw[udr hc];obtain⟨h1,h2⟩:=VI k;exact⟨⟨λhb=>(by cases hb),λ_=>h1⟩,h2⟩
def zbh {T:Ty} {a st aX en:Nat} {g:(aV T).den} {l:List T.den} (hen:en<=l.length) (hbig:(l.length:Int)<=4611686018427387903)
  (h:a<st/\st<aX->SymOk n a st aX g (cT T.dflt m st en l))
  (k:aX<en/\en<b->SymOk n aX en b g (if a<st/\st<aX then bA (aM g) a aX (cT T.dflt m st en l) else cT T.dflt m st en l)) :
  ((Ek e T) n a m b st aX en g l).ok/\((Ek e T) n a m b st aX en g l).get=((if aX<en/\en<b then bA (aM g) aX b (if a<st/\st<aX then bA (aM g) a aX (cT T.dflt m st en l) else cT T.dflt m st en l) else (if a<st/\st<aX then bA (aM g) a aX (cT T.dflt m st en l) else cT T.dflt m st en l)),()):=by
 unfold Ek;have hd:(bif decide ((st:Int)<m) then decide ((m:Int)<en) else false)=decide (st<m/\m<en):=by
  rw[F5,ude];omega
 rw[hd];by_cases hc:st<m/\m<en
 ·have e:cT T.dflt m st en l=pC T.dflt st m en l:=by unfold cT; rw[if_pos hc]
  rw[e] at h k |-;rw[ud6 hc];obtain⟨h1,h2⟩:=VH h k;exact⟨⟨λ_=>⟨by omega,by omega,by omega,by omega,hbig,h1⟩,λhb=>by cases hb⟩,h2⟩
 ·have e:cT T.dflt m st en l=l:=by unfold cT; rw[if_neg hc]
  rw[e] at h k |-;rw[udr hc];obtain⟨h1,h2⟩:=VH h k;exact⟨⟨λhb=>(by cases hb),λ_=>h1⟩,h2⟩
def VL {T:Ty} (n a m b:Nat) (g:(aV T).den) (l:List T.den) (h:SymOk (n+1) a m b g l):((qY e T) n l ((a:Int),(m:Int),(b:Int),g,())).ok/\((qY e T) n l ((a:Int),(m:Int),(b:Int),g,())).get=(bA (aM g) a b l,()):=by
 obtain⟨_,h1,h2,h3,hbig,hsize,hdom,key,hl,sA,sB⟩:=h;have h1':a<m:=by omega
 have h2':m<b:=by omega
 have h3':b<=l.length:=by omega
 have hX:=zbj h1' h2' h3' hl sA sB;rw[<- hX];have w1:I6.wrap ((m:Int)-a)=(m-a:Nat):=zu (by omega) (by omega);have w2:I6.wrap ((b:Int)-m)=(b-m:Nat):=zu (by omega) (by omega);have hmid:cE (a:Int) b=((a+b)/2:Nat):=CI (by omega);dsimp only[qY];rw[w1,w2,hmid];by_cases c1:m-a=1
 ·have hc:(((m-a:Nat):Int)==1)=true:=by rw[c1]; rfl
  rw[hc];unfold pO;rw[if_pos c1];obtain⟨r1,r2⟩:=As (b-m) m b (by omega);have hb0:tg (a:Int) m b g l=(cp (λh=>aM g (l.getD h T.dflt) (l.getD a T.dflt)) (b-m) m b:Nat):=rfl;have e:(g.1,g.2)=g:=rfl;rw[hb0];generalize cp (λh=>aM g (l.getD h T.dflt) (l.getD a T.dflt)) (b-m) m b=r at r1 r2 |-;refine⟨⟨λ_=>⟨⟨by omega,by omega,by omega,by omega,by omega,hbig,hdom⟩,⟨by omega,by omega,by omega,hbig⟩,uT⟩,λhb=>by cases hb⟩,?_⟩;rw[show((r:Int)-1-a).toNat=r-1-a by omega];rfl
 ·have hc:(((m-a:Nat):Int)==1)=false:=by rw[ubu]; omega
  rw[hc];by_cases c2:b-m=1
  ·have hc:(((b-m:Nat):Int)==1)=true:=by rw[c2]; rfl
   rw[hc];unfold pO;rw[if_neg c1,if_pos c2];obtain⟨r1,r2⟩:=As (m-a) a m (by omega);have hb0:FN (m:Int) a m g l=(cp (λh=>!aM g (l.getD m T.dflt) (l.getD h T.dflt)) (m-a) a m:Nat):=rfl;have e:(g.1,g.2)=g:=rfl;rw[hb0];generalize cp (λh=>!aM g (l.getD m T.dflt) (l.getD h T.dflt)) (m-a) a m=r at r1 r2 |-;refine⟨⟨λhb=>(by cases hb),λ_=>⟨λ_=>⟨⟨by omega,by omega,by omega,by omega,by omega,hbig,hdom⟩,⟨by omega,by omega,by omega,hbig⟩,uT⟩,λhb=>by cases hb⟩⟩,?_⟩;rw[show((m:Int)-r).toNat=m-r by omega];rfl
  ·have hc:(((b-m:Nat):Int)==1)=false:=by rw[ubu]; omega
   rw[hc];have s3:=zbg h1' h2' h3' hl sA sB;have key3:∀ i j:Nat,(i=if (a+b)/2<m then (a+b)/2+m-b else a)->(j=if (a+b)/2<m then (a+b)/2 else m) ->
     ((zx e T) n a m b ((a+b)/2:Nat) i j g l).ok/\((zx e T) n a m b ((a+b)/2:Nat) i j g l).get=(pO (aM g) T.dflt a m b l,()):=λi j hi hj=>by
    have wp:I6.wrap (I6.wrap ((((a+b)/2:Nat):Int)+m)-1)=((a+b)/2+m-1:Nat):=by
     rw[Fo (by omega),Uk (by omega) (by omega)]
    have hS:Ar (((a+b)/2+m-1:Nat):Int) i j g l=(zem (aM g) T.dflt a m b l:Nat):=by
     unfold Ar zem;simp;rw[<- hi,<- hj]
    dsimp only[zx];have e:(g.1,g.2)=g:=rfl;rw[wp,e,hS];have we:I6.wrap (I6.wrap ((((a+b)/2:Nat):Int)+m)-(zem (aM g) T.dflt a m b l:Nat))=((a+b)/2+m-zem (aM g) T.dflt a m b l:Nat):=by
     have:=s3.s3;rw[Fo (by omega),zu (by omega) (by omega)]
    rw[we];have hSx:pO (aM g) T.dflt a m b l=(if (a+b)/2<(a+b)/2+m-zem (aM g) T.dflt a m b l/\(a+b)/2+m-zem (aM g) T.dflt a m b l<b then bA (aM g) ((a+b)/2) b (if a<zem (aM g) T.dflt a m b l/\zem (aM g) T.dflt a m b l<(a+b)/2 then bA (aM g) a ((a+b)/2) (cT T.dflt m (zem (aM g) T.dflt a m b l) ((a+b)/2+m-zem (aM g) T.dflt a m b l) l) else cT T.dflt m (zem (aM g) T.dflt a m b l) ((a+b)/2+m-zem (aM g) T.dflt a m b l) l) else (if a<zem (aM g) T.dflt a m b l/\zem (aM g) T.dflt a m b l<(a+b)/2 then bA (aM g) a ((a+b)/2) (cT T.dflt m (zem (aM g) T.dflt a m b l) ((a+b)/2+m-zem (aM g) T.dflt a m b l) l) else cT T.dflt m (zem (aM g) T.dflt a m b l) ((a+b)/2+m-zem (aM g) T.dflt a m b l) l)):=by
     conv=>lhs; unfold pO
     rw[if_neg c1,if_neg c2]
    rw[hSx];generalize zem (aM g) T.dflt a m b l=st at s3 |-;obtain⟨q1,q2,q3,q4,q5,q6,len1,same1,sA1,sB1,len2,same2,sA2,sB2⟩:=s3;obtain⟨o1,o2⟩:=zbh (n:=n) (by omega) hbig
     (λhc=>⟨by omega,by omega,by omega,by omega,by omega,by omega,hdom.sub λz hz=>same1.mem.1 hz,key,hl.sub λz hz=>same1.mem.1 hz,sA1,sB1⟩)
     (λhc=>⟨by omega,by omega,by omega,by omega,by omega,by omega,hdom.sub λz hz=>same2.mem.1 hz,key,hl.sub λz hz=>same2.mem.1 hz,sA2,sB2⟩)
    refine⟨⟨?_,o1⟩,o2⟩;refine⟨by omega,?_,?_,by omega,?_,?_,hbig,hdom⟩<;>(subst hi hj; split<;>omega)
   by_cases cm:m>(a+b)/2
   ·have hd:decide ((m:Int)>((a+b)/2:Nat))=true:=ud6 (by omega);rw[hd];have wi:I6.wrap (I6.wrap ((((a+b)/2:Nat):Int)+m)-b)=((a+b)/2+m-b:Nat):=by
     rw[Fo (by omega),zu (by omega) (by omega)]
    rw[wi];obtain⟨k1,k2⟩:=key3 ((a+b)/2+m-b) ((a+b)/2) (by rw[if_pos (by omega)]) (by rw[if_pos (by omega)]);exact⟨⟨λhb=>(by cases hb),λ_=>⟨λhb=>(by cases hb),λ_=>⟨by omega,λ_=>k1,λhb=>by cases hb⟩⟩⟩,k2⟩
   ·have hd:decide ((m:Int)>((a+b)/2:Nat))=false:=udr (by omega);rw[hd];obtain⟨k1,k2⟩:=key3 a m (by rw[if_neg (by omega)]) (by rw[if_neg (by omega)]);exact⟨⟨λhb=>(by cases hb),λ_=>⟨λhb=>(by cases hb),λ_=>⟨by omega,λhb=>(by cases hb),λ_=>k1⟩⟩⟩,k2⟩
def FH {T:Ty} {lt:T.den->T.den->Bool} {w:Nat} (hw:0<w):(f f' a:Nat)->(l:List T.den)->n<f+a->n<f'+a->dV lt w n f a l=dV lt w n f' a l
 |0,0,_,_,_,_=>rfl
 |0,f'+1,a,l,h,_=>by simp only[dV]; rw[if_neg (by omega)]
 |f+1,0,a,l,_,h=>by simp only[dV]; rw[if_neg (by omega)]
 |f+1,f'+1,a,l,h,h'=>by
  simp only[dV];split
  ·exact FH hw f f' _ _ (by omega) (by omega)
  ·rfl
def Kd {T:Ty} {lt:T.den->T.den->Bool}:(f f' w:Nat)->(l:List T.den)->0<w->n<=f+w->n<=f'+w->eK lt n f w l=eK lt n f' w l
 |0,0,_,_,_,_,_=>rfl
 |0,f'+1,w,l,hw,h,_=>by simp only[eK]; rw[if_neg (by omega)]
 |f+1,0,w,l,hw,_,h=>by simp only[eK]; rw[if_neg (by omega)]
 |f+1,f'+1,w,l,hw,h,h'=>by
  simp only[eK];split
  ·exact Kd f f' _ _ (by omega) (by omega) (by omega)
  ·rfl
abbrev big:Nat:=4611686018427387903
abbrev eN (e:TypeId) (T:Ty):Pt:=⟨63,0,⟨[(1,.d i64),(2,(aV T)),(6,.d i64),(7,.d i64),(8,.d i64)],[.al 10000 0,.o 0 e T]⟩,⟨[(1,.d i64),(2,(aV T)),(6,.d i64),(7,.d i64)],[.al 10000 0,.o 0 e T]⟩,⟨[],[]⟩⟩
noncomputable def xG (e:TypeId) (T:Ty) (x:(eN e T).M.X):Fr (eN e T).Out:=
 let n:=x.1.1; let g:=x.1.2.1; let bs:=x.1.2.2.1; let a:=x.1.2.2.2.1; let b:=x.1.2.2.2.2.1; let l:=x.2.1
 Jb (decide (b<=n))
  (Jd (0<=a)
   (Jd (a<=b)
    (Jd (b<=(l.length:Int))
     (Jd ((l.length:Int)<=4611686018427387903)
      (Jd (gR (g.1,g.2) l)
       (Jv (Rd.next ((n,(g.1,g.2),bs,b,I6.wrap (b+bs),()),(((kQ e T).f l (a,b,(g.1,g.2),())).1,())))))))))
  (Jv (Rd.out ((n,(g.1,g.2),bs,a,()),(l,()))))
structure InvBlk {T:Ty} (n bs a b:Int) (g:(aV T).den) (l:List T.den):Prop where
 nl:n=l.length
 big:n<=4611686018427387903
 tg:bs=20
 a0:0<=a
 an:a<=n
 ab:b=a+20
 ord:gR g l
def km {T:Ty} (n a:Int) (g:(aV T).den) (l:List T.den):Nat×List T.den:=dV (aM g) 20 n.toNat (n.toNat+1) a.toNat l
def sF (e:TypeId) (T:Ty) (x:(eN e T).M.X):Fr (eN e T).Out:=
 let n:=x.1.1; let g:=x.1.2.1; let bs:=x.1.2.2.1; let a:=x.1.2.2.2.1; let b:=x.1.2.2.2.2.1; let l:=x.2.1
 Jd (InvBlk n bs a b g l) (Jv (Rd.out ((n,g,bs,((km n a g l).1:Nat),()),((km n a g l).2,()))))
def JZ {T:Ty} {lt:T.den->T.den->Bool} {a:Nat} {l:List T.den} {x:T.den} (h:x∈bA lt a b l):x∈l:=by
 rcases udo.1 h with h|h
 ·exact ubo h
 ·rcases udo.1 h with h|h
  ·exact ubo (ubp (yZ.1 h))
  ·exact ubp h
def qpl {T:Ty} (n bs a b:Int) (g:(aV T).den) (l:List T.den) (hinv:InvBlk n bs a b g l) (Q:(eN e T).Out->Prop)
  (hq:Q (Rd.out ((n,g,bs,((km n a g l).1:Nat),()),((km n a g l).2,())))):((xG e T) ((n,g,bs,a,b,()),(l,()))).satP λ
   |.next x'=>InvBlk x'.1.1 x'.1.2.2.1 x'.1.2.2.2.1 x'.1.2.2.2.2.1 x'.1.2.1 x'.2.1/\(x'.1.1-x'.1.2.2.2.1).toNat<(n-a).toNat/\((sF e T) x').satP Q
   |.out y=>Q (.out y)
   |.back z=>Q (.back z)
   |.pan p=>Q (.pan p):=by
 obtain⟨h0,h1,h2,h3,h4,h5,h6⟩:=hinv;subst h2 h5;dsimp only[xG,Fr.satP,Ty.den,PT.den];refine⟨λhi=>?_,λhi=>?_⟩
 ·have hle:=ucv hi;have w:I6.wrap (a+20+20)=a+20+20:=IntWalk.i64_in _ (by omega);rw[w];have hlen:(bA (aM g) a.toNat (a+20).toNat l).length=l.length:=rF (by omega) (by omega);have hI:InvBlk n 20 (a+20) (a+20+20) g (bA (aM g) a.toNat (a+20).toNat l):=⟨by rw[hlen]; exact h0,h1,rfl,by omega,hle,rfl,h6.sub λx hx=>JZ hx⟩;refine⟨h3,by omega,by omega,by omega,h6,hI,by omega,hI,?_⟩;have e:km n a g l=km n (a+20) g (bA (aM g) a.toNat (a+20).toNat l):=by
   unfold km
   conv=>lhs; unfold dV
   rw[if_pos (by omega),show a.toNat+20=(a+20).toNat by omega];exact FH (by omega) _ _ _ _ (by omega) (by omega)
  rw[e] at hq;exact hq
 ·have hgt:=ucf hi;have e:km n a g l=(a.toNat,l):=by
   unfold km dV;rw[if_neg (by omega)]
  rw[e] at hq;have e2:((a.toNat:Nat):Int)=a:=by omega
  simp only[e2] at hq;exact hq
def S4 {T:Ty} {c:Code} (sem:ae P c (eN e T).M (eN e T) (xG e T)):ae P (.loop c) (eN e T).M (eN e T) (sF e T):=by
 refine ae.loop sem (μ:=λx=>(x.1.1-x.1.2.2.2.1).toNat) ?_ (λx Q h=>h.1);rintro⟨⟨n,g,bs,a,b,_⟩,⟨l,_⟩⟩ hinv Q hq;exact qpl n bs a b g l hinv Q hq.2
abbrev eQ (e:TypeId) (T:Ty):Pt:=⟨63,4,⟨[(1,.d i64),(2,(aV T)),(6,.d i64),(7,.d i64),(8,.d i64)],[.al 10000 0,.o 0 e T]⟩,⟨[(1,.d i64),(2,(aV T)),(6,.d i64),(7,.d i64)],[.al 10000 0,.o 0 e T]⟩,⟨[],[]⟩⟩
noncomputable def xL (e:TypeId) (T:Ty) (x:(eQ e T).M.X):Fr (eQ e T).Out:=
 let n:=x.1.1; let g:=x.1.2.1; let bs:=x.1.2.2.1; let a:=x.1.2.2.2.1; let b:=x.1.2.2.2.2.1; let l:=x.2.1
 Jb (decide (b<=n))
  (Jd (SymOk big a (I6.wrap (a+bs)) b (g.1,g.2) l)
   (Jv (Rd.next ((n,(g.1,g.2),bs,b,I6.wrap (b+I6.wrap (2*bs)),()),((((iP e T) big).f l (a,I6.wrap (a+bs),b,(g.1,g.2),())).1,())))))
  (Jv (Rd.out ((n,(g.1,g.2),bs,a,()),(l,()))))
structure InvPas {T:Ty} (n bs a b:Int) (g:(aV T).den) (l:List T.den):Prop where
 nl:n=l.length
 big:n<=4611686018427387903
 tg:0<bs
 bsn:bs<n
 a0:0<=a
 an:a<=n
 ab:b=a+2*bs
 mul:∃ c:Nat,a.toNat=c*(2*bs.toNat)
 dom:jv g l
 key:∃ key:T.den->Int,dd (aM g) key l/\∀ k:Nat,a.toNat<=k*bs.toNat->bY key (bf (k*bs.toNat) (k*bs.toNat+bs.toNat) l)
def gK {T:Ty} (n bs a:Int) (g:(aV T).den) (l:List T.den):Nat×List T.den:=dV (aM g) (2*bs.toNat) n.toNat (n.toNat+1) a.toNat l
def sI (e:TypeId) (T:Ty) (x:(eQ e T).M.X):Fr (eQ e T).Out:=
 let n:=x.1.1; let g:=x.1.2.1; let bs:=x.1.2.2.1; let a:=x.1.2.2.2.1; let b:=x.1.2.2.2.2.1; let l:=x.2.1
 Jd (InvPas n bs a b g l) (Jv (Rd.out ((n,g,bs,((gK n bs a g l).1:Nat),()),((gK n bs a g l).2,()))))
def qpx {T:Ty} (n bs a b:Int) (g:(aV T).den) (l:List T.den) (hinv:InvPas n bs a b g l) (Q:(eQ e T).Out->Prop)
  (hq:Q (Rd.out ((n,g,bs,((gK n bs a g l).1:Nat),()),((gK n bs a g l).2,())))):((xL e T) ((n,g,bs,a,b,()),(l,()))).satP λ
   |.next x'=>InvPas x'.1.1 x'.1.2.2.1 x'.1.2.2.2.1 x'.1.2.2.2.2.1 x'.1.2.1 x'.2.1/\(x'.1.1-x'.1.2.2.2.1).toNat<(n-a).toNat/\((sI e T) x').satP Q
   |.out y=>Q (.out y)
   |.back z=>Q (.back z)
   |.pan p=>Q (.pan p):=by
 obtain⟨h0,h1,h2,h3,h4,h5,h6,⟨c,h7⟩,h8,key,h9,h10⟩:=hinv;subst h6;dsimp only[xL,Fr.satP,Ty.den,PT.den,iP];have w1:I6.wrap (a+bs)=a+bs:=IntWalk.i64_in _ (by omega);have w2:I6.wrap (2*bs)=2*bs:=IntWalk.i64_in _ (by omega);rw[w1,w2];refine⟨λhi=>?_,λhi=>?_⟩
 ·have hle:=ucv hi;have hseg1:bY key (bf a.toNat (a+bs).toNat l):=by
   have:=h10 (2*c) (by rw[h7,<- uej,uer c 2]; exact ue4 _)
   rwa [show 2*c*bs.toNat=a.toNat by rw[h7,<- uej,uer c 2],show a.toNat+bs.toNat=(a+bs).toNat by omega] at this
  have hseg2:bY key (bf (a+bs).toNat (a+2*bs).toNat l):=by
   have e:(2*c+1)*bs.toNat=(a+bs).toNat:=by
    rw[ues,show 2*c*bs.toNat=a.toNat by rw[h7,<- uej,uer c 2]];omega
   have:=h10 (2*c+1) (by omega)
   rwa [e,show(a+bs).toNat+bs.toNat=(a+2*bs).toNat by omega] at this
  have hlen:(bA (aM g) a.toNat (a+2*bs).toNat l).length=l.length:=rF (by omega) (by omega);by_cases hbig:a+2*bs+2*bs<=9223372036854775807
  ·have w3:I6.wrap (a+2*bs+2*bs)=a+2*bs+2*bs:=IntWalk.i64_in _ (by omega);rw[w3];have hI:InvPas n bs (a+2*bs) (a+2*bs+2*bs) g (bA (aM g) a.toNat (a+2*bs).toNat l):=⟨by rw[hlen]; exact h0,h1,h2,h3,by omega,hle,rfl,⟨c+1,by rw[ues,<- h7]; omega⟩,h8.sub λx hx=>JZ hx,key,h9.sub λx hx=>JZ hx,λk hk=>by
    rw[DB (Pw (by omega) (by omega) (ue4 _)) hk];exact h10 k (by omega)⟩
   refine⟨⟨h4,by omega,by omega,by omega,by omega,by simp; omega,h8,key,h9,hseg1,hseg2⟩,hI,by omega,hI,?_⟩;have e:gK n bs a g l=gK n bs (a+2*bs) g (bA (aM g) a.toNat (a+2*bs).toNat l):=by
    unfold gK
    conv=>lhs; unfold dV
    rw[if_pos (by omega),show a.toNat+2*bs.toNat=(a+2*bs).toNat by omega];exact FH (by omega) _ _ _ _ (by omega) (by omega)
   rw[e] at hq;exact hq
  ·exfalso;omega
 ·have hgt:=ucf hi;have e:gK n bs a g l=(a.toNat,l):=by
   unfold gK dV;rw[if_neg (by omega)]
  rw[e] at hq;have e2:((a.toNat:Nat):Int)=a:=by omega
  simp only[e2] at hq;exact hq
def S7 {T:Ty} {c:Code} (sem:ae P c (eQ e T).M (eQ e T) (xL e T)):ae P (.loop c) (eQ e T).M (eQ e T) (sI e T):=by
 refine ae.loop sem (μ:=λx=>(x.1.1-x.1.2.2.2.1).toNat) ?_ (λx Q h=>h.1);rintro⟨⟨n,g,bs,a,b,_⟩,⟨l,_⟩⟩ hinv Q hq;exact qpx n bs a b g l hinv Q hq.2
abbrev eM (e:TypeId) (T:Ty):Pt:=⟨63,2,⟨[(1,.d i64),(2,(aV T)),(6,.d i64)],[.al 10000 0,.o 0 e T]⟩,⟨[],[.al 10000 0,.o 0 e T]⟩,⟨[],[]⟩⟩
noncomputable def xF (e:TypeId) (T:Ty) (x:(eM e T).M.X):Fr (eM e T).Out:=
 let n:=x.1.1; let g:=x.1.2.1; let bs:=x.1.2.2.1; let l:=x.2.1
 let r:=gK n bs 0 (g.1,g.2) l
 Jb (decide (bs<n))
  (Jd (InvPas n bs 0 (I6.wrap (2*bs)) (g.1,g.2) l)
   (Jb (decide (I6.wrap ((r.1:Int)+bs)<n))
    (Jd (SymOk big r.1 (I6.wrap ((r.1:Int)+bs)) n (g.1,g.2) r.2)
     (Jv (Rd.next ((n,(g.1,g.2),I6.wrap (bs*2),()),((((iP e T) big).f r.2 ((r.1:Int),I6.wrap ((r.1:Int)+bs),n,(g.1,g.2),())).1,())))))
    (Jv (Rd.next ((n,(g.1,g.2),I6.wrap (bs*2),()),(r.2,()))))))
  (Jv (Rd.out ((),(l,()))))
structure InvAll {T:Ty} (n bs:Int) (g:(aV T).den) (l:List T.den):Prop where
 nl:n=l.length
 big:n<=4611686018427387903
 tg:0<bs
 dom:jv g l
 key:∃ key:T.den->Int,dd (aM g) key l/\wt key bs.toNat l
def sE (e:TypeId) (T:Ty) (x:(eM e T).M.X):Fr (eM e T).Out:=
 let n:=x.1.1; let g:=x.1.2.1; let bs:=x.1.2.2.1; let l:=x.2.1
 Jd (InvAll n bs g l) (Jv (Rd.out ((),(eK (aM g) n.toNat n.toNat bs.toNat l,()))))
def qpj {T:Ty} (n bs:Int) (g:(aV T).den) (l:List T.den) (hinv:InvAll n bs g l) (Q:(eM e T).Out->Prop)
  (hq:Q (Rd.out ((),(eK (aM g) n.toNat n.toNat bs.toNat l,())))):((xF e T) ((n,g,bs,()),(l,()))).satP λ
   |.next x'=>InvAll x'.1.1 x'.1.2.2.1 x'.1.2.1 x'.2.1/\(x'.1.1-x'.1.2.2.1).toNat<(n-bs).toNat/\((sE e T) x').satP Q
   |.out y=>Q (.out y)
   |.back z=>Q (.back z)
   |.pan p=>Q (.pan p):=by
 obtain⟨h0,h1,h2,h3,key,h4,h5⟩:=hinv;dsimp only[xF,Ty.den,PT.den,iP];refine⟨λhi=>?_,λhi=>?_⟩
 ·have hlt:=ucv hi;have w1:I6.wrap (2*bs)=2*bs:=IntWalk.i64_in _ (by omega);have w2:I6.wrap (bs*2)=bs*2:=IntWalk.i64_in _ (by omega);have hr:=wK (w:=2*bs.toNat) (n:=n.toNat) (by omega) (n.toNat+1) 0 l (by omega) (by omega) (by omega) ⟨0,by simp⟩ h4 (λk hk=>by omega);obtain⟨p1,p2,p3⟩:=TW (n:=n.toNat) (by omega) (by omega) h4 h5;have hpas:kU (aM g) bs.toNat n.toNat l=if (gK n bs 0 g l).1+bs.toNat<n.toNat then bA (aM g) (gK n bs 0 g l).1 n.toNat (gK n bs 0 g l).2 else (gK n bs 0 g l).2:=rfl
  have hstep:eK (aM g) n.toNat n.toNat bs.toNat l=eK (aM g) n.toNat n.toNat (bs*2).toNat (kU (aM g) bs.toNat n.toNat l):=by
   obtain⟨f,hf⟩:∃ f,n.toNat=f+1:=⟨n.toNat-1,by omega⟩
   conv=>lhs; rw[show eK (aM g) n.toNat n.toNat bs.toNat l=eK (aM g) n.toNat (f+1) bs.toNat l by rw[<- hf]]
   simp only[eK];rw[if_pos (by omega),show(bs*2).toNat=2*bs.toNat by omega];exact Kd _ _ _ _ (by omega) (by omega) (by omega)
  have hI:InvAll n (bs*2) g (kU (aM g) bs.toNat n.toNat l):=⟨by omega,h1,by omega,h3.sub λx hx=>p2.mem.1 hx,key,h4.sub λx hx=>p2.mem.1 hx,by rw[show(bs*2).toNat=2*bs.toNat by omega]; exact p1⟩;have hfin:InvAll n (bs*2) g (kU (aM g) bs.toNat n.toNat l)/\(n-bs*2).toNat<(n-bs).toNat/\InvAll n (bs*2) g (kU (aM g) bs.toNat n.toNat l)/\Q (Rd.out ((),(eK (aM g) n.toNat n.toNat (bs*2).toNat (kU (aM g) bs.toNat n.toNat l),()))):=⟨hI,by omega,hI,by rw[<- hstep]; exact hq⟩;rw[w1,w2];have hb:(dV (aM g) (2*bs.toNat) n.toNat (n.toNat+1) 0 l)=gK n bs 0 g l:=rfl;rw[hb] at hr;refine⟨⟨h0,h1,h2,hlt,ue5 _,by omega,by omega,⟨0,by simp⟩,h3,key,h4,λk _=>h5 k⟩,?_⟩;have e:(g.1,g.2)=g:=rfl;generalize gK n bs 0 g l=r at hr hpas |-;obtain⟨⟨c,hc⟩,q2,q3,q4,q5,q6,q7⟩:=hr;have w3:I6.wrap ((r.1:Int)+bs)=r.1+bs:=IntWalk.i64_in _ (by omega);rw[w3];refine⟨λhj=>?_,λhj=>?_⟩
  ·have hj':=ucv hj;rw[if_pos (by omega)] at hpas;have hd:=q6;have hm1:2*c*bs.toNat=r.1:=by rw[hc,<- uej,uer c 2]
   have hm2:(2*c+1)*bs.toNat=r.1+bs.toNat:=by rw[ues,hm1]
   have s1:bY key (bf r.1 (r.1+bs.toNat) r.2):=by
    rw[DB hd (ue4 _),<- hm1];exact h5 (2*c)
   have s2:bY key (bf (r.1+bs.toNat) n.toNat r.2):=by
    have:bf (r.1+bs.toNat) n.toNat r.2=bf (r.1+bs.toNat) (r.1+bs.toNat+bs.toNat) r.2:=by
     unfold bf;rw[ua2 (by omega),ua2 (by omega)]
    rw[this,DB hd (by omega),<- hm2];exact h5 (2*c+1)
   refine⟨⟨by omega,by omega,by omega,by omega,by omega,by simp; omega,h3.sub λx hx=>q5.mem.1 hx,key,h4.sub λx hx=>q5.mem.1 hx,?_,?_⟩,?_⟩
   ·rw[show((r.1:Int)+bs).toNat=r.1+bs.toNat by omega];exact s1
   ·rw[show((r.1:Int)+bs).toNat=r.1+bs.toNat by omega];exact s2
   ·rw[hpas] at hfin;exact hfin
  ·have hj':=ucf hj;rw[if_neg (by omega)] at hpas;rw[hpas] at hfin;exact hfin
 ·have hge:=ucf hi;have:eK (aM g) n.toNat n.toNat bs.toNat l=l:=by
   rw[Kd _ 0 _ _ (by omega) (by omega) (by omega)];rfl
  rw[this] at hq;exact hq
def S3 {T:Ty} {c:Code} (sem:ae P c (eM e T).M (eM e T) (xF e T)):ae P (.loop c) (eM e T).M (eM e T) (sE e T):=by
 refine ae.loop sem (μ:=λx=>(x.1.1-x.1.2.2.1).toNat) ?_ (λx Q h=>h.1);rintro⟨⟨n,g,bs,_⟩,⟨l,_⟩⟩ hinv Q hq;exact qpj n bs g l hinv Q hq.2
noncomputable def nk (e:TypeId) (T:Ty):Mt:=⟨e,T,[.d i64,(aV T)],[],λl x=>(cM (aM x.2.1) l,()),λl x=>[x.1=l.length,(l.length:Int)<=4611686018427387903,gR x.2.1 l]⟩
noncomputable def xT (e:TypeId) (T:Ty) (l:List T.den) (x:ag [.d i64,(aV T)]):Fr (List T.den×aa []):=
 let n:=x.1; let g:=x.2.1
 let r:=km n 0 (g.1,g.2) l
 Jd (InvBlk n 20 0 20 (g.1,g.2) l)
 (Jd ((0:Int)<=r.1)
  (Jd ((r.1:Int)<=n)
   (Jd (n<=(r.2.length:Int))
    (Jd ((r.2.length:Int)<=4611686018427387903)
     (Jd (gR (g.1,g.2) r.2)
      (Jd (InvAll n 20 (g.1,g.2) ((kQ e T).f r.2 ((r.1:Int),n,(g.1,g.2),())).1)
       (Jv (eK (aM (g.1,g.2)) n.toNat n.toNat (20:Int).toNat ((kQ e T).f r.2 ((r.1:Int),n,(g.1,g.2),())).1,()))))))))
def Vu {T:Ty} (l:List T.den) (xs:ag (nk e T).ps) (hlen:l.length<=maxLen) (hok:av ((nk e T).ok l xs)):av [((xT e T) l xs).ok]/\((xT e T) l xs).get=(nk e T).f l xs:=by
 obtain⟨n,g,rfl⟩:∃ (n:Int) (g:(aV T).den),xs=(n,g,()):=⟨xs.1,xs.2.1,rfl⟩;have hok':(n:Int)=(List.length (α:=T.den) l:Int)/\(List.length (α:=T.den) l:Int)<=4611686018427387903/\gR g l:=hok;obtain⟨h1,h2,h3,key,h4⟩:=hok';subst h1;have hr:=wK (key:=key) (lt:=aM g) (w:=20) (n:=List.length (α:=T.den) l) (by omega) (List.length (α:=T.den) l+1) 0 l (by omega) (by omega) rfl ⟨0,by simp⟩ h4 (λk hk=>by omega);have hS:=zap h4;unfold KV at hS;have hb:km (List.length (α:=T.den) l:Int) 0 g l=dV (aM g) 20 (List.length (α:=T.den) l) (List.length (α:=T.den) l+1) 0 l:=rfl;dsimp only[xT,Fr.ok,Fr.get,Ty.den,PT.den,kQ,nk];have e:(g.1,g.2)=g:=rfl;simp only[e,hb];simp only at hS;generalize dV (aM g) 20 (List.length (α:=T.den) l) (List.length (α:=T.den) l+1) 0 l=r at hr hS |-;obtain⟨p1,p2,p3⟩:=hr.last h4;have q2:=hr.le;have q4:=hr.len;have hm:∀ x∈r.2,x∈l:=λx hx=>hr.same.mem.1 hx;have hm2:∀ x∈bA (aM g) r.1 (List.length (α:=T.den) l) r.2,x∈l:=λx hx=>p2.mem.1 hx;refine⟨⟨⟨rfl,h2,rfl,by omega,by omega,rfl,h3,key,h4⟩,by omega,by omega,by omega,by omega,⟨h3.sub hm,key,h4.sub hm⟩,⟨ufm (λn:Nat=>(n:Int)) p3.symm,h2,by omega,h3.sub hm2,key,h4.sub hm2,p1⟩,uT⟩,?_⟩;show(eK (aM g) (List.length (α:=T.den) l) (List.length (α:=T.den) l) 20 (bA (aM g) r.1 (List.length (α:=T.den) l) r.2),())=(cM (aM g) l,());rw[hS]
noncomputable def pd (e:TypeId) (T:Ty):Mt:=⟨e,T,[(aV T)],[],λl x=>(cM (aM x.1) l,()),λl x=>[(l.length:Int)<=4611686018427387903,gR x.1 l]⟩
noncomputable def BZ (e:TypeId) (T:Ty) (l:List T.den) (x:ag [(aV T)]):Fr (List T.den×aa []):=
 let b:=(x.1.1,x.1.2);let a:=(l.length:Int);Jd (a=l.length) (Jd (a<=4611686018427387903) (Jd (gR b l) (Jv (((nk e T).f l (a,b,())).1,()))))
def Vo {T:Ty} (l:List T.den) (xs:ag (pd e T).ps) (hlen:l.length<=maxLen) (hok:av ((pd e T).ok l xs)):av [((BZ e T) l xs).ok]/\((BZ e T) l xs).get=(pd e T).f l xs:=by
 obtain⟨g,rfl⟩:∃ g:(aV T).den,xs=(g,()):=⟨xs.1,rfl⟩;exact⟨⟨rfl,hok.1,hok.2,uT⟩,rfl⟩
abbrev qdy:PT:=aV i64
noncomputable abbrev J3:Mt:=pd 3 i64
noncomputable def IV:Code:=((Go.Ab.loopB (au f225 0) 0).getD .skip)
def qzc:ae prog IV (eO 3 i64).M (eO 3 i64) (xI 3 i64):=
 dn aH
def qqy:ae prog (.loop IV) (eO 3 i64).M (eO 3 i64) (sG 3 i64):=S5 qzc
noncomputable def WN:Nat->St->Option Tr:=λ_=>(eO 3 i64).han dB.Γ (eO 3 i64).M (sG 3 i64)
def qpa {E:Env}:bP prog E WN (au f225 0) 0:=
 kP (b:=IV) (by kernel_rfl) (by kernel_rfl) (ae.han aH rfl qqy)
def qze:ae prog (au f225 0) (eP 3 i64).M (eP 3 i64) (xJ 3 i64):=
 ae.of_run aH (bs:=0) (Λ:=WN) rfl rfl rfl (λE=>qpa) (λx=>by kernel_rfl)
def qq0:ae prog (.loop (au f225 0)) (eP 3 i64).M (eP 3 i64) (sH 3 i64):=S6 qze
noncomputable def zdp:Nat->St->Option Tr:=λ_=>(eP 3 i64).han dB.Γ (eP 3 i64).M (sH 3 i64)
def qod:SoundMt prog 225 (kQ 3 i64):=
 gW (iq aH (Λ:=zdp) (fn:=f225) (fr:=(xK 3 i64)) (e:=3) (T:=i64) (ps:=[.d i64,.d i64,(aV i64)]) (rs:=[]) (0,0,(λ_=>(0,()),λ_=>True),()) (by kernel_rfl) rfl rfl
  (λc E hc=>ea hc (by kernel_rfl) (b:=au f225 0) (by kernel_rfl) (ae.han aH rfl qq0)) (λl x=>by kernel_rfl)) _ _ λ_ _ l xs _ _ hlen _ hok=>RO l xs hlen hok
def qzy:ae prog (au f239 0) (eX 3 i64).M (eX 3 i64) (xU 3 i64):=
 dn aH
def qrm:ae prog (.loop (au f239 0)) (eX 3 i64).M (eX 3 i64) (sP 3 i64):=SE qzy
noncomputable def zdw:Nat->St->Option Tr:=λ_=>(eX 3 i64).han dB.Γ (eX 3 i64).M (sP 3 i64)
def zbf:SoundMt prog 239 (jL 3 i64):=
 gW (iq aH (Λ:=zdw) (fn:=f239) (fr:=(Ca 3 i64)) (e:=3) (T:=i64) (ps:=[.d i64,.d i64,.d i64,(aV i64)]) (rs:=[]) (0,0,0,(λ_=>(0,()),λ_=>True),()) (by kernel_rfl) rfl rfl
  (λc E hc=>ea hc (by kernel_rfl) (b:=au f239 0) (by kernel_rfl) (ae.han aH rfl qrm)) (λl x=>by kernel_rfl)) _ _ λ_ _ l xs _ _ hlen _ hok=>VE l xs hlen hok
noncomputable def LX:Cx:=cW [] [] (fG (cx [] []).Γ 239 (jL 3 i64))
def EH:CxOK prog LX:=cZ aG trivial trivial (gu aH.ct zbf)
def qzl:ae prog (au f235 0) (eR 3 i64).M (eR 3 i64) (xM 3 i64):=
 dn EH
def qq9:ae prog (.loop (au f235 0)) (eR 3 i64).M (eR 3 i64) (sJ 3 i64):=S8 qzl
noncomputable def zds:Nat->St->Option Tr:=λ_=>(eR 3 i64).han LX.Γ (eR 3 i64).M (sJ 3 i64)
def qxz:SoundMt prog 235 (pb 3 i64):=
 gW (iq EH (Λ:=zds) (fn:=f235) (fr:=(xN 3 i64)) (e:=3) (T:=i64) (ps:=[.d i64,.d i64,.d i64,(aV i64)]) (rs:=[]) (0,0,0,(λ_=>(0,()),λ_=>True),()) (by kernel_rfl) rfl rfl
  (λc E hc=>ea hc (by kernel_rfl) (b:=au f235 0) (by kernel_rfl) (ae.han EH rfl qq9)) (λl x=>by kernel_rfl)) _ _ λ_ _ l xs _ _ hlen _ hok=>UB l xs hlen hok
def qzn:ae prog (au f226 0) (eS 3 i64).M (eS 3 i64) (xO 3 i64):=
 dn aH
def qrb:ae prog (.loop (au f226 0)) (eS 3 i64).M (eS 3 i64) (sK 3 i64):=S9 qzn
def qzr:ae prog (au f226 2) (eU 3 i64).M (eU 3 i64) (xQ 3 i64):=
 dn aH
def qrf:ae prog (.loop (au f226 2)) (eU 3 i64).M (eU 3 i64) (sM 3 i64):=SB qzr
def qzv:ae prog (au f226 4) (eW 3 i64).M (eW 3 i64) (xS 3 i64):=
 dn aH
def qrj:ae prog (.loop (au f226 4)) (eW 3 i64).M (eW 3 i64) (sO 3 i64):=SD qzv
def qzp:ae prog (au f226 1) (eT 3 i64).M (eT 3 i64) (xP 3 i64):=
 dn aH
def qrd:ae prog (.loop (au f226 1)) (eT 3 i64).M (eT 3 i64) (sL 3 i64):=SA qzp
def qzt:ae prog (au f226 3) (eV 3 i64).M (eV 3 i64) (xR 3 i64):=
 dn aH
def qrh:ae prog (.loop (au f226 3)) (eV 3 i64).M (eV 3 i64) (sN 3 i64):=SC qzt
noncomputable def Ma (n:Nat):Cx:=cW [] [] (iS (fG (cx [] []).Γ 235 (pb 3 i64)) (fG (cx [] []).Γ 226 ((iP 3 i64) n)))
def Xs (h:SoundMt prog 226 ((iP 3 i64) n)):CxOK prog (Ma n):=cZ aG trivial trivial (jN (gu aH.ct qxz) (gu aH.ct h))
noncomputable def LL:Nat->St->Option Tr
 |0=>(eS 3 i64).han dB.Γ (eS 3 i64).M (sK 3 i64)
 |1=>(eT 3 i64).han dB.Γ (eT 3 i64).M (sL 3 i64)
 |2=>(eU 3 i64).han dB.Γ (eU 3 i64).M (sM 3 i64)
 |3=>(eV 3 i64).han dB.Γ (eV 3 i64).M (sN 3 i64)
 |_=>(eW 3 i64).han dB.Γ (eW 3 i64).M (sO 3 i64)
def qpe {E:Env} {c:Code} (hc:f226.body=some c):bP prog E LL c 0:=by
 have hn:(f226.body.map ce)=some 5:=by kernel_rfl
 have b0:f226.body.bind (Go.Ab.loopB · 0)=some (au f226 0):=by kernel_rfl
 have b1:f226.body.bind (Go.Ab.loopB · 1)=some (au f226 1):=by kernel_rfl
 have b2:f226.body.bind (Go.Ab.loopB · 2)=some (au f226 2):=by kernel_rfl
 have b3:f226.body.bind (Go.Ab.loopB · 3)=some (au f226 3):=by kernel_rfl
 have b4:f226.body.bind (Go.Ab.loopB · 4)=some (au f226 4):=by kernel_rfl
 have hb:∀ i,i<5->f226.body.bind (Go.Ab.loopB · i)=some (au f226 i):=λi hi=>match i,hi with
  |0,_=>b0
  |1,_=>b1
  |2,_=>b2
  |3,_=>b3
  |4,_=>b4
 rw[hc] at hn hb;simp only[Option.map_some,ucj] at hn;simp only[uc7] at hb;refine jJ c 0 λi b' hb'=>?_;have hlt:=loopB_lt hb';rw[hn] at hlt;have e:=hb i hlt;rw[e] at hb';cases hb'
 match i,hlt with
 |0,_=>exact ae.han aH rfl qrb
 |1,_=>exact ae.han aH rfl qrd
 |2,_=>exact ae.han aH rfl qrf
 |3,_=>exact ae.han aH rfl qrh
 |4,_=>exact ae.han aH rfl qrj
def qyb (n:Nat) (l:List (i64).den) (x:ag [.d i64,.d i64,.d i64,(aV i64)]):yS prog (Ma n) LL f226 3 i64 [.d i64,.d i64,.d i64,(aV i64)] [] l x=some ((qY 3 i64) n l x):=by kernel_rfl
def VJ:(n:Nat)->SoundMt prog 226 ((iP 3 i64) n)
 |0=>by
  have hf:prog.funcs[226]? = some f226:=by kernel_rfl
  obtain⟨c,hb⟩:∃ c,f226.body=some c:=⟨_,rfl⟩;refine⟨by decide,rfl,rfl,enters hf hb (by kernel_rfl),λw F l xs v vs rows _ _ _ _ _ _ _ hok=>?_⟩;have h:SymOk 0 xs.1 xs.2.1 xs.2.2.1 xs.2.2.2.1 l:=hok;have h1:=h.am;have h2:=h.mb;have h3:=h.size;omega
 |n+1=>by
  refine gW (iq (Xs (VJ n)) (Λ:=LL) (fn:=f226) (fr:=(qY 3 i64) n) (e:=3) (T:=i64) (ps:=[.d i64,.d i64,.d i64,(aV i64)]) (rs:=[]) (0,0,0,(λ_=>(0,()),λ_=>True),()) (by kernel_rfl) rfl rfl
   (λc E hc=>qpe hc) (qyb n)) _ _ λw F l xs vs _ _ _ hok=>?_
  obtain⟨a,m,b,g,rfl⟩:∃ (a m b:Int) (g:(aV i64).den),xs=(a,m,b,g,()):=⟨xs.1,xs.2.1,xs.2.2.1,xs.2.2.2.1,rfl⟩;have h:SymOk (n+1) a m b g l:=hok;have h0:=h.a0;have h1:=h.am;have h2:=h.mb;obtain⟨a',rfl⟩:∃ n:Nat,a=n:=⟨a.toNat,by omega⟩;obtain⟨m',rfl⟩:∃ n:Nat,m=n:=⟨m.toNat,by omega⟩;obtain⟨b',rfl⟩:∃ n:Nat,b=n:=⟨b.toNat,by omega⟩;exact VL n a' m' b' g l h
noncomputable def zL:Cx:=cW [] [] (iS (fG (cx [] []).Γ 225 (kQ 3 i64)) (fG (cx [] []).Γ 226 ((iP 3 i64) big)))
def qk:CxOK prog zL:=cZ aG trivial trivial (jN (gu aH.ct qod) (gu aH.ct (VJ big)))
def qy7:ae prog (au f208 0) (eN 3 i64).M (eN 3 i64) (xG 3 i64):=
 dn qk
def qqr:ae prog (.loop (au f208 0)) (eN 3 i64).M (eN 3 i64) (sF 3 i64):=S4 qy7
noncomputable def Kb:Code:=((Go.Ab.loopB (au f208 1) 0).getD .skip)
def qzj:ae prog Kb (eQ 3 i64).M (eQ 3 i64) (xL 3 i64):=
 dn qk
def qq5:ae prog (.loop Kb) (eQ 3 i64).M (eQ 3 i64) (sI 3 i64):=S7 qzj
noncomputable def WP:Nat->St->Option Tr:=λ_=>(eQ 3 i64).han zL.Γ (eQ 3 i64).M (sI 3 i64)
def qpc {E:Env}:bP prog E WP (au f208 1) 0:=
 kP (b:=Kb) (by kernel_rfl) (by kernel_rfl) (ae.han qk rfl qq5)
def qy5:ae prog (au f208 1) (eM 3 i64).M (eM 3 i64) (xF 3 i64):=
 ae.of_run qk (bs:=0) (Λ:=WP) rfl rfl rfl (λE=>qpc) (λx=>by kernel_rfl)
def qqp:ae prog (.loop (au f208 1)) (eM 3 i64).M (eM 3 i64) (sE 3 i64):=S3 qy5
noncomputable def zdu:Nat->St->Option Tr
 |0=>(eN 3 i64).han zL.Γ (eN 3 i64).M (sF 3 i64)
 |_=>(eM 3 i64).han zL.Γ (eM 3 i64).M (sE 3 i64)
def zao:SoundMt prog 208 (nk 3 i64):=
 gW (iq qk (Λ:=zdu) (fn:=f208) (fr:=(xT 3 i64)) (e:=3) (T:=i64) (ps:=[.d i64,(aV i64)]) (rs:=[]) (0,(λ_=>(0,()),λ_=>True),()) (by kernel_rfl) rfl rfl
  (λc E hc=>C8 hc (by kernel_rfl) (b0:=au f208 0) (b1:=au f208 1) (by kernel_rfl) (by kernel_rfl) (ae.han qk rfl qqr) (ae.han qk rfl qqp)) (λl x=>by kernel_rfl)) _ _ λ_ _ l xs _ _ hlen _ hok=>Vu l xs hlen hok
noncomputable def Xt:Cx:=cW [] [] (fG (cx [] []).Γ 208 (nk 3 i64))
def Xw:CxOK prog Xt:=cZ aG trivial trivial (gu aH.ct zao)
def zad:SoundMt prog 182 (pd 3 i64):=
 gW (iq Xw (Λ:=bw) (fn:=f182) (fr:=(BZ 3 i64)) (e:=3) (T:=i64) (ps:=[(aV i64)]) (rs:=[]) ((λ_=>(0,()),λ_=>True),()) (by kernel_rfl) rfl rfl
  (λc E _=>aY c 0) (λl x=>by kernel_rfl)) _ _ λ_ _ l xs _ _ hlen _ hok=>Vo l xs hlen hok
end Go.Proofs.YtmcjmjbeknbddaaGreat
