/-
  Parts of the proof, one behind the other.
-/
import Derived.Test.YtdokapnnagbehaaGreatMo
set_option linter.all false
set_option maxRecDepth 100000
set_option maxHeartbeats 4000000
open Option renaming some->U,none->V
open Bool renaming true->Z,false->Y
open Decidable renaming decide->J
open Go Go.RowKit
variable {T α σ ρ β:Type} {P:Program} {ad:Addr} {arr cs cur:Array Value} {f:FuncId} {x a y day:Int} {k:IntKind} {l:List Int} {xs vs news:List Value} {off i n b c d j B m len:Nat} {F F' K:Nat->Prop} {R g R':Nat->Value->Prop} {o:Oper} {p:Prop} {e ety t ty el:TypeId} {v u vx:Value} {w w' W' W:World}
namespace Go.Proofs.YtdokapnnagbehaaGreat
open Go Go.Ab Go.RowKit Go.Proofs Tryz
open Go.Ab.Fr renaming val->Jv,need->Jd,br->Jb
def zg8:oO zfn:=by
 unfold oO bD zlt bJ bL LC;decide +kernel
def zfs:bJ zey.1:=by
 unfold bJ LC;decide +kernel
def zf2:Ct:=⟨[],[.bool],λ_=>(Z,()),λ_=>[]⟩
def zg1:af prog 13 zf2:=conv zg2 _ _ (λ_ _ _ _ _ _=>by
 have h:=zg8;have a:=qhr h;exact⟨⟨zfs,zfs,h.1,a,h.1,a,h.1,a,h.1,zfs,λ_=>by decide,λ_=>by decide,uT⟩,rfl⟩)
def zf0:Ct:=⟨[.d jourT],[.bool],λx=>(mX x.1 30,()),λ_=>[]⟩
noncomputable def zgu:Cx:=cx [(26,Oo)] []
def zgv:CxOK prog zgu:=aP aG ⟨qhq,uT⟩ trivial
def zg7:af prog 12 zf0:=
 conv (aS zgv f12 (fr:=λx=>Jv (mX x.1 30,())) (ps:=[.d jourT]) (rs:=[.bool])) _ _ (λ_ _ _ _ _ _=>⟨uT,rfl⟩)
def zfi(l:List T)(a:Int->T->Unit->Fr (Unit ⊕ ((Bool×Unit)×Unit)))(K:Fr (aa [.bool])):Fr (aa [.bool]):=
 Jd (InK (l.length:Int) 0 l.length) (Jd (eJ a 0 l ()) (Jb (dF (da a 0 l ())) K (Jv ((zej ((Y,()),()) (da a 0 l ())).1.1,()))))
def zf7{a:Int->T->Unit->Fr (Unit ⊕ ρ)}{b:List T}{d:T}(h:∀ i e,0<=i/\i<(b.length:Int)->b.getD i.toNat d=e->(a i e ()).ok/\(a i e ()).get=.inl ()):(l p:List T)->(i:Int)->i=(p.length:Int)->b=p++l->eJ a i l ()/\da a i l ()=.inl ()
 |[],_,_,_,_=>⟨uT,rfl⟩
 |e::l,p,i,hi,c=>by
  have k:b.length=p.length+(e::l).length:=by rw[c,ub6]
  rw[uc9]at k;have j:b.getD (Int.toNat i) d=e:=by
   rw[c,hi,uc0,uah,uae (ue9 _),Nat.sub_self];rfl
  have f:=zf7 h l (p++[e]) (i+1) (by rw[ub6,ua7];omega) (by rw[c,ucr];rfl);have g:=h i e (by omega) j;unfold eJ da;rw[g.2];exact⟨⟨g.1,f.1⟩,f.2⟩
def tR{a:Int->T->Unit->Fr (Unit ⊕ ((Bool×Unit)×Unit))}{l:List T}{d:T}{K:Fr (aa [.bool])}(f:(l.length:Int)<=9223372036854775807)(h:∀ i e,0<=i/\i<(l.length:Int)->l.getD i.toNat d=e->(a i e ()).ok/\(a i e ()).get=.inl ())(c:K.ok/\K.get=(Z,())):(zfi l a K).ok/\(zfi l a K).get=(Z,()):=by
 have b:=zf7 h l [] 0 rfl rfl;refine aF ⟨rfl,ufa _,ub4 _,f⟩ (aF b.1 ?_);rw[b.2];exact aZ rfl c
def ze1(day:Int)(f:aD.den)(s:kZ):kZ ⊕ rL.R.X:=(DL (0,[],day,bV.dflt) True 0 f s).get
def zh7(k:ur)(i:Int)(f:aD.den)(s:kZ):(DL k True i f s).get=ze1 k.2.2.1 f s:=rfl
def goV(day:Int):List aD.den->kZ->kZ ⊕ rL.R.X
 |[],s=>.inl s
 |f::l,s=>match ze1 day f s with
  |.inl a=>goV day l a
  |.inr y=>.inr y
def zga(k:ur):(l:List aD.den)->(i:Int)->(s:kZ)->da (DL k True) i l s=goV k.2.2.1 l s
 |[],_,_=>rfl
 |f::l,i,s=>by
  unfold da goV;rw[zh7];cases ze1 k.2.2.1 f s with
  |inl a=>exact zga k l _ a
  |inr y=>rfl
def zgb(day:Int)(m:List aD.den):(l:List aD.den)->(s:kZ)->goV day (l++m) s=match goV day l s with
  |.inl a=>goV day m a
  |.inr y=>.inr y
 |[],_=>rfl
 |f::l,s=>by
  simp only[uc4,goV];cases ze1 day f s with
  |inl a=>exact zgb day m l a
  |inr y=>rfl
def zfv:kZ ⊕ rL.R.X->aa [bV,i64]
 |.inl s=>(s.1,0,())
 |.inr y=>(y.2.1,y.1.1,())
def zep(j:jourT.den)(day:Int):aa [bV,i64]:=GE.f (j,day,())
def zgf(j:jourT.den)(day:Int):zep j day=zfv (goV day j.2.1 (DA j)):=by
 show(Qg (j,day,())).get=_;unfold Qg;rw[show goV day j.2.1 (DA j)=da (DL (Je j day) True) 0 j.2.1 (DA j) from (zga (Je j day) j.2.1 0 (DA j)).symm];dsimp only;cases da (DL (Je j day) True) 0 j.2.1 (DA j)<;>rfl
def gP(Q:α->Prop):Fr α->Prop
 |.val x=>Q x
 |.br b x y=>(b=Z->gP Q x)/\(b=Y->gP Q y)
 |.need _ x=>gP Q x
def zid{Q:α->Prop}:{f:Fr α}->gP Q f->Q f.get
 |.val _,h=>h
 |.br b x y,h=>by
  show Q (if b=Z then x.get else y.get);cases b;exact zid (f:=y) (h.2 rfl);exact zid (f:=x) (h.1 rfl)
 |.need _ x,h=>zid (f:=x) h
def ne0{n:Int}(h:(n != 0)=Z):n≠0:=by simpa using h
def eq0{n:Int}(h:(n != 0)=Y):n=0:=by simpa using h
def zjo{b:bV.den}{x:be.den}(h:(Kj b x).2.1=0):(Kj b x).1=(b.1++[x],()):=by
 have key:gP (λy=>y.2.1=0->y.1=(b.1++[x],())) (BI (b,x,())):=by
  refine⟨λ_ (h:(1:Int)=0)=>absurd h (by decide),λ_=>⟨λ_ (h:(13:Int)=0)=>absurd h (by decide),λ_=>⟨λ_ (h:(2:Int)=0)=>absurd h (by decide),λ_=>⟨λ_ (h:(4:Int)=0)=>absurd h (by decide),λ_ _=>?_⟩⟩⟩⟩;show(List.take ((List.length (α:=be.den) b.1:Int)-0).toNat (List.drop 0 b.1)++[x],())=_;rw[uef,ua3 (by omega)]
 exact zid key h
def zjj(f:aD.den)(d:bS.den)(m:Int):(tM f d m).1=f.1:=by
 have key:gP (λy=>y.1.1=f.1) (HV (f,d,m,())):=⟨λ_=>rfl,λ_=>rfl⟩;exact zid key
def zir(f:aD.den)(s:kZ):Fr (kZ ⊕ rL.R.X):=
 Jd (bD s.2.2.2) (Jb ((Pr s.2.2.2 f).2.1 != 0) (Jv (.inl s))
  (Jd (bD (Pr s.2.2.2 f).1) (Jd (ev (bq (Pr s.2.2.2 f).1)) (Jb ((yY (Pr s.2.2.2 f).1).2.1 != 0) (Jv (CK (yY (Pr s.2.2.2 f).1).2.1))
   (Jb (f.2.1==7)
    (Jd (bD (Pr s.2.2.2 f).1) (Jb ((edO (Pr s.2.2.2 f).1 f.2.2.2.2.1).2.1 != 0) (Jv (CK (edO (Pr s.2.2.2 f).1 f.2.2.2.2.1).2.1))
     (Kx (0,[],0,bV.dflt) 0 f s (Pr s.2.2.2 f).1 (I6.wrap ((edO (Pr s.2.2.2 f).1 f.2.2.2.2.1).1-s.2.2.1)) (edO (Pr s.2.2.2 f).1 f.2.2.2.2.1).1)))
    (Kx (0,[],0,bV.dflt) 0 f s (Pr s.2.2.2 f).1 0 s.2.2.1))))))
def zja(day:Int)(f:aD.den)(s:kZ):ze1 day f s=if J (f.1>day)=Z then .inl s else (zir f s).get:=rfl
def zjb{f:aD.den}(s:kZ)(h:¬ f.1>day):ze1 day f s=(zir f s).get:=by
 rw[zja,ufw (by simpa using h)]
def ziv{step:Int->T->σ->Fr σ}{g:σ->T->σ}(h:∀ i e s,(step i e s).get=g s e):(l:List T)->(i:Int)->(s:σ)->bO step i l s=l.foldl g s
 |[],_,_=>rfl
 |e::l,i,s=>by
  show bO step (i+1) l (step i e s).get=l.foldl g (g s e);rw[h];exact ziv h l _ _
def lnV(a:Int)(s:Int)(x:bR.den):Int:=if (x.1==a)=Z then I6.wrap (s+x.2.1)else s
def enV(a d:Int)(s:Int)(e:be.den):Int:=if (!(J (e.1<=d)))=Z then s else (uC e).foldl (lnV a) s
def zih(l:List be.den)(a d:Int):Int:=l.foldl (enV a d) 0
def ziy(b:bV.den)(a d:Int):(GK.f (b,a,d,())).1=zih b.1 a d:=by
 show bO (KX (RX ((b.1,()),a,λx=>AR.f (x.1,d,()),())) True) 0 b.1 0=_;refine ziv (λi e s=>?_) _ _ _;show(if (!(J (e.1<=d)))=Z then s else bO (V0 (kIn (RX ((b.1,()),a,λx=>AR.f (x.1,d,()),())) i e) True) 0 (uC e) s)=enV a d s e;rw[ziv (g:=lnV a) (λ_ _ _=>rfl)];rfl
def zic(b:bV.den)(d:Int):dw.den:=(GM.f (b,d,())).1
def zk2(n:Int):I6.wrap n%(18446744073709551616:Int)=n%(18446744073709551616:Int):=by rw[udf];omega
def lnZ(a:Int):List bR.den->Int
 |[]=>0
 |x::l=>(if (x.1==a)=Z then x.2.1 else 0)+lnZ a l
def zku(b:Int):(l:List bR.den)->(s:Int)->(l.foldl (lnV b) s)%(18446744073709551616:Int)=(s+lnZ b l)%(18446744073709551616:Int)
 |[],s=>by show s%(18446744073709551616:Int)=(s+0)%(18446744073709551616:Int);rw[ue4]
 |x::l,s=>by
  show(l.foldl (lnV b) (lnV b s x))%(18446744073709551616:Int)=(s+((if (x.1==b)=Z then x.2.1 else 0)+lnZ b l))%(18446744073709551616:Int);rw[zku b l];unfold lnV;split;have:=zk2 (s+x.2.1);generalize I6.wrap (s+x.2.1)=w at *;generalize lnZ b l=z at *;change (w+z)%(18446744073709551616:Int)=(s+((x.2.1:Int)+z))%(18446744073709551616:Int);generalize (x.2.1:Int)=a at *;omega;rw[Int.zero_add]
def enZ(a d:Int):List be.den->Int
 |[]=>0
 |e::l=>(if (!(J (e.1<=d)))=Z then 0 else lnZ a (uC e))+enZ a d l
def zkq(a d:Int):(l:List be.den)->(s:Int)->(l.foldl (enV a d) s)%(18446744073709551616:Int)=(s+enZ a d l)%(18446744073709551616:Int)
 |[],s=>by show s%(18446744073709551616:Int)=(s+0)%(18446744073709551616:Int);rw[ue4]
 |e::l,s=>by
  show(l.foldl (enV a d) (enV a d s e))%(18446744073709551616:Int)=(s+((if (!(J (e.1<=d)))=Z then 0 else lnZ a (uC e))+enZ a d l))%(18446744073709551616:Int);rw[zkq a d l];unfold enV;split;rw[Int.zero_add];have:=zku a (uC e) s;generalize (uC e).foldl (lnV a) s=w at *;generalize lnZ a (uC e)=y at *;generalize enZ a d l=z at *;omega
def zk4(l:List be.den)(a d:Int):zih l a d%(18446744073709551616:Int)=enZ a d l%(18446744073709551616:Int):=by
 have:=zkq a d l 0
 rwa [Int.zero_add]at this
def zj9(e:be.den):Prop:=(AS.f (e,())).2.1=Z/\(AS.f (e,())).1=0
def zjw(b:bV.den):List be.den:=b.1
structure goodB (day:Int) (l:List be.den):Prop where
 good:∀ e∈l,zj9 e/\e.1<=day
 sort:l.Pairwise (λa b=>a.1<=b.1)
def zlf{b:bV.den}{x:be.den}(h:(Kj b x).2.1=0):zj9 x/\∀ (d:0<(zjw b).length),((zjw b)[(zjw b).length-1]'(by omega)).1<=x.1:=by
 have key:gP (λy=>y.2.1=0->zj9 x/\∀ (d:0<(zjw b).length),((zjw b)[(zjw b).length-1]'(by omega)).1<=x.1) (BI (b,x,())):=by
  refine⟨λ_ (h:(1:Int)=0)=>absurd h (by decide),λe=>⟨λ_ (h:(13:Int)=0)=>absurd h (by decide),λf=>⟨λ_ (h:(2:Int)=0)=>absurd h (by decide),λc=>⟨λ_ (h:(4:Int)=0)=>absurd h (by decide),λa _=>⟨⟨by simpa using e,eq0 f⟩,λd=>?_⟩⟩⟩⟩⟩;have c:¬ ((zjw b).length:Int)>=2000:=uch c;have a:(bif J (((zjw b).length:Int)>0)then J (x.1<((zjw b).getD (I6.wrap (((zjw b).length:Int)-1)).toNat be.dflt).1)else Y)=false:=a;have g:I6.wrap (((zjw b).length:Int)-1)=(((zjw b).length-1:Nat):Int):=by
   rw[IntWalk.i64_in _ (by omega)];omega
  rw[uea (by omega:((zjw b).length:Int)>0),g,uc0,uah,uaq (by omega)]at a;exact ufk.1 (uch a)
 exact zid key h
def zk7{b:bV.den}{x:be.den}(d:goodB day (zjw b))(h:(Kj b x).2.1=0)(n:x.1<=day):goodB day (zjw b++[x]):=by
 obtain⟨j,k⟩:=zlf h;refine⟨λe f=>(uds.1 f).elim (d.good e) (λf=>by rw[ucf.1 f];exact⟨j,n⟩),ubp.2 ⟨d.sort,uay _ _,λa l c m=>?_⟩⟩;rw[ucf.1 m];obtain⟨i,hi,rfl⟩:=List.getElem_of_mem l;have g:=k (by omega);by_cases e:i=(zjw b).length-1;subst e;exact g;exact ue3 (uan.1 d.sort i ((zjw b).length-1) hi (by omega) (by omega)) g
def grZ(day:Int):kZ ⊕ rL.R.X->Prop
 |.inl s=>goodB day (zjw s.1)
 |.inr y=>y.1.1≠0/\y.2.1=bV.dflt
def zk0{f:aD.den}{s:kZ}(d:aq.den)(m b:Int)(a:goodB day (zjw s.1))(c:f.1<=day):gP (grZ day) (Kx (0,[],0,bV.dflt) 0 f s d m b):=
 ⟨λ_=>a,λ_=>⟨λ_=>⟨(by decide:(5:Int)≠0),rfl⟩,λ_=>⟨λh=>⟨ne0 h,rfl⟩,λh=>by
  show goodB day (zjw (Kj s.1 _).1);rw[zjo (eq0 h)];exact zk7 a (eq0 h) (by rw[zjj];exact c)⟩⟩⟩
def zkz{f:aD.den}{s:kZ}(a:goodB day (zjw s.1))(b:f.1<=day):gP (grZ day) (zir f s):=
 ⟨λ_=>a,λ_=>⟨λh=>⟨ne0 h,rfl⟩,λ_=>⟨λ_=>⟨λh=>⟨ne0 h,rfl⟩,λ_=>zk0 _ _ _ a b⟩,λ_=>zk0 _ _ _ a b⟩⟩⟩
def zkk(day:Int):(l:List aD.den)->(s:kZ)->goodB day (zjw s.1)->grZ day (goV day l s)
 |[],_,h=>h
 |f::l,s,h=>by
  unfold goV;rw[zja];split;rename_i s1 a;split at a;cases a;exact zkk day l s h;rename_i b;have:=zid (zkz (f:=f) h (by have:=b;simp only[ucu]at this;exact ufk.1 this));rw[a]at this;exact zkk day l s1 this;rename_i y a;split at a;cases a;rename_i b;have:=zid (zkz (f:=f) h (by have:=b;simp only[ucu]at this;exact ufk.1 this));rw[a]at this;exact this
def zk1(g:Int->Int):dw.den:=(0,g 1,g 2,g 3,g 4,g 5,g 6,g 7,g 8,g 9,())
def zlj(b:bV.den)(d:Int):zic b d=zk1 (λa=>zih b.1 a d):=by
 have h:zic b d=zk1 (λa=>(GK.f (b,a,d,())).1):=by kernel_rfl
 rw[h,show(λa=>(GK.f (b,a,d,())).1)=λa=>zih b.1 a d from funext λa=>ziy b a d]
def zk5:Ct:=⟨[.d jourT,.d i64],[.bool],λ_=>(Z,()),λ_=>[]⟩
def zqv(a:Int):(l m:List bR.den)->lnZ a (l++m)=lnZ a l+lnZ a m
 |[],m=>by show lnZ a m=0+lnZ a m;rw[Int.zero_add]
 |x::l,m=>by
  show(if (x.1==a)=Z then x.2.1 else 0)+lnZ a (l++m)=((if (x.1==a)=Z then x.2.1 else 0)+lnZ a l)+lnZ a m;rw[zqv a l m,Int.add_assoc]
def zp1(k:dw.den×Int×Int×be.den)(a:Int):(n:Nat)->(i:Nat)->i+n<=9->(s:List bR.den) ->
  lnZ a (bO (DN k True) (i:Int) (List.replicate n ()) s)=lnZ a s+(if (i:Int)+1<=a/\a<=((i+n:Nat):Int)then (rx k.1).getD a.toNat 0 else 0)
 |0,i,_,s=>by
  show lnZ a s=lnZ a s+_;rw[ufw (by omega),ue4]
 |n+1,i,hi,s=>by
  have j:I6.wrap ((i:Int)+1)=((i+1:Nat):Int):=by rw[IntWalk.i64_in _ (by omega)];omega
  show lnZ a (bO (DN k True) ((i:Int)+1) (List.replicate n ()) (DN k True (i:Int) () s).get)=_;have f:(DN k True (i:Int) () s).get=if ((rx k.1).getD (I6.wrap ((i:Int)+1)).toNat 0 != 0)=Z then s++[(I6.wrap ((i:Int)+1),(rx k.1).getD (I6.wrap ((i:Int)+1)).toNat 0,())]else s:=rfl
  rw[f,j,uc0,show(i:Int)+1=((i+1:Nat):Int) by omega,zp1 k a n (i+1) (by omega)];have g:lnZ a (if ((rx k.1).getD (i+1) 0 != 0)=Z then s++[(((i+1:Nat):Int),(rx k.1).getD (i+1) 0,())]else s)=lnZ a s+(if a=((i+1:Nat):Int)then (rx k.1).getD (i+1) 0 else 0):=by
   split;rw[zqv];show lnZ a s+((if ((((i+1:Nat):Int)==a))=Z then (rx k.1).getD (i+1) 0 else 0)+0)=_;rw[ue4];by_cases e:a=((i+1:Nat):Int);rw[ufv e,ufv (by simp[e])];rw[ufw e,ufw (by simp;omega)];rename_i h;have d:(rx k.1).getD (i+1) 0=0:=by simpa using h
   rw[d];split<;>rw[ue4]
  rw[g];by_cases e:a=((i+1:Nat):Int);have c:a.toNat=i+1:=by omega
  rw[ufv e,ufw (by omega),ufv (by omega),c,ue4];rw[ufw e,ue4];by_cases b:((i+1:Nat):Int)+1<=a/\a<=((i+1+n:Nat):Int);rw[ufv b,ufv (by omega)];rw[ufw b,ufw (by omega)]
def zl5(f:aD.den)(d:bS.den)(m a:Int)(h:1<=a/\a<=9):lnZ a (uC (tM f d m))=(rx (Lq d m)).getD a.toNat 0:=by
 have key:gP (λy=>lnZ a (uC y.1)=(rx (Lq d m)).getD a.toNat 0) (HV (f,d,m,())):=by
  have b:∀ i:Int,lnZ a (bO (DN (Lq d m,f.1,i,be.dflt) True) ((0:Nat):Int) (List.replicate 9 ()) [])=(rx (Lq d m)).getD a.toNat 0:=λi=>by
   rw[zp1 _ a 9 0 (by omega) [],ufv (by omega)];show 0+_=_;rw[Int.zero_add]
  exact⟨λ_=>b _,λ_=>b _⟩
 exact zid key
def tgt(x:bS.den)(b:Int):Int->Int:=λa=>if a=1 then x.2.1-x.2.2.1+x.2.2.2.1 else if a=2 then x.1-x.2.1 else if a=3 then b-x.1 else if a=4 then 0-b else if a=5 then x.2.2.1-x.2.2.2.1 else if a=6 then 0-x.2.2.2.2.1 else if a=7 then x.2.2.2.2.1 else if a=8 then x.2.2.2.2.2.1 else 0-x.2.2.2.2.2.1
def zvb(k:ur)(i:Int)(f:aD.den)(s:kZ)(a:aq.den)(m b:Int):qmf (Jn k i f s a m b) =
  (I6.wrap ((yY a).1.1-s.2.1.1),I6.wrap ((yY a).1.2.1-s.2.1.2.1),I6.wrap ((yY a).1.2.2.1-s.2.1.2.2.1),I6.wrap ((yY a).1.2.2.2.1-s.2.1.2.2.2.1),I6.wrap ((yY a).1.2.2.2.2.1-s.2.1.2.2.2.2.1),I6.wrap ((yY a).1.2.2.2.2.2.1-s.2.1.2.2.2.2.2.1),()):=by kernel_rfl
abbrev zlz:Int:=292194
def zpz(a d:Int):(l m:List be.den)->enZ a d (l++m)=enZ a d l+enZ a d m
 |[],m=>by show enZ a d m=0+enZ a d m;rw[Int.zero_add]
 |e::l,m=>by
  show(if (!(J (e.1<=d)))=Z then 0 else lnZ a (uC e))+enZ a d (l++m)=((if (!(J (e.1<=d)))=Z then 0 else lnZ a (uC e))+enZ a d l)+enZ a d m;rw[zpz a d l m,Int.add_assoc]
def zq2{a:Int}(h:1<=a/\a<=9):a=1\/a=2\/a=3\/a=4\/a=5\/a=6\/a=7\/a=8\/a=9:=by omega
def zl1(x w:bS.den):bS.den:=(I6.wrap (x.1-w.1),I6.wrap (x.2.1-w.2.1),I6.wrap (x.2.2.1-w.2.2.1),I6.wrap (x.2.2.2.1-w.2.2.2.1),I6.wrap (x.2.2.2.2.1-w.2.2.2.2.1),I6.wrap (x.2.2.2.2.2.1-w.2.2.2.2.2.1),())
def zxq(x w:bS.den)(b c m:Int)(q:(b-c-m)%(18446744073709551616:Int)=0){a:Int}(h:1<=a/\a<=9):tgt x b a%(18446744073709551616:Int)=(tgt w c a+(rx (Lq (zl1 x w) m)).getD a.toNat 0)%(18446744073709551616:Int):=by
 have key:∀ j k l n o p w0 d e f g i:Int,tgt (j,k,l,n,o,p,()) b a%(18446744073709551616:Int)=(tgt (w0,d,e,f,g,i,()) c a+(rx (Lq (zl1 (j,k,l,n,o,p,()) (w0,d,e,f,g,i,())) m)).getD a.toNat 0)%(18446744073709551616:Int):=by
  intro j k l n o p w0 d e f g i;rcases zq2 h with rfl|rfl|rfl|rfl|rfl|rfl|rfl|rfl|rfl
  show(k-l+n)%(18446744073709551616:Int)=(d-e+f+I6.wrap (I6.wrap (I6.wrap (k-d)-I6.wrap (l-e))+I6.wrap (n-f)))%_;simp only[udf];omega;show(j-k)%(18446744073709551616:Int)=(w0-d+I6.wrap (I6.wrap (j-w0)-I6.wrap (k-d)))%_;simp only[udf];omega;show(b-j)%(18446744073709551616:Int)=(c-w0+I6.wrap (m-I6.wrap (j-w0)))%_;simp only[udf];omega;show(0-b)%(18446744073709551616:Int)=(0-c+I6.wrap (0-m))%_;simp only[udf];omega;show(l-n)%(18446744073709551616:Int)=(e-f+I6.wrap (I6.wrap (l-e)-I6.wrap (n-f)))%_;simp only[udf];omega;show(0-o)%(18446744073709551616:Int)=(0-g+I6.wrap (0-I6.wrap (o-g)))%_;simp only[udf];omega;show o%(18446744073709551616:Int)=(g+I6.wrap (o-g))%_;simp only[udf];omega;show p%(18446744073709551616:Int)=(i+I6.wrap (p-i))%_;simp only[udf];omega;show(0-p)%(18446744073709551616:Int)=(0-i+I6.wrap (0-I6.wrap (p-i)))%_;simp only[udf];omega
 exact key _ _ _ _ _ _ _ _ _ _ _ _
structure stI (t:zll.den) (s:kZ):Prop where
 sum:(s.1=bV.dflt/\s.2.1=bS.dflt/\s.2.2.2=ym t)\/((yY s.2.2.2).2.1=0/\s.2.1=(yY s.2.2.2).1)
 acc:∀ a,1<=a/\a<=9->enZ a zlz (zjw s.1)%(18446744073709551616:Int)=tgt s.2.1 s.2.2.1 a%(18446744073709551616:Int)
def grI(t:zll.den):kZ ⊕ rL.R.X->Prop
 |.inl s=>stI t s
 |.inr _=>True
def zrf{t:zll.den}{f:aD.den}{s:kZ}(c:aq.den)(m b:Int)(k:stI t s)(p:f.1<=zlz)(j:(yY c).2.1=0)(l:(b-s.2.2.1-m)%(18446744073709551616:Int)=0):gP (grI t) (Kx (0,[],0,bV.dflt) 0 f s c m b):=by
 have n:qmf (Jn (0,[],0,bV.dflt) 0 f s c m b)=zl1 (yY c).1 s.2.1:=zvb _ _ _ _ _ _ _;show gP (grI t) (Jb _ _ _);rw[n];have d:=λa (e:1<=a/\a<=9)=>zxq (yY c).1 s.2.1 b s.2.2.1 m l e;refine⟨λo=>⟨.inr ⟨j,rfl⟩,λa e=>?_⟩,λ_=>⟨λ_=>uT,λ_=>⟨λ_=>uT,λh=>⟨.inr ⟨j,rfl⟩,λa e=>?_⟩⟩⟩⟩;have q:uC (tM f (zl1 (yY c).1 s.2.1) m)=[]:=by
  have:((List.length (α:=bR.den) (tM f (zl1 (yY c).1 s.2.1) m).2.2.1:Int)==0)=true:=o;have g:(List.length (α:=bR.den) (tM f (zl1 (yY c).1 s.2.1) m).2.2.1:Int)=0:=ufq this;exact uab (Int.ofNat_eq_zero.1 g)
 have i:=zl5 f (zl1 (yY c).1 s.2.1) m a e;rw[q]at i;have g:=d a e;rw[<- i]at g;show enZ a zlz (zjw s.1)%_=tgt (yY c).1 b a%_;rw[g,k.acc a e];show _=(tgt s.2.1 s.2.2.1 a+0)%_;rw[ue4];show enZ a zlz (zjw (Kj s.1 _).1)%_=tgt (yY c).1 b a%_;rw[zjo (eq0 h)];show enZ a zlz (zjw s.1++[_])%_=_;rw[zpz,d a e];have i:=zl5 f (zl1 (yY c).1 s.2.1) m a e;have g:enZ a zlz [tM f (zl1 (yY c).1 s.2.1) m]=(rx (Lq (zl1 (yY c).1 s.2.1) m)).getD a.toNat 0:=by
  show(if (!(J ((tM f (zl1 (yY c).1 s.2.1) m).1<=zlz)))=Z then 0 else lnZ a (uC (tM f (zl1 (yY c).1 s.2.1) m)))+0=_;rw[zjj,uea p,ue4];exact i
 rw[g];have r:=k.acc a e;generalize enZ a zlz (zjw s.1)=u at *;generalize tgt s.2.1 s.2.2.1 a=v at *;generalize (rx (Lq (zl1 (yY c).1 s.2.1) m)).getD a.toNat 0=y at *;omega
def zt3(q c:Int):(q-c-I6.wrap (q-c))%(18446744073709551616:Int)=0:=by rw[udf];omega
def zt2(c:Int):(c-c-0)%(18446744073709551616:Int)=0:=by omega
def zre{t:zll.den}{f:aD.den}{s:kZ}(b:stI t s):gP (grI t) (zir f s):=by
 refine⟨λ_=>b,λg=>⟨λ_=>uT,λd=>?_⟩⟩;have a:(jY s.2.2.2 f).2=0:=eq0 g;have c:f.1<=zlz:=by
  have h:=(zar a).1;unfold io at h;cases e:gF f;rw[e]at h;exact absurd (show(1:Int)=0 from h) (by decide);exact(znt e).2
 refine⟨λ_=>⟨λ_=>uT,λ_=>zrf _ _ _ b c (eq0 d) ?_⟩,λ_=>zrf _ _ _ b c (eq0 d) ?_⟩;exact zt3 _ _;exact zt2 _
def zou(t:zll.den)(day:Int):(l:List aD.den)->(s:kZ)->stI t s->match goV day l s with
  |.inl c=>stI t c
  |.inr _=>True
 |[],_,h=>h
 |f::l,s,h=>by
  have a:grI t (ze1 day f s):=by
   rw[zja];split;exact h;exact zid (zre h)
  unfold goV;cases b:ze1 day f s with
  |inr y=>trivial
  |inl s1=>
   rw[b]at a;exact zou t day l s1 a
def zrg(f:aD.den)(s:kZ)(a:aq.den)(m b:Int):gP (λr=>match r with
  |.inl c=>c.2.2.2=a
  |.inr _=>True) (Kx (0,[],0,bV.dflt) 0 f s a m b):=
 ⟨λ_=>rfl,λ_=>⟨λ_=>uT,λ_=>⟨λ_=>uT,λ_=>rfl⟩⟩⟩
def zwu(f:aD.den)(s:kZ):gP (λr=>match r with
  |.inl b=>b.2.2.2=zfk s.2.2.2 f
  |.inr _=>True) (zir f s):=by
 refine⟨λh=>?_,λh=>?_⟩;show s.2.2.2=zfk s.2.2.2 f;have h:((jY s.2.2.2 f).2 != 0)=true:=h;unfold zfk;rw[show((jY s.2.2.2 f).2==0)=Y by simpa using h];rfl;have h:((jY s.2.2.2 f).2 != 0)=false:=h;have a:(Pr s.2.2.2 f).1=zfk s.2.2.2 f:=by
  show(jY s.2.2.2 f).1=_;unfold zfk;rw[show((jY s.2.2.2 f).2==0)=Z by simpa using h];rfl
 rw[<- a];exact⟨λ_=>uT,λ_=>⟨λ_=>⟨λ_=>uT,λ_=>zrg _ _ _ _ _⟩,λ_=>zrg _ _ _ _ _⟩⟩
def zov(day:Int):(l:List aD.den)->(s:kZ)->match goV day l s with
  |.inl b=>b.2.2.2=zf9 day l s.2.2.2
  |.inr _=>True
 |[],_=>rfl
 |f::l,s=>by
  have c:(match ze1 day f s with
    |.inl b=>b.2.2.2=ze9 day s.2.2.2 f
    |.inr _=>True):=by
   rw[zja];unfold ze9;by_cases a:f.1>day;rw[ufv (uea a),show J (cC f>day)=Z from uea a];rfl;rw[ufw (by simpa using a),show J (cC f>day)=Y from udv a];exact zid (zwu f s)
  unfold goV;cases d:ze1 day f s with
  |inr y=>trivial
  |inl s1=>
   rw[d]at c;have e:=zov day l s1;rw[show zf9 day (f::l) s.2.2.2=zf9 day l (ze9 day s.2.2.2 f) from rfl,<- c];exact e
def zs0(l:List be.den)(a d:Int): -9223372036854775808<=zih l a d/\zih l a d<=9223372036854775807:=by
 have f:∀ n:Int,-9223372036854775808<=I6.wrap n/\I6.wrap n<=9223372036854775807:=λn=>by rw[udf];omega
 have e:∀ (m:List bR.den) (s:Int),(-9223372036854775808<=s/\s<=9223372036854775807) -> -9223372036854775808<=m.foldl (lnV a) s/\m.foldl (lnV a) s<=9223372036854775807:=by
  intro m
  induction m with
  |nil=>intro s h;exact h
  |cons x m b=>
   intro s h;refine b _ ?_;unfold lnV;split;exact f _;exact h
 have c:∀ (m:List be.den) (s:Int),(-9223372036854775808<=s/\s<=9223372036854775807) -> -9223372036854775808<=m.foldl (enV a d) s/\m.foldl (enV a d) s<=9223372036854775807:=by
  intro m
  induction m with
  |nil=>intro s h;exact h
  |cons x m b=>
   intro s h;refine b _ ?_;unfold enV;split;exact h;exact e _ _ h
 exact c l 0 (by decide)
def zw7{b:Int}(h:a%(18446744073709551616:Int)=b%(18446744073709551616:Int))(c : -9223372036854775808<=a/\a<=9223372036854775807):a=I6.wrap b:=by
 rw[udf];omega
def zxa(t:zll.den):yY (ym t)=(bS.dflt,0,()):=by kernel_rfl
def zrm(j:jourT.den):stI j.1 (DA j):=⟨.inl ⟨rfl,rfl,rfl⟩,λa b=>by
 rcases zq2 b with rfl|rfl|rfl|rfl|rfl|rfl|rfl|rfl|rfl<;>rfl⟩
def zro(j:jourT.den)(day:Int){s:kZ}(h:goV day j.2.1 (DA j)=.inl s):stI j.1 s/\s.2.2.2=zf9 day j.2.1 (ym j.1):=by
 have a:=zou j.1 day j.2.1 (DA j) (zrm j);have b:=zov day j.2.1 (DA j);rw[h]at a b;exact⟨a,b⟩
def zo8{t:zll.den}{s:kZ}(h:stI t s):(yY s.2.2.2).2.1=0/\s.2.1=(yY s.2.2.2).1:=by
 rcases h.sum with ⟨_,a,b⟩|h
 rw[b,zxa];exact⟨rfl,a⟩;exact h
def zrp{t:zll.den}{s:kZ}(h:stI t s)(b:1<=a/\a<=9):zih (zjw s.1) a zlz=I6.wrap (tgt (yY s.2.2.2).1 s.2.2.1 a):=by
 refine zw7 ?_ (zs0 _ _ _);rw[zk4,h.acc a b,(zo8 h).2]
def znr:(l:List aD.den) -> {s:aq.den}->oO s->oO (zf9 day l s)
 |[],_,h=>h
 |f::l,s,h=>by
  refine znr l (s:=ze9 day s f) ?_;unfold ze9;cases J (cC f>day);show oO (zfk s f);unfold zfk;cases a:(jY s f).2==0;exact h;exact qht f h (ufq a);exact h
def clF(a day:Int):aD.den:=(a,7,0,0,day,nTm,nCh,nCl,nAc,nTr,())
def zt4(s:aq.den)(b d:Int):lD s (clF b d)=((ky s (clF b d)).1,(ky s (clF b d)).2):=rfl
def ztu{a s:aq.den}{b d:Int}(e:mg s<=mg a)(h:(jY a (clF b d)).2=0):(jY s (clF b d)).2=0:=by
 obtain⟨g,c,_⟩:=zar h;obtain⟨k,l⟩:=qtt g;have j:io s (clF b d)=0:=by
  unfold io;rw[k,udv (ufj.2 (Int.lt_of_le_of_lt e l))];rfl
 have i:(lD s (clF b d)).2=0:=by
  rw[zt4]at c |-;unfold ky at c |-;cases f:J (hN (clF b d)<=mg a);rw[udv (ufj.2 (Int.lt_of_le_of_lt e (ufj.1 (uch f))))];rfl;rw[f]at c;exact absurd (show(12:Int)=0 from c) (by decide)
 unfold jY;rw[j,i];rfl
def grC(f:aD.den)(s:kZ):kZ ⊕ rL.R.X->Prop
 |.inl a=>(edO (Pr s.2.2.2 f).1 f.2.2.2.2.1).2.1=0/\a.2.2.1=(edO (Pr s.2.2.2 f).1 f.2.2.2.2.1).1/\a.2.2.2=(Pr s.2.2.2 f).1
 |.inr y=>y.1.1≠0
def zwx{f:aD.den}{s:kZ}(m:Int)(a:(edO (Pr s.2.2.2 f).1 f.2.2.2.2.1).2.1=0):gP (grC f s) (Kx (0,[],0,bV.dflt) 0 f s (Pr s.2.2.2 f).1 m (edO (Pr s.2.2.2 f).1 f.2.2.2.2.1).1):=
 ⟨λ_=>⟨a,rfl,rfl⟩,λ_=>⟨λ_=>(by decide:(5:Int)≠0),λ_=>⟨λh=>ne0 h,λ_=>⟨a,rfl,rfl⟩⟩⟩⟩
def zwt{f:aD.den}{s:kZ}(b:f.2.1=7)(a:(jY s.2.2.2 f).2=0):gP (grC f s) (zir f s):=
 ⟨λh=>absurd a (ne0 h),λ_=>⟨λh=>ne0 h,λ_=>⟨λ_=>⟨λh=>ne0 h,λh=>zwx _ (eq0 h)⟩,λh=>absurd (show(f.2.1==7)=Y from h) (by rw[b];decide)⟩⟩⟩
def zs1{l:List be.den}(f:goodB day l)(c:day<=zlz)(a:Int):zih l a day=zih l a zlz:=by
 have key:∀ (m:List be.den) (s:Int),(∀ e∈m,e.1<=day)->m.foldl (enV a day) s=m.foldl (enV a zlz) s:=by
  intro m
  induction m with
  |nil=>intro s _;rfl
  |cons x m i=>
   intro s h;have b:=h x ucc;have e:enV a day s x=enV a zlz s x:=by
    unfold enV;rw[uea b,uea (ue3 b c)]
   rw[List.foldl_cons,List.foldl_cons,e];exact i _ λy g=>h y (ubj _ g)
 exact key l 0 λe d=>(f.good e d).2
def zua(j:jourT.den)(b d:Int)(z:(zlm j (clF b d)).2=0)(x:((List.length (α:=aD.den) j.2.1:Nat):Int)<=2000):
  (zep (j.1,j.2.1++[clF b d],()) b).2.1≠0\/((edO (zf9 b (j.2.1++[clF b d]) (ym j.1)) d).2.1=0/\(zep (j.1,j.2.1++[clF b d],()) b).2.1=0/\zih (zjw (zep (j.1,j.2.1++[clF b d],()) b).1) 4 b=I6.wrap (0-(edO (zf9 b (j.2.1++[clF b d]) (ym j.1)) d).1)):=by
 obtain⟨p1,_,p3,_⟩:=zmr z;rw[zn4 x]at p3;have c:=(znt (zh1 p1).1).2;have c:b<=zlz:=c;rw[zgf];show(zfv (goV b (j.2.1++[clF b d]) (DA j))).2.1≠0\/(_/\(zfv (goV b (j.2.1++[clF b d]) (DA j))).2.1=0/\zih (zjw (zfv (goV b (j.2.1++[clF b d]) (DA j))).1) 4 b=_);have n:=zkk b j.2.1 (DA j) ⟨λe w=>(by cases w),List.Pairwise.nil⟩;have p:=zou j.1 b j.2.1 (DA j) (zrm j);have h:=zov b j.2.1 (DA j);rw[zgb];cases q:goV b j.2.1 (DA j)with
 |inr y=>
  rw[q]at n;exact .inl n.1
 |inl s1=>
  rw[q]at n p h;have h:s1.2.2.2=zf9 b j.2.1 (ym j.1):=h;have a:(jY s1.2.2.2 (clF b d)).2=0:=by
   rw[h];exact ztu (zps c j.2.1 _ _ (ufa _)) p3
  have k:¬ (clF b d).1>b:=Int.lt_irrefl b;have m:=zid (zwt (f:=clF b d) (s:=s1) rfl a);have g:=zid (zre (f:=clF b d) p);have i:=zid (zkz (day:=b) (f:=clF b d) n (ufa b));have o:zf9 b (j.2.1++[clF b d]) (ym j.1)=(Pr s1.2.2.2 (clF b d)).1:=by
   rw[zuy,<- h];unfold ze9 zfk;rw[show J (cC (clF b d)>b)=Y from udv k,a];rfl
  show(zfv (match ze1 b (clF b d) s1 with
   |.inl l=>.inl l
   |.inr y=>.inr y)).2.1≠0\/(_/\(zfv (match ze1 b (clF b d) s1 with
   |.inl l=>.inl l
   |.inr y=>.inr y)).2.1=0/\zih (zjw (zfv (match ze1 b (clF b d) s1 with
   |.inl l=>.inl l
   |.inr y=>.inr y)).1) 4 b=_)
  rw[zjb s1 k,o];cases r:(zir (clF b d) s1).get with
  |inr y=>
   rw[r]at m;exact .inl m
  |inl t=>
   rw[r]at m g i;obtain⟨u,v,A⟩:=m;refine .inr ⟨u,rfl,?_⟩;show zih (zjw t.1) 4 b=_;rw[zs1 i c,zrp g (by decide)];show I6.wrap (0-t.2.2.1)=_;rw[v];rfl
def zqg{step:Int->T->σ->Fr (σ ⊕ ρ)}(I:Nat->σ->Prop)(B:ρ->Prop)(a:List T)(h:∀ (i:Nat) e s,a[i]?= U e->I i s->gP (my (I (i+1)) B) (step (i:Int) e s)):
  (l:List T)->(i:Nat)->a.drop i=l->(s:σ)->I i s->my (I (i+l.length)) B (da step (i:Int) l s)
 |[],_,_,_,d=>d
 |e::r,i,f,s,d=>by
  have g:a[i]?= U e:=by
   have:=uft (·[0]?) f;simpa using this
  have j:a.drop (i+1)=r:=by
   have:=uft (List.drop 1) f;simpa using this
  have b:=zid (h i e s g d);unfold da;rw[uc9,show i+(r.length+1)=i+1+r.length by omega];split;rename_i k c;rw[c]at b;exact zqg I B a h r (i+1) j k b;rename_i y c;rw[c]at b;exact b
def zm0{step:Int->T->σ->Fr (σ ⊕ ρ)}(I:Nat->σ->Prop)(B:ρ->Prop)(l:List T)(h:∀ (i:Nat) e s,l[i]?= U e->I i s->gP (my (I (i+1)) B) (step (i:Int) e s))(s:σ)(a:I 0 s):my (I l.length) B (da step 0 l s):=by
 have:=zqg I B l h l 0 rfl s a
 rwa [uex]at this
def zqf{step:Int->T->σ->Fr σ}(I:Nat->σ->Prop)(a:List T)(h:∀ (i:Nat) e s,a[i]?= U e->I i s->gP (I (i+1)) (step (i:Int) e s)):
  (l:List T)->(i:Nat)->a.drop i=l->(s:σ)->I i s->I (i+l.length) (bO step (i:Int) l s)
 |[],_,_,_,b=>b
 |e::r,i,c,s,b=>by
  have f:a[i]?= U e:=by
   have:=uft (·[0]?) c;simpa using this
  have g:a.drop (i+1)=r:=by
   have:=uft (List.drop 1) c;simpa using this
  have d:=zid (h i e s f b);unfold bO;rw[uc9,show i+(r.length+1)=i+1+r.length by omega];exact zqf I a h r (i+1) g _ d
def zl8{step:Int->T->σ->Fr σ}(I:Nat->σ->Prop)(l:List T)(h:∀ (i:Nat) e s,l[i]?= U e->I i s->gP (I (i+1)) (step (i:Int) e s))(s:σ)(a:I 0 s):I l.length (bO step 0 l s):=by
 have:=zqf I l h l 0 rfl s a
 rwa [uex]at this
def znv{Q:α->Prop}{q:Prop}{g:σ ⊕ ρ}{d:σ}{a:ρ}{k:σ->Fr α}{r:ρ->Fr α}(b:∀ s,g=.inl s->gP Q (k s))(c:∀ y,g=.inr y->gP Q (r y)):gP Q (iY p q g d a k r):=by
 cases g with
 |inl s=>exact⟨λ_=>b s rfl,λh=>(nomatch h)⟩
 |inr y=>exact⟨λh=>(nomatch h),λ_=>c y rfl⟩
def zmn{P Q:α->Prop}:{f:Fr α}->gP P f->(∀ x,P x->Q x)->gP Q f
 |.val _,h,hi=>hi _ h
 |.br _ _ _,h,hi=>⟨λa=>zmn (h.1 a) hi,λa=>zmn (h.2 a) hi⟩
 |.need _ x,h,hi=>zmn (f:=x) h hi
def zmm{Q:β->Prop}{k:α->Fr β}:{f:Fr α}->gP (λx=>gP Q (k x)) f->gP Q (nJ k f)
 |.val _,h=>h
 |.br _ _ _,h=>⟨λa=>zmm (h.1 a),λa=>zmm (h.2 a)⟩
 |.need _ x,h=>zmm (f:=x) h
def in6(a:bS.den):Prop:=Go.Ab.inR .i64 a.1/\Go.Ab.inR .i64 a.2.1/\Go.Ab.inR .i64 a.2.2.1/\Go.Ab.inR .i64 a.2.2.2.1/\Go.Ab.inR .i64 a.2.2.2.2.1/\Go.Ab.inR .i64 a.2.2.2.2.2.1
def zne:in6 (0,0,0,0,0,0,()):=⟨zF .i64,zF .i64,zF .i64,zF .i64,zF .i64,zF .i64⟩
def zmw{c:Bool}(a:Go.Ab.inR .i64 x)(b:Go.Ab.inR .i64 y):Go.Ab.inR .i64 (bif c then x else y):=by
 cases c;exact b;exact a
def zmv{w m:Int}{s:cK.den}(h:in6 s.1):gP (λr:cK.den=>in6 r.1) (nX w m s):=
 ⟨λ_=>⟨zmw (gd _ _) h.1,zmw (gd _ _) h.2.1,zmw (gd _ _) h.2.2.1,zmw (gd _ _) h.2.2.2.1,zmw (gd _ _) h.2.2.2.2.1,zmw (gd _ _) h.2.2.2.2.2⟩,λ_=>h⟩
def zxi(b:aq.den):in6 (yY b).1:=by
 have h:=zm0 (step:=Ec (Jk b) True) (λ_ (s:cK.den)=>in6 s.1) (λ(y:yG.R.X)=>in6 y.2.1) b.2.1 (λi e s _ a=>⟨λ_=>zne,λ_=>zmm (zmn (zmv a) λs1 d=>zmm (zmn (zmv d) λl f=>f))⟩) cK.dflt zne;have d:=λc (a:in6 c.1)=>zl8 (step:=Ed (Jl b) True) (λ_ (s:cK.den)=>in6 s.1) (gE b).1 (λi e s _ a=>zmm (zmn (zmv a) λs1 d=>zmm (zmn (zmv d) λl f=>zmv f))) c a;have f:=λc (a:in6 c.1)=>zl8 (step:=Ee (Jm b) True) (λ_ (s:cK.den)=>in6 s.1) (lh b).1 (λi e s _ a=>zl8 (step:=Eg (qow (Jm b) i e) True) (λ_ (s:cK.den)=>in6 s.1) e (λ_ _ _ _ a=>zmv a) s a) c a;have g:∀ r,da (Ec (Jk b) True) 0 b.2.1 cK.dflt=r->my (λ(s:cK.den)=>in6 s.1) (λ(y:yG.R.X)=>in6 y.2.1) r:=λr j=>j ▸ h;have key:gP (λy:aa [bS,i64]=>in6 y.1) (HT (b,())):=by
  refine znv (Q:=λy:aa [bS,i64]=>in6 y.1) (λc a=>?_) (λy k=>g _ k);exact⟨λ_=>zne,λ_=>⟨λ_=>zne,λ_=>⟨λ_=>zne,λ_=>f _ (d _ (g _ a))⟩⟩⟩
 exact zid key
noncomputable def zpw:List (FuncId×Ct):=[(12,zf0),(13,zf2),(15,GE),(16,zfq),(23,GG),(22,GM)]
noncomputable def zr7:Cx:=cx zpw []
def zr8:CxOK prog zr7:=aP (cs:=zpw) aG ⟨zg7,zg1,qcg,zhw,qch,qcr,uT⟩ trivial
def nd(c:Bool):List (Int×Int)->Fr α->Fr α
 |[],t=>t
 |p::l,t=>Jd (c=Z->0<=p.1/\p.1<p.2) (nd c l t)
def zmc{c:Bool}{v:α}{t:Fr α}:{l:List (Int×Int)}->(∀ p∈l,0<=p.1/\p.1<p.2)->(t.ok/\t.get=v)->(nd c l t).ok/\(nd c l t).get=v
 |[],_,h=>h
 |p::_,a,h=>aF (λ_=>a p ucc) (zmc (λq b=>a q (ubj _ b)) h)
def znn(b1 h i j k l m n:Bool):Fr (aa [.bool]):=
 let a:=bif Z then b1 else Y
 let b:=bif a then h else Y
 let c:=bif b then i else Y
 let d:=bif c then j else Y
 let e:=bif d then k else Y
 let f:=bif e then l else Y
 let g:=bif f then m else Y
 nd Z [(1,10),(1,6),(2,6),(3,6)] (nd a [(2,10),(0,6),(1,6)] (nd b [(3,10),(4,10),(0,6)] (nd c [(5,10),(2,6),(3,6)] (nd d [(6,10),(4,6)] (nd e [(7,10),(4,6)] (nd f [(8,10),(5,6)] (nd g [(9,10),(5,6)] (Jv (bif g then n else Y,())))))))))
def zxb:(znn Z Z Z Z Z Z Z Z).ok/\(znn Z Z Z Z Z Z Z Z).get=(Z,()):=
 zmc (by decide) (zmc (by decide) (zmc (by decide) (zmc (by decide) (zmc (by decide) (zmc (by decide) (zmc (by decide) (zmc (by decide) ⟨uT,rfl⟩)))))))
def zo9(t:dw.den)(x:bS.den):Fr (aa [.bool]):=
 let g:=λ(k:Int)=>(rx t).getD (Int.toNat k) 0
 let s:=λ(k:Int)=>(uG x).getD (Int.toNat k) 0
 let W:=I6.wrap
 znn (g 1==W (W (s 1-s 2)+s 3)) (g 2==W (s 0-s 1)) (W (g 3+g 4)==W (0-s 0)) (g 5==W (s 2-s 3)) (g 6==W (0-s 4)) (g 7==s 4) (g 8==s 5) (g 9==W (0-s 5))
def zop(x:ag [.d jourT,.d i64]):Fr (aa [.bool]):=
 let b:=zep x.1 x.2.1;let a:=ofJ x.1 x.2.1;Jb (!(mX x.1 30)) (Jv (Z,())) (Jd (bJ x.1.1) (Jd (bJ x.1.1) (Jb (bif b.2.1 != 0 then Z else a.2 != 0) (Jv (Z,()))
  (Jd (bD a.1) (Jd (ev (bq a.1)) (Jb ((yY a.1).2.1 != 0) (Jv (bif Z then (List.length (α:=be.den) b.1.1:Int)==0 else Y,()))
   (zo9 (zic b.1 292194) (yY a.1).1)))))))
def zuk:af prog 6 (bg [.d jourT,.d i64] [.bool] zop):=
 aS zr8 f6
def zxc{g:Int->Int}{e f i j b d c:Int}(h:∀ a,1<=a/\a<=9->g a=I6.wrap (tgt (e,f,i,j,b,d,()) c a))(q:Go.Ab.inR .i64 b)(r:Go.Ab.inR .i64 d):(zo9 (zk1 g) (e,f,i,j,b,d,())).ok/\(zo9 (zk1 g) (e,f,i,j,b,d,())).get=(Z,()):=by
 have l:I6.wrap b=b:=IntWalk.i64_in _ q;have m:I6.wrap d=d:=IntWalk.i64_in _ r;have n:(g 1==I6.wrap (I6.wrap (f-i)+j))=true:=by
  rw[h 1 (by decide)];show(I6.wrap (f-i+j)==_)=Z;rw[ufh];simp only[udf];omega
 have o:(g 2==I6.wrap (e-f))=true:=by rw[h 2 (by decide)];exact beq_self_eq_true _
 have p:(I6.wrap (g 3+g 4)==I6.wrap (0-e))=true:=by
  rw[h 3 (by decide),h 4 (by decide)];show(I6.wrap (I6.wrap (c-e)+I6.wrap (0-c))==_)=Z;rw[ufh];simp only[udf];omega
 have k:(g 5==I6.wrap (i-j))=true:=by rw[h 5 (by decide)];exact beq_self_eq_true _
 have s:(g 6==I6.wrap (0-b))=true:=by rw[h 6 (by decide)];exact beq_self_eq_true _
 have t:(g 7==b)=true:=by rw[h 7 (by decide)];show(I6.wrap b==b)=Z;rw[l];exact beq_self_eq_true _
 have u:(g 8==d)=true:=by rw[h 8 (by decide)];show(I6.wrap d==d)=Z;rw[m];exact beq_self_eq_true _
 have v:(g 9==I6.wrap (0-d))=true:=by rw[h 9 (by decide)];exact beq_self_eq_true _
 show(znn (g 1==I6.wrap (I6.wrap (f-i)+j)) (g 2==I6.wrap (e-f)) (I6.wrap (g 3+g 4)==I6.wrap (0-e)) (g 5==I6.wrap (i-j)) (g 6==I6.wrap (0-b)) (g 7==b) (g 8==d) (g 9==I6.wrap (0-d))).ok/\(znn (g 1==I6.wrap (I6.wrap (f-i)+j)) (g 2==I6.wrap (e-f)) (I6.wrap (g 3+g 4)==I6.wrap (0-e)) (g 5==I6.wrap (i-j)) (g 6==I6.wrap (0-b)) (g 7==b) (g 8==d) (g 9==I6.wrap (0-d))).get=_;rw[n,o,p,k,s,t,u,v];exact zxb
def stand29_ok:af prog 6 zk5:=
 conv zuk _ _ (λ_ _ x _ _ _=>by
  obtain⟨j,day,_⟩:=x;show(zop (j,day,())).ok/\(zop (j,day,())).get=(Z,());cases l : !(mX j 30);have r:mX j 30=true:=by simpa using l
  have m:=(qhp r).1;have w:((List.length (α:=aD.den) j.2.1:Nat):Int)<=2000:=by have:=(qhp r).2.1;omega
  have g:ofJ j day=(zf9 day j.2.1 (ym j.1),0):=zn4 w;have q:oO (ofJ j day).1:=by rw[g];exact znr _ (qhs m)
  refine aR l (aF m (aF m ?_));cases p:(bif (zep j day).2.1 != 0 then Z else (ofJ j day).2 != 0);have n:(zep j day).2.1=0:=by
   cases h:(zep j day).2.1 != 0;exact eq0 h;rw[h]at p;cases p
  have b:=zgf j day;have t:=zkk day j.2.1 (DA j) ⟨λe g=>(by cases g),List.Pairwise.nil⟩;cases k:goV day j.2.1 (DA j)with
  |inr y=>
   rw[k]at t b;rw[b]at n;exact absurd n t.1
  |inl s=>
   rw[k]at b;obtain⟨u,z⟩:=zro j day k;have d:(ofJ j day).1=s.2.2.2:=by rw[g];exact z.symm
   have i:(zep j day).1=s.1:=by rw[b];rfl
   have f:((yY (ofJ j day).1).2.1 != 0)=false:=by rw[d,(zo8 u).1];rfl
   refine aR rfl (aF q.1 (aF (qhr q) (aR f ?_)));rw[i,d,zlj];have o:=zxi s.2.2.2;exact zxc (c:=s.2.2.1) (λa v=>zrp u v) o.2.2.2.2.1 o.2.2.2.2.2
  exact aZ rfl ⟨uT,rfl⟩;exact aZ l ⟨uT,rfl⟩)
noncomputable def zpx:List (FuncId×Ct):=[(12,zf0),(13,zf2),(14,zmd),(15,GE),(16,zfq),(17,GD),(18,GK)]
noncomputable def zr9:Cx:=cx zpx []
def zsa:CxOK prog zr9:=aP (cs:=zpx) aG ⟨zg7,zg1,zob,qcg,zhw,qce,qcp,uT⟩ trivial
def lnJ(j:jourT.den):Int:=(List.length (α:=aD.den) j.2.1:Int)
def bkE(j:jourT.den):Int:=(List.getD (α:=aD.den) j.2.1 (I6.wrap (lnJ j-1)).toNat aD.dflt).1
def fE(j:jourT.den)(d:Int):aD.den:=clF (bkE j) d
def kE(j:jourT.den)(d:Int):jourT.den:=(zlm j (fE j d)).1
def stE(j:jourT.den)(d:Int):aq.den:=(ofJ (kE j d) (bkE j)).1
def zml(b:bV.den)(a e f h m:Int):Fr (aa [.bool]):=
 Jb (bif bif e != 0 then Z else f != 0 then Z else h != 0) (Jv (bif Z then bif e != 0 then Z else f != 0 else Y,())) (Jv (bif Z then (GK.f (b,4,a,())).1==I6.wrap (0-m)else Y,()))
def zon(x:ag [.d jourT,.d i64]):Fr (aa [.bool]):=
 let g:=fE x.1 x.2.1;let b:=stE x.1 x.2.1;let h:=edO b x.2.1;let a:=kE x.1 x.2.1;let c:=zep a (bkE x.1);Jb (bif !(mX x.1 30)then Z else lnJ x.1==0) (Jv (Z,())) (Jd (0<=I6.wrap (lnJ x.1-1)/\I6.wrap (lnJ x.1-1)<lnJ x.1) (Jd (ze4 g) (Jd (bJ x.1.1) (Jb ((zlm x.1 g).2 != 0) (Jv (Z,()))
  (Jd (bJ a.1) (Jd (bJ a.1) (Jd (bD b) (zml c.1 (bkE x.1) c.2.1 (ofJ a (bkE x.1)).2 h.2.1 h.1))))))))
def zui:af prog 3 (bg [.d jourT,.d i64] [.bool] zon):=
 aS zsa f3
def zt8{b:bV.den}{a e f h m:Int}(d:e≠0):(zml b a e f h m).ok/\(zml b a e f h m).get=(Z,()):=by
 have c:(e != 0)=true:=by simpa using d
 refine aZ (by rw[c];rfl) ⟨uT,?_⟩;show((bif Z then bif e != 0 then Z else f != 0 else Y,()):Bool×Unit)=_;rw[c];rfl
def zt9{b:bV.den}{a m:Int}(h:zih b.1 4 a=I6.wrap (0-m)):(zml b a 0 0 0 m).ok/\(zml b a 0 0 0 m).get=(Z,()):=by
 refine aR rfl ⟨uT,?_⟩;show((bif Z then (GK.f (b,4,a,())).1==I6.wrap (0-m)else Y,()):Bool×Unit)=_;rw[ziy,h];simp
def zvf(a:((n:Int)==0)=Y)(b:(n:Int)<=2000):0<=I6.wrap ((n:Int)-1)/\I6.wrap ((n:Int)-1)<(n:Int):=by
 have a:(n:Int)≠0:=by simpa using a
 rw[IntWalk.i64_in _ (by omega)];omega
def earned29_ok:af prog 3 zk5:=
 conv zui _ _ (λ_ _ x _ _ _=>by
  obtain⟨j,d,_⟩:=x;show(zon (j,d,())).ok/\(zon (j,d,())).get=(Z,());cases g:(bif !(mX j 30)then Z else lnJ j==0);obtain⟨s,t⟩:=orF g;have i:mX j 30=true:=by simpa using s
  have l:=(qhp i).1;have k:((List.length (α:=aD.den) j.2.1:Nat):Int)<=30:=(qhp i).2.1;refine aR g (aF (zvf (n:=List.length (α:=aD.den) j.2.1) t (ue3 k (by decide))) (aF ⟨uff _,uff _⟩ (aF l ?_)));cases q:(zlm j (fE j d)).2 != 0;have h:(zlm j (fE j d)).2=0:=eq0 q;have b:kE j d=(j.1,j.2.1++[fE j d],()):=(zmr h).2.2.2;have c:((List.length (α:=aD.den) (kE j d).2.1:Nat):Int)<=2000:=by
   rw[b];show(((j.2.1++[fE j d]).length:Nat):Int)<=2000;rw[ub6,ua7];omega
  have a:bJ (kE j d).1:=by rw[b];exact l
  have e:ofJ (kE j d) (bkE j)=(zf9 (bkE j) (kE j d).2.1 (ym (kE j d).1),0):=zn4 c;refine aR rfl (aF a (aF a (aF (zp6 _ a) ?_)));rcases zua j (bkE j) d h (ue3 k (by decide))with r|⟨p1,p2,p3⟩
  refine zt8 ?_;show(zep (kE j d) (bkE j)).2.1≠0;rw[b];exact r;have f:stE j d=zf9 (bkE j) (j.2.1++[clF (bkE j) d]) (ym j.1):=by
   unfold stE;rw[e,b];rfl
  have m:(zep (kE j d) (bkE j)).2.1=0:=by rw[b];exact p2
  have o:(ofJ (kE j d) (bkE j)).2=0:=by rw[e]
  have p:(edO (stE j d) d).2.1=0:=by rw[f];exact p1
  show(zml (zep (kE j d) (bkE j)).1 (bkE j) (zep (kE j d) (bkE j)).2.1 (ofJ (kE j d) (bkE j)).2 (edO (stE j d) d).2.1 (edO (stE j d) d).1).ok/\(zml (zep (kE j d) (bkE j)).1 (bkE j) (zep (kE j d) (bkE j)).2.1 (ofJ (kE j d) (bkE j)).2 (edO (stE j d) d).2.1 (edO (stE j d) d).1).get=_;rw[m,o,p];refine zt9 ?_;rw[f,b];exact p3;exact aZ rfl ⟨uT,rfl⟩;exact aZ g ⟨uT,rfl⟩)
def L5(day:Int)(l:List az.den):List az.den:=l.filter λx=>J (x.2.1<=day)
def mx(c n:Int):Int:=IntKind.u64.wrap (IntKind.u64.wrap (BitVec.ofInt IntKind.u64.bits c ^^^ BitVec.ofInt IntKind.u64.bits (IntKind.u64.wrap n)).toNat*1099511628211)
def zof(e f g:Int)(b:bV.den):Bool:=
 bif bif bif bif Z then f==0 else Y then (bif e==0 then Z else bif e==5 then (List.length (α:=be.den) b.1:Int)==0 else Y)else Y then (bif g==0 then Z else g==5)else Y then (bif e != 0 then Z else g==0)else Y
def En(k:jourT.den)(day:Int):Fr (aa [.bool]):=
 Jd (bJ k.1) (Jd (bJ k.1) (Jd (bD (ofJ k day).1) (Jd (ev (bq (ofJ k day).1)) (Jv (zof (zep k day).2.1 (ofJ k day).2 (yY (ofJ k day).1).2.1 (zep k day).1,())))))
end Go.Proofs.YtdokapnnagbehaaGreat
