/-
  Parts of the proof, one behind the other.
-/
import Derived.Test.YtdokapnnagbehaaGreatMk
import Derived.Maps.OwnIn
import Derived.RegionTactic
set_option linter.all false
set_option maxRecDepth 100000
set_option maxHeartbeats 4000000
open Option renaming some->U,none->V
open Bool renaming true->Z,false->Y
open Decidable renaming decide->J
open Go Go.RowKit
variable {T α σ ρ β:Type} {P:Program} {ad:Addr} {arr cs cur:Array Value} {f:FuncId} {x a y day:Int} {k:IntKind} {l:List Int} {xs vs news:List Value} {off i n b c d j B m len:Nat} {F F' K:Nat->Prop} {R g R':Nat->Value->Prop} {o:Oper} {p:Prop} {e ety t ty el:TypeId} {v u vx:Value} {w w' W' W:World}
namespace Go.Proofs.YtdokapnnagbehaaGreat
open Go Go.Ab Go.RowKit Go.Proofs Tryz Go.Shelf
open Go.Ab.Fr renaming val->Jv,need->Jd,br->Jb
abbrev oY:Ty:=.sl (.sl az)
noncomputable def WW:Cx:=cW [] [] (II 153 38 az 88)
def EB:CxOK prog WW:=cZ (cs:=[]) (ps:=[]) aG trivial trivial (qmz qmy)
abbrev nr:Pt:=⟨36,0,⟨[(0,.d oY),(9,.d oY),(10,.d i64),(11,.d i64),(3,.d i64)],[]⟩,⟨[(0,.d oY),(3,.d i64)],[]⟩,⟨[],[]⟩⟩
abbrev nt:Pt:=⟨36,2,⟨[(25,.d oY),(26,.d i64),(27,.d i64)],[.o 6 38 az]⟩,⟨[],[.o 6 38 az]⟩,⟨[],[]⟩⟩
def Io(x:nr.M.X):Fr nr.Out:=
 let a:List (List az.den):=x.1.1;let l:List (List az.den):=x.1.2.1;let n:Int:=x.1.2.2.1;let i:Int:=x.1.2.2.2.1;let s:Int:=x.1.2.2.2.2.1
 Jb (J (i<n))
  (Jd (0<=i/\i<(l.length:Int))
   (Jb (J (I6.wrap (s+((List.length (α:=az.den) (l.getD i.toNat []):Nat):Int))<0)) (Jd False (Jv (Rd.back ((),()))))
    (Jv (Rd.next ((a,l,n,I6.wrap (i+1),I6.wrap (s+((List.length (α:=az.den) (l.getD i.toNat []):Nat):Int)),()),())))))
  (Jv (Rd.out ((a,s,()),())))
def qyt:ae prog (au f93 0) nr.M nr Io:=
 dn EB
def Ip(x:nt.M.X):Fr nt.Out:=
 let l:List (List az.den):=x.1.1;let n:Int:=x.1.2.1;let i:Int:=x.1.2.2.1;let o:List az.den:=x.2.1
 Jb (J (i<n))
  (Jd (0<=i/\i<(l.length:Int))
   (Jd (D3 o.length (List.length (α:=az.den) (l.getD i.toNat [])))
    (Jv (Rd.next ((l,n,I6.wrap (i+1),()),(o++l.getD i.toNat [],()))))))
  (Jv (Rd.out ((),(o,()))))
def qyu:ae prog (au f93 1) nt.M nt Ip:=
 dn EB
structure InvCc1 (l:List (List az.den)) (n i s:Int):Prop where
 i0:0<=i
 il:i<=n
 nl:n=l.length
 big:(l.length:Int)<=9223372036854775807
 few:l.flatten.length<=1000000
 s0:s=((l.take i.toNat).flatten.length:Nat)
def ME(x:nr.M.X):Fr nr.Out:=Jd (x.1.1=x.1.2.1/\InvCc1 x.1.2.1 x.1.2.2.1 x.1.2.2.2.1 x.1.2.2.2.2.1) (Jv (Rd.out ((x.1.1,((List.flatten (α:=az.den) x.1.2.1).length:Int),()),())))
def VN(l:List (List az.den)){k:Nat}(a:k<l.length):(l.take (k+1)).flatten=(l.take k).flatten++l.getD k []:=by
 rw[List.take_add_one,List.flatten_append,uaq a,uah,uaq a];simp
def VO(l:List (List az.den))(k:Nat):(l.take k).flatten.length<=l.flatten.length:=by
 conv=>rhs;rw[<- uba k l]
 rw[List.flatten_append,ub6];omega
def qpo (a l:List (List az.den)) (n i s:Int) (c:a=l/\InvCc1 l n i s) (Q:nr.Out->Prop) (h:Q (Rd.out ((a,(l.flatten.length:Int),()),()))):(Io ((a,l,n,i,s,()),())).satP λ
   |.next b=>(b.1.1=b.1.2.1/\InvCc1 b.1.2.1 b.1.2.2.1 b.1.2.2.2.1 b.1.2.2.2.2.1)/\(b.1.2.2.1-b.1.2.2.2.1).toNat<(n-i).toNat/\(ME b).satP Q
   |.out y=>Q (.out y)
   |.back z=>Q (.back z)
   |.pan p=>Q (.pan p):=by
 obtain⟨rfl,w,x,j,m,o,e⟩:=c;obtain⟨k,rfl⟩:∃ k:Nat,i=k:=⟨i.toNat,by omega⟩;subst j;dsimp only[Io,Fr.satP];rw[uc0]at e |-;refine⟨λhi=>?_,λhi=>?_⟩;have g:k<a.length:=by have:(k:Int)<(a.length:Int):=ucx hi;omega
 have q:=VN a g;have r:=VO a (k+1);have d:=uft List.length q;rw[ub6]at d;have u:I6.wrap ((k:Int)+1)=((k+1:Nat):Int):=by rw[cz (by omega)];omega
 have v:I6.wrap (s+((a.getD k []).length:Int))=(((a.take (k+1)).flatten.length:Nat):Int):=by rw[cz (by omega)];omega
 rw[u,v];refine⟨⟨by omega,by omega⟩,λt=>?_,λ_=>?_⟩;have:((((a.take (k+1)).flatten.length:Nat):Int)<0):=ucx t;omega;have f:InvCc1 a a.length ((k+1:Nat):Int) (((a.take (k+1)).flatten.length:Nat):Int):=⟨by omega,by omega,rfl,m,o,by rw[uc0]⟩;exact⟨⟨rfl,f⟩,by omega,⟨rfl,f⟩,h⟩;have g:¬ (k:Int)<(a.length:Int):=uch hi;rw[ua3 (by omega)]at e;rw[e];exact h
def qqv:ae prog (.loop (au f93 0)) nr.M nr ME:=by
 refine ae.loop (n:=36) (id:=0) qyt (inv:=λx=>x.1.1=x.1.2.1/\InvCc1 x.1.2.1 x.1.2.2.1 x.1.2.2.2.1 x.1.2.2.2.2.1) (μ:=λx=>(x.1.2.2.1-x.1.2.2.2.1).toNat) ?_ (λx Q h=>h.1);rintro⟨⟨c,l,n,i,s,_⟩,_⟩ a Q b;exact qpo c l n i s a Q b.2
structure InvCc2 (l:List (List az.den)) (n i:Int) (o:List az.den):Prop where
 i0:0<=i
 il:i<=n
 nl:n=l.length
 big:(l.length:Int)<=9223372036854775807
 few:l.flatten.length<=1000000
 o0:o=(l.take i.toNat).flatten
def MF(x:nt.M.X):Fr nt.Out:=Jd (InvCc2 x.1.1 x.1.2.1 x.1.2.2.1 x.2.1) (Jv (Rd.out ((),(List.flatten (α:=az.den) x.1.1,()))))
def qxx(h:n+m<=1000000):D3 n m:=by
 refine⟨by unfold maxLen;omega,ueo (uee h OF) (by decide)⟩
def qpp (l:List (List az.den)) (n i:Int) (o:List az.den) (b:InvCc2 l n i o) (Q:nt.Out->Prop) (h:Q (Rd.out ((),(l.flatten,())))):(Ip ((l,n,i,()),(o,()))).satP λ
   |.next a=>InvCc2 a.1.1 a.1.2.1 a.1.2.2.1 a.2.1/\(a.1.2.1-a.1.2.2.1).toNat<(n-i).toNat/\(MF a).satP Q
   |.out y=>Q (.out y)
   |.back z=>Q (.back z)
   |.pan p=>Q (.pan p):=by
 obtain⟨t,u,j,m,q,d⟩:=b;obtain⟨k,rfl⟩:∃ k:Nat,i=k:=⟨i.toNat,by omega⟩;subst j;dsimp only[Ip,Fr.satP];rw[uc0]at d |-;subst d;refine⟨λhi=>?_,λhi=>?_⟩;have g:k<l.length:=by have:(k:Int)<(l.length:Int):=ucx hi;omega
 have f:=VN l g;have r:=VO l (k+1);have c:=uft List.length f;rw[ub6]at c;have s:I6.wrap ((k:Int)+1)=((k+1:Nat):Int):=by rw[cz (by omega)];omega
 rw[s,<- f];have e:InvCc2 l l.length ((k+1:Nat):Int) (l.take (k+1)).flatten:=⟨by omega,by omega,rfl,m,q,by rw[uc0]⟩;exact⟨⟨by omega,by omega⟩,qxx (by omega),e,by omega,e,h⟩;have g:¬ (k:Int)<(l.length:Int):=uch hi;rw[ua3 (by omega)];exact h
def qqw:ae prog (.loop (au f93 1)) nt.M nt MF:=by
 refine ae.loop (n:=36) (id:=2) qyu (inv:=λx=>InvCc2 x.1.1 x.1.2.1 x.1.2.2.1 x.2.1) (μ:=λx=>(x.1.2.1-x.1.2.2.1).toNat) ?_ (λx Q h=>h.1);rintro⟨⟨l,n,i,_⟩,o,_⟩ a Q b;exact qpp l n i o a Q b.2
def Aw:Ct:=⟨[.d oY],[.sl az],λx=>(List.flatten (α:=az.den) x.1,()),λx=>[(List.flatten (α:=az.den) x.1).length<=1000000]⟩
def Q4(x:ag [.d oY]):Fr (aa [.sl az]):=
 let l:List (List az.den):=x.1
 Jd (l=l/\InvCc1 l l.length 0 0)
  (Jd (0<=((l.flatten.length:Nat):Int)/\((l.flatten.length:Nat):Int)<=maxLen/\((l.flatten.length:Nat):Int)*(88:Nat)<=140737488355328)
   (Jd (InvCc2 l l.length 0 []) (Jv (l.flatten,()))))
def qed:af prog 93 (bg [.d oY] [.sl az] Q4):=
 oP EB qqv qqw (fr:=Q4) (ps:=[.d oY]) (rs:=[.sl az])
def qec:af prog 93 Aw:=
 cQ qed _ _ (λw F x vs d b=>by
  obtain⟨l,_⟩:=x;obtain⟨v,f,rfl,e,_⟩:=d;have a:(List.length (α:=List az.den) l:Int)<=9223372036854775807:=uB (aA.wf e.2.2).1;have c:(List.flatten (α:=az.den) l).length<=1000000:=b;refine aF ⟨rfl,⟨ufa _,ub4 _,rfl,a,c,rfl⟩⟩ (aF ⟨by omega,?_,?_⟩ (aF ⟨ufa _,ub4 _,rfl,a,c,rfl⟩ ⟨uT,rfl⟩));show((List.flatten (α:=az.den) l).length:Int)<=(maxLen:Int);unfold maxLen;omega;show((List.flatten (α:=az.den) l).length:Int)*((88:Nat):Int)<=140737488355328;omega)
noncomputable def El:Code:=(f92.body.map Vb).getD .skip
noncomputable def VV:Code:=(f92.body.map Ru).getD .skip
noncomputable def VW:Code:=(findLabel El 0).getD .skip
noncomputable def EI:Cx:=cx [(97,G0)] []
def zN:CxOK prog EI:=aP aG ⟨JX,uT⟩ trivial
def nT:LS:=⟨[],[.x 1 114 aC,.r 1 1 0]⟩
def zY:LS:=⟨[(4,.d (.sl i64)),(5,.d i64)],[.x 1 114 aC,.r 1 1 0]⟩
def Dc:Pt:=⟨34,0,zY,⟨[],[]⟩,⟨[(2,.d i64),(3,.d .bool)],[]⟩⟩
def yE:Pt:=⟨34,0,nT,⟨[],[]⟩,⟨[(2,.d i64),(3,.d .bool)],[]⟩⟩
def Bt(x:zY.X):Fr Dc.Out:=
 let l:List Int:=x.1.1;let k:Int:=x.1.2.1;let h:aC.den:=x.2.1
 let v:Int:=l.getD (I6.wrap (k-1)).toNat 0
 Jb (k==0) (Jv (Rd.back ((0,Y,()),())))
  (Jd (0<=I6.wrap (k-1)/\I6.wrap (k-1)<(l.length:Int))
   (Jd (0<=v/\v<((aL h).length:Int))
    (Jb (bif ((aL h).getD v.toNat az.dflt).2.2.1 != 3 then ((aL h).getD v.toNat az.dflt).2.2.1 != 4 else Y)
     (Jv (Rd.next ((l,I6.wrap (k-1),()),(h,()))))
     (Jd (0<=I6.wrap (k-1)/\I6.wrap (k-1)<(l.length:Int)) (Jv (Rd.back ((v,Z,()),())))))))
def qg8(x:nT.X):Fr Dc.Out:=
 let h:aC.den:=x.2.1
 Jd (((aL h).length:Int)<=1000000) (Bt ((bE h,((bE h).length:Int),()),(h,())))
def qy3:gi prog 0 El nT Dc qg8:=gi.of_run zN (bs:=0) rfl rfl rfl (λ_=>aY _ 0) (λx=>by kernel_rfl)
def qy2:gi prog 0 VW zY Dc Bt:=gi.of_run zN (bs:=0) rfl rfl rfl (λ_=>aY _ 0) (λx=>by kernel_rfl)
def kM(c:az.den):Bool:=c.2.2.1==3 || c.2.2.1==4
def gM(h:aC.den)(l:List Int):Nat->Option Int
 |0=>V
 |k+1=>if kM (bZ h (l.getD k 0))=Z then U (l.getD k 0)else gM h l k
structure InvTn (l:List Int) (k:Int) (h:aC.den):Prop where
 k0:0<=k
 kl:k<=l.length
 big:l.length<=1000000
 mem:∀ v∈l,0<=v/\v<((aL h).length:Int)
def CS(o:Option Int):Rd nT.X (LS.X ⟨[],[]⟩) (LS.X ⟨[(2,.d i64),(3,.d .bool)],[]⟩):=Rd.back ((o.getD 0,o.isSome,()),())
def MM(x:zY.X):Fr yE.Out:=Jd (InvTn x.1.1 x.1.2.1 x.2.1) (Jv (CS (gM x.2.1 x.1.1 (x.1.2.1:Int).toNat)))
def MN(x:nT.X):Fr yE.Out:=Jd (((aL x.2.1).length:Int)<=1000000) (Jv (CS (gM x.2.1 (bE x.2.1) (bE x.2.1).length)))
def qo4(c:az.den):(bif c.2.2.1 != 3 then c.2.2.1 != 4 else Y)=!kM c:=by
 unfold kM;show(bif !(c.2.2.1==3)then !(c.2.2.1==4)else Y)=!(c.2.2.1==3 || c.2.2.1==4);cases c.2.2.1==3<;>cases c.2.2.1==4<;>rfl
def So(l:List Int)(k:Int)(h:aC.den)(b:InvTn l k h)(Q:yE.Out->Prop)(f:Q (CS (gM h l k.toNat))):(Bt ((l,k,()),(h,()))).satP λ
   |.next g=>InvTn g.1.1 g.1.2.1 g.2.1/\(g.1.2.1:Int).toNat<k.toNat/\(MM g).satP Q
   |.out y=>Q (.out y)
   |.back z=>Q (.back z)
   |.pan p=>Q (.pan p):=by
 obtain⟨x,A,t,q⟩:=b;obtain⟨n,rfl⟩:∃ n:Nat,k=n:=⟨k.toNat,by omega⟩;rw[uc0]at f |-;cases n with
 |zero=>exact⟨λ_=>f,λi=>(by cases i)⟩
 |succ m=>
  have w:I6.wrap (((m+1:Nat):Int)-1)=(m:Int):=by rw[cz (by omega)];omega
  have s:m<l.length:=by omega
  dsimp only[Bt,Fr.satP];rw[w,uc0];have u:l.getD m 0=l[m]:=by rw[uah,uaq s];rfl
  have d:=q (l.getD m 0) (by rw[u];exact udi s);have i:0<=(m:Int)/\(m:Int)<(l.length:Int):=⟨by omega,by omega⟩;have c:=qo4 (bZ h (l.getD m 0));refine⟨λv=>?_,λ_=>⟨i,d,λj=>?_,λj=>⟨i,?_⟩⟩⟩;exfalso;have:((m+1:Nat):Int)=0:=ufq v;omega;have o:kM (bZ h (l.getD m 0))=false:=by
   have a:(bif (bZ h (l.getD m 0)).2.2.1 != 3 then (bZ h (l.getD m 0)).2.2.1 != 4 else Y)=true:=j;rw[c]at a;simpa using a
  have r:InvTn l (m:Int) h:=⟨by omega,by omega,t,q⟩;refine⟨r,Nat.lt_succ_self m,r,?_⟩;show Q (CS (gM h l (m:Int).toNat));rw[uc0];have e:gM h l (m+1)=gM h l m:=ufw (by rw[o];decide);rw[<- e];exact f;have o:kM (bZ h (l.getD m 0))=true:=by
   have a:(bif (bZ h (l.getD m 0)).2.2.1 != 3 then (bZ h (l.getD m 0)).2.2.1 != 4 else Y)=false:=j;rw[c]at a;simpa using a
  have e:gM h l (m+1)=U (l.getD m 0):=ufv o;rw[e]at f;exact f
def qyj:ae prog (.scope El) nT yE MN:=
 zdi (n:=34) (id:=0) (N:=nT) (rest:=VW) (by kernel_rfl) qy3 qy2 (F:=MM) (inv:=λx=>InvTn x.1.1 x.1.2.1 x.2.1) (μ:=λx=>(x.1.2.1:Int).toNat)
  (by
   rintro⟨_,h,_⟩ Q c;have d:(bE h).length=(aL h).length:=CO h;have e:((aL h).length:Int)<=1000000:=c.1;have f:InvTn (bE h) ((bE h).length:Int) h:=⟨ub4 _,ufa _,by omega,λv g=>CR g⟩;refine⟨e,Fr.satP_mono ?_ (So (bE h) ((bE h).length:Int) h f Q ?_)⟩
   ·intro r b;cases r with
    |next i=>exact⟨b.1,b.2.2⟩
    |out y=>exact b
    |back z=>exact b
    |pan p=>exact b
   rw[uc0];exact c.2)
  (by
   rintro⟨⟨l,k,_⟩,h,_⟩ a Q c;exact So l k h a Q c.2)
def mr(h:aC.den):Option Int:=gM h (bE h) (bE h).length
def qA:Ct:=⟨[.d aC],[i64,.bool],λx=>((mr x.1).getD 0,(mr x.1).isSome,()),λx=>[((aL x.1).length:Int)<=1000000]⟩
def zcd:af prog 92 qA:=
 cQ (QM (run:=sq (cr prog EI 0 bw VV 0) (yE.han EI.Γ nT MN)) (fn:=f92) (c:=.seq VV (.scope El)) (ps:=[.d aC]) (rs:=[i64,.bool])
  (fr:=λx=>Jd (((aL x.1).length:Int)<=1000000) (Jv ((mr x.1).getD 0,(mr x.1).isSome,()))) (aC.dflt,()) (by kernel_rfl) (by kernel_rfl)
  (λE=>z8 (zmz zN (aY _ 0)) (ae.run zN rfl qyj)) (λx=>by kernel_rfl)) _ _ (λ_ _ _ _ _ a=>aF a ⟨uT,rfl⟩)
def ke:Code->Code
 |.seq _ c=>c
 |_=>.skip
def rh:Code->Code
 |.seq c _=>c
 |_=>.skip
def JT:Code->Array Oper
 |.region _ ops _=>ops
 |_=>#[]
noncomputable def th:Code:=(f94.body.map λc=>ke (ke c)).getD .skip
noncomputable def wu:Cx:=cx [(100,jb)] [(91,dW),(149,eF),(90,fP)]
def wv:CxOK prog wu:=aP aG ⟨Ky,uT⟩ ⟨Pf,JE,Wu,uT⟩
noncomputable def UP:St->Option Tr:=
 sq (cr prog wu 0 bw (rh th) 0) (sq (cr prog wu 0 bw (rh (ke th)) 0)
  (sq (Kn prog wu 0 (JT (rh (ke (ke th)))).toList) (cr prog wu 0 bw (ke (ke (ke th))) 0)))
def Il(b1 a:Bool)(p1 p2:PV)(v:Int):Fr (aa [i64,i64]):=
 Jb b1 (Jd (b1=Y->b1=Y) (Jd (b1=Z->True/\p1=p1) (Jd (a=Y->a=Y) (Jd (a=Z->True/\p2=p1) (Jd (inR .i64 p1.n) (Jv (0,p1.n,())))))))
  (Jb a (Jd (b1=Y->b1=Y) (Jd (b1=Z->True/\p1=p2) (Jd (a=Y->a=Y) (Jd (a=Z->True/\p2=p2) (Jd (inR .i64 p2.n) (Jv (0,p2.n,())))))))
   (Jd (b1=Y) (Jd (a=Y) (Jv (v,0,())))))
def Q2(f:bm.den)(a b:Int):Fr (aa [i64,i64]):=
 Il (fP.bad (f,b,())) (fP.bad (f,a,())) (fP.pv (f,b,())) (fP.pv (f,a,())) (I6.wrap ((fP.f (f,b,())).1-(fP.f (f,a,())).1))
def Q1(x:ag [.d zel,.d cn]):Fr (aa [i64,i64]):=
 let c:=eF.pv (1,());let b:=dW.pv (x.1,());let a:=Q2 (dW.f (x.1,())).1 x.2.1.1 x.2.1.2.1;Jb (dW.bad (x.1,())) (Jd (inR .i64 b.n) (Jv (0,b.n,())))
  (Jb (!(jb.f (x.2.1,())).1)
   (Jb (eF.bad (1,())) (Jd (inR .i64 c.n) (Jv (0,c.n,()))) a)
   a)
def qx5(E:Env):lr prog E th UP:=
 z8 (zmz wv (aY _ 0)) (z8 (zmz wv (aY _ 0))
  (z8 (qw8 wv) (zmz wv (aY _ 0))))
def WT:af prog 94 (bg [.d zel,.d cn] [i64,i64] Q1):=
 qgc wv (run:=UP) (fn:=f94) (A:=rh (f94.body.getD .skip)) (c:=th) (rid:=1) (ops:=JT (rh (ke (f94.body.getD .skip)))) (tp:=5) (fr:=Q1) (ps:=[.d zel,.d cn]) (rs:=[i64,i64]) ([],(0,0,()),()) (by kernel_rfl) (by kernel_rfl) (by kernel_rfl) VZ qx5 (λx=>by kernel_rfl)
def qwd{a b:Int×Int}{b1 d:Bool}{v:Int}(f:b1=!(a.2==0))(g:d=!(b.2==0)):
  (if b1=Z then ((0:Int),a.2,())else if d=Z then ((0:Int),b.2,())else (v,(0:Int),())) =
   ((if a.2≠0 then ((0:Int),a.2)else if b.2≠0 then ((0:Int),b.2)else (v,(0:Int))).1,(if a.2≠0 then ((0:Int),a.2)else if b.2≠0 then ((0:Int),b.2)else (v,(0:Int))).2,()):=by
 subst f;subst g;by_cases c:a.2=0;by_cases e:b.2=0;simp[c,e];simp[c,e];simp[c]
def qbk{b:Int}(c:0<=a/\a<=4000000000000000000)(d:0<=b/\b<=4000000000000000000): -9223372036854775808<=a-b/\a-b<=9223372036854775807:=by omega
def qk2{b1 a:Bool}{p1 p2:PV}{v:Int}(h:b1=Z->a=Z->p2=p1)(b:inR .i64 p1.n)(c:inR .i64 p2.n):
  (Il b1 a p1 p2 v).ok/\(Il b1 a p1 p2 v).get=if b1=Z then (0,p1.n,())else if a=Z then (0,p2.n,())else (v,0,()):=by
 cases b1 with
 |true=>exact⟨⟨λ_=>⟨λh=>(by cases h),λ_=>⟨uT,rfl⟩,λh=>h,λd=>⟨uT,h rfl d⟩,b,uT⟩,λh=>(by cases h)⟩,rfl⟩
 |false=>
  cases a with
  |true=>exact⟨⟨λh=>(by cases h),λ_=>⟨λ_=>⟨λh=>h,λh=>(by cases h),λh=>(by cases h),λ_=>⟨uT,rfl⟩,c,uT⟩,λh=>(by cases h)⟩⟩,rfl⟩
  |false=>exact⟨⟨λh=>(by cases h),λ_=>⟨λh=>(by cases h),λ_=>⟨rfl,rfl,uT⟩⟩⟩,rfl⟩
def fe(l:List aB.den)(s:cn.den):Int×Int:=
 if (iG l).isNone=Z\/jT s=Y then (0,1)
 else if (bT (cy l) s.2.1).2≠0 then (0,(bT (cy l) s.2.1).2)
 else if (bT (cy l) s.1).2≠0 then (0,(bT (cy l) s.1).2)
 else ((bT (cy l) s.2.1).1-(bT (cy l) s.1).1,0)
def Ga:Ct:=⟨[.d zel,.d cn],[i64,i64],λx=>((fe x.1 x.2.1).1,(fe x.1 x.2.1).2,()),λ_=>[]⟩
def qbj:af prog 94 Ga:=
 conv WT _ _ λw F xs vs x _=>by
  obtain⟨l,s,_⟩:=xs;by_cases i:(iG l).isNone=Z;have b:dW.bad (l,())=true:=i;refine⟨⟨λ_=>⟨tS H9,uT⟩,λh=>(by have a:dW.bad (l,())=false:=h;rw[b]at a;cases a)⟩,?_⟩;show(if dW.bad (l,())=Z then ((0:Int),(1:Int),())else _)=((fe l s).1,(fe l s).2,());unfold fe;rw[b,ufv rfl,ufv (.inl i)];have e:=ucz.2 i;have b:dW.bad (l,())=false:=e;have t:=qex e;by_cases j:jT s=Z;have g:(!(jb.f (s,())).1)=false:=by show(!(jT s))=Y;rw[j];rfl
  have m:fP.bad (cy l,s.2.1,())=Z->fP.bad (cy l,s.1,())=Z->fP.pv (cy l,s.1,())=fP.pv (cy l,s.2.1,()):=by
   intro n o;have key:∀ d,fP.bad (cy l,d,())=Z->(bT (cy l) d).2=5:=λd r=>by
    have c:(!((bT (cy l) d).2==0))=true:=r;rw[zcv t]at c |-;split;rename_i k;rw[ufv k]at c;cases c;rfl
   show(⟨_,_,(bT (cy l) s.1).2⟩:PV)=⟨_,_,(bT (cy l) s.2.1).2⟩;rw[key _ n,key _ o]
  obtain⟨v,y⟩:=qk2 m (tS (L8 (cy l) s.2.1)) (tS (L8 (cy l) s.1));refine⟨⟨λh=>(by have a:dW.bad (l,())=true:=h;rw[b]at a;cases a),λ_=>⟨λh=>(by have a:(!(jb.f (s,())).1)=true:=h;rw[g]at a;cases a),λ_=>v⟩⟩,?_⟩;show(if dW.bad (l,())=Z then _ else if (!(jb.f (s,())).1)=Z then _ else (Q2 (cy l) s.1 s.2.1).get)=((fe l s).1,(fe l s).2,());rw[b,ufw (by decide),g,ufw (by decide)];have u:=cz (qbk (L9 (cy l) s.2.1) (L9 (cy l) s.1));have q:fe l s=if (bT (cy l) s.2.1).2≠0 then (0,(bT (cy l) s.2.1).2)else if (bT (cy l) s.1).2≠0 then (0,(bT (cy l) s.1).2)else ((bT (cy l) s.2.1).1-(bT (cy l) s.1).1,0):=ufw (λh=>h.elim i (λh=>by rw[j]at h;cases h))
  rw[q,<- u];exact qwd rfl rfl;have g:(!(jb.f (s,())).1)=true:=by show(!(jT s))=Z;simpa using j
  refine⟨⟨λh=>(by have a:dW.bad (l,())=true:=h;rw[b]at a;cases a),λ_=>⟨λ_=>⟨λ_=>⟨tS H9,uT⟩,λh=>(by cases h)⟩,λh=>(by have a:(!(jb.f (s,())).1)=false:=h;rw[g]at a;cases a)⟩⟩,?_⟩;show(if dW.bad (l,())=Z then _ else if (!(jb.f (s,())).1)=Z then ((0:Int),(1:Int),())else _)=((fe l s).1,(fe l s).2,());have p:fe l s=(0,1):=ufv (.inr (by simpa using j));rw[b,ufw (by decide),g,ufv rfl,p]
noncomputable def X2:Cx:=cx [(60,fN),(92,qA),(93,Aw),(94,Ga),(95,iC)] []
def X3:CxOK prog X2:=aP aG ⟨CN,zcd,qec,qbj,wL,uT⟩ trivial
def rH(h:aC.den)(a:Int):List (List az.den):=
 [List.take (a-0).toNat (List.drop (0:Int).toNat (aL h)),List.take (((aL h).length:Int)-I6.wrap (a+1)).toNat (List.drop (I6.wrap (a+1)).toNat (aL h))]
def yW(h:aC.den)(l:List az.den):aC.den:=(h.1,h.2.1,h.2.2.1,l,())
def I1(h x:aC.den)(t:zll.den)(day:Int):Fr (aa [i64,i64]):=
 let c:=fN.f (x,t,());let a:=Ga.f (c.1,(day,h.2.2.1.1.2.1,()),());let b:=iC.f (a.1,1000,());Jd (bL x) (Jd (bJ t)
  (Jb (c.2.1 != 0) (Jv (0,c.2.1,()))
   (Jb (a.2.1 != 0) (Jv (0,a.2.1,()))
    (Jv (b.1,b.2.1,())))))
def I0(x:ag [.d aC,.d zll]):Fr (aa [i64,i64]):=
 let h:aC.den:=x.1;let t:zll.den:=x.2.1
 let a:Int:=(qA.f (h,())).1;let b:Bool:=(qA.f (h,())).2.1
 Jd (bL h) (Jd (bJ t) (Jb ((fN.f (h,t,())).2.1 != 0) (Jv (0,(fN.f (h,t,())).2.1,()))
  (Jd (((aL h).length:Int)<=1000000)
   (Jd ((!b)=Y->0<=a/\a<((aL h).length:Int))
    (Jd ((bif !b then Z else ((aL h).getD a.toNat az.dflt).2.2.1 != 3)=Y->0<=a/\a<((aL h).length:Int))
     (Jb (bif bif !b then Z else ((aL h).getD a.toNat az.dflt).2.2.1 != 3 then Z else ((aL h).getD a.toNat az.dflt).2.2.2.2.2.1 != 1) (Jv (0,0,()))
      (Jd (0<=a/\a<((aL h).length:Int))
       (Jd (0<=(none:Option Int).getD 0/\(none:Option Int).getD 0<=a/\a<=((aL h).length:Int))
        (Jd (0<=I6.wrap (a+1)/\I6.wrap (a+1)<=((aL h).length:Int)/\((aL h).length:Int)<=((aL h).length:Int))
         (Jd ((rH h a).flatten.length<=1000000)
          (I1 h (yW h (Aw.f (rH h a,())).1) t ((aL h).getD a.toNat az.dflt).2.1)))))))))))
def qo3:af prog 62 (bg [.d aC,.d zll] [i64,i64] I0):=
 aS X3 f62
def qd(h:aC.den)(a:Nat):aC.den:=yW h ((aL h).take a++(aL h).drop (a+1))
def uv(h:aC.den)(t:zll.den)(a:Int):Int×Int:=
 if (bZ h a).2.2.1=3/\(bZ h a).2.2.2.2.2.1=1 then
  (if (c9 (qd h a.toNat) t).2=0 then
   (if (fe (c9 (qd h a.toNat) t).1 ((bZ h a).2.1,h.2.2.1.1.2.1,())).2=0 then bpF (fe (c9 (qd h a.toNat) t).1 ((bZ h a).2.1,h.2.2.1.1.2.1,())).1 1000
    else (0,(fe (c9 (qd h a.toNat) t).1 ((bZ h a).2.1,h.2.2.1.1.2.1,())).2))
   else (0,(c9 (qd h a.toNat) t).2))
 else (0,0)
def fV(h:aC.den)(t:zll.den):Int×Int:=
 if (c9 h t).2=0 then (match mr h with|none=>(0,0)|some a=>uv h t a)else (0,(c9 h t).2)
def ow:Ct:=⟨[.d aC,.d zll],[i64,i64],λx=>((fV x.1 x.2.1).1,(fV x.1 x.2.1).2,()),λx=>[bL x.1,bJ x.2.1]⟩
def Wi(h:aC.den)(l:List Int):(k:Nat)->k<=l.length->∀ v,gM h l k=U v->v∈l/\kM (bZ h v)=Z
 |0,_,_,a=>by cases a
 |k+1,c,v,a=>by
  unfold gM at a;split at a;rename_i b;cases a;refine⟨?_,b⟩;have:l.getD k 0=l[k]:=by rw[uah,uaq (by omega)];rfl
  rw[this];exact udi _;exact Wi h l k (by omega) v a
def zcc{h:aC.den}(d:mr h=U a):(0<=a/\a<((aL h).length:Int))/\kM (bZ h a)=true:=by
 obtain⟨b,c⟩:=Wi h (bE h) _ (ue9 _) a d;exact⟨CR b,c⟩
def qwc{h:aC.den}{a:Nat}(b:a<(aL h).length)(c:(aL h).length<=1000000):I6.wrap ((a:Int)+1)=((a+1:Nat):Int)/\(rH h a).flatten=(aL h).take a++(aL h).drop (a+1):=by
 have w:I6.wrap ((a:Int)+1)=((a+1:Nat):Int):=by rw[cz (by omega)];omega
 refine⟨w,?_⟩;unfold rH;rw[w,uer,uc0,uc0,show(((aL h).length:Int)-((a+1:Nat):Int)).toNat=(aL h).length-(a+1) by omega];have e:List.take ((aL h).length-(a+1)) (List.drop (a+1) (aL h))=List.drop (a+1) (aL h):=ua3 (by rw[uc6];exact ue9 _);rw[e];simp
def zdb{h:aC.den}(d:bL h)(a:Nat):bL (qd h a):=by
 have b:List.Sublist ((aL h).take a++(aL h).drop (a+1)) (aL h):=by
  conv=>rhs;rw[<- uba a (aL h)]
  refine List.Sublist.append (List.Sublist.refl _) ?_;rw[<- List.drop_drop];exact List.drop_sublist 1 _
 refine⟨ueo (List.Sublist.length_le b) d.1,d.2.1,λc e=>d.2.2 c (b.subset e)⟩
def NR{b:Bool}:(bif bif !b then Z else x != 3 then Z else y != 1)=Y↔b=Z/\x=3/\y=1:=by
 cases b with
 |false=>simp
 |true=>
  by_cases a:x=3;by_cases c:y=1;simp[a];simp[a];simp
def qo8{h x:aC.den}{t:zll.den}(d:bL x)(c:bJ t):(I1 h x t day).ok/\(I1 h x t day).get =
  (let r:Int×Int:=if (c9 x t).2=0 then (if (fe (c9 x t).1 (day,h.2.2.1.1.2.1,())).2=0 then bpF (fe (c9 x t).1 (day,h.2.2.1.1.2.1,())).1 1000 else (0,(fe (c9 x t).1 (day,h.2.2.1.1.2.1,())).2))else (0,(c9 x t).2)
   (r.1,r.2,())):=by
 refine aF d (aF c ?_);by_cases a:(c9 x t).2=0;refine aR (by show((c9 x t).2 != 0)=Y;simp[a]) ?_;simp only[a];by_cases b:(fe (c9 x t).1 (day,h.2.2.1.1.2.1,())).2=0;refine aR (by show((fe (c9 x t).1 (day,h.2.2.1.1.2.1,())).2 != 0)=Y;simp[b]) ⟨uT,?_⟩;simp only[b];rfl;refine aZ (by show((fe (c9 x t).1 (day,h.2.2.1.1.2.1,())).2 != 0)=Z;simp[b]) ⟨uT,?_⟩;simp only[b];rfl;refine aZ (by show((c9 x t).2 != 0)=Z;simp[a]) ⟨uT,?_⟩;simp only[a];rfl
def qo0(h:aC.den)(t:zll.den)(o:bL h)(q:bJ t):(I0 (h,t,())).ok/\(I0 (h,t,())).get=((fV h t).1,(fV h t).2,()):=by
 have B:=o.1;refine aF o (aF q ?_);unfold fV;by_cases k:(c9 h t).2=0;refine aR (by show((c9 h t).2 != 0)=Y;simp[k]) (aF (show((aL h).length:Int)<=1000000 by omega) ?_);rw[ufv k];cases l:mr h with
 |none=>
  have m:(qA.f (h,())).2.1=false:=by show(mr h).isSome=Y;rw[l];rfl
  rw[m];exact aF (λd=>by cases d) (aF (λd=>by cases d) (aZ rfl ⟨uT,rfl⟩))
 |some a=>
  obtain⟨⟨i,j⟩,A⟩:=zcc l;have s:(qA.f (h,())).1=a:=by show(mr h).getD 0=a;rw[l];rfl
  have m:(qA.f (h,())).2.1=true:=by show(mr h).isSome=Z;rw[l];rfl
  rw[s,m];refine aF (λ_=>⟨i,j⟩) (aF (λ_=>⟨i,j⟩) ?_);show _/\_=((uv h t a).1,(uv h t a).2,());cases p:(bif bif !Z then Z else ((aL h).getD a.toNat az.dflt).2.2.1 != 3 then Z else ((aL h).getD a.toNat az.dflt).2.2.2.2.2.1 != 1)with
  |true=>
   refine aZ rfl ⟨uT,?_⟩;have v:¬ ((bZ h a).2.2.1=3/\(bZ h a).2.2.2.2.2.1=1):=λd=>by
    have b:(bif bif !Z then Z else (bZ h a).2.2.1 != 3 then Z else (bZ h a).2.2.2.2.2.1 != 1)=true:=p;rw[NR.2 ⟨rfl,d⟩]at b;cases b
   unfold uv;rw[ufw v];rfl
  |false=>
   obtain⟨_,y,z⟩:=NR.1 p;obtain⟨n,rfl⟩:∃ n:Nat,a=n:=⟨a.toNat,by omega⟩;obtain⟨w,c⟩:=qwc (h:=h) (a:=n) (by omega) (by omega);have g:=zdb o n;have e:((rH h n).flatten).length<=1000000:=by
    rw[c];have:(aL (qd h n)).length<=500000:=g.1;exact ueo this (by decide)
   have r:0<=I6.wrap ((n:Int)+1)/\I6.wrap ((n:Int)+1)<=((aL h).length:Int):=by rw[w];omega
   refine aR rfl (aF ⟨i,j⟩ (aF ⟨ufa _,i,uet j⟩ (aF ⟨r.1,r.2,ufa _⟩ (aF e ?_))));have x:yW h (Aw.f (rH h n,())).1=qd h n:=by
    show yW h (List.flatten (rH h n))=yW h _;rw[c]
   rw[x];have:=qo8 (h:=h) (day:=(bZ h n).2.1) g q;refine⟨this.1,this.2.trans ?_⟩;unfold uv;have u:(bZ h n).2.2.1=3/\(bZ h n).2.2.2.2.2.1=1:=⟨y,z⟩;rw[ufv u,uc0]
 refine aZ (by show((c9 h t).2 != 0)=Z;simp[k]) ⟨uT,?_⟩;rw[ufw k];rfl
def Sh:af prog 62 ow:=
 cQ qo3 _ _ (λw F x vs b a=>by
  obtain⟨h,t,_⟩:=x;exact qo0 h t a.1 a.2)
def Sg(h:aC.den)(t:zll.den):0<=(fV h t).1/\(fV h t).1<=4000000000000000000:=by
 have z:(0:Int)<=0/\(0:Int)<=4000000000000000000:=by decide
 unfold fV;split;split;exact z;unfold uv;split;split;split;exact PL _ _ _ (by decide);exact z;exact z;exact z;exact z
def ZO(l:List aB.den)(d:Int):0<=(dS l d).1/\(dS l d).1<=4000000000000000000:=by
 unfold dS;split;exact Ey;exact L9 _ _
def qvt{b:Int}:a>4000000000000000000-b↔4000000000000000000<a+b:=by omega
def Py(w k:Int):Int×Int:=if 4000000000000000000<w+k then (0,5)else (w+k,0)
def mN(h:aC.den)(t:zll.den):Int×Int:=
 if (fV h t).2=0 then (if (dS (c9 h t).1 292195).2=0 then Py (dS (c9 h t).1 292195).1 (fV h t).1 else (0,(dS (c9 h t).1 292195).2))else (0,(fV h t).2)
def A5:Ct:=⟨[.d aC,.d zll],[i64,i64],λx=>((mN x.1 x.2.1).1,(mN x.1 x.2.1).2,()),λx=>[bL x.1,bJ x.2.1]⟩
noncomputable def WY:Cx:=cx [(62,ow),(60,fN),(72,AH)] []
def WZ:CxOK prog WY:=aP aG ⟨Sh,CN,ZP,uT⟩ trivial
def Iy(h:aC.den)(t:zll.den)(a:Bool):Fr (aa [i64,i64]):=
 let K:aa [i64,i64]:=ow.f (h,t,());let W:aa [i64,i64]:=AH.f ((fN.f (h,t,())).1,())
 Jd (bL h) (Jd (bJ t) (Jb (K.2.1 != 0) (Jv (0,K.2.1,()))
  (Jd (bL h) (Jd (bJ t) (Jb (W.2.1 != 0) (Jv (0,W.2.1,()))
   (Jb a (Jv (0,5,())) (Jv (I6.wrap (W.1+K.1),0,()))))))))
def qk6(x:ag [.d aC,.d zll]):Fr (aa [i64,i64]):=
 let a:=(x.1,x.2.1,());Iy x.1 x.2.1 (J ((AH.f ((fN.f a).1,())).1>I6.wrap (4000000000000000000-(ow.f a).1)))
def qgb:af prog 47 (bg [.d aC,.d zll] [i64,i64] qk6):=
 aS WZ f47
def qga{h:aC.den}{t:zll.den}{a:Bool}(e:bL h)(g:bJ t)(f:a=J (4000000000000000000<(dS (c9 h t).1 292195).1+(fV h t).1)):
  (Iy h t a).ok/\(Iy h t a).get=((mN h t).1,(mN h t).2,()):=by
 have k:=Sg h t;have u:=ZO (c9 h t).1 292195;refine aF e (aF g ?_);unfold mN;by_cases b:(fV h t).2=0;rw[ufv b];refine aR (by show((fV h t).2 != 0)=Y;simp[b]) (aF e (aF g ?_));by_cases c:(dS (c9 h t).1 292195).2=0;rw[ufv c];refine aR (by show((dS (c9 h t).1 292195).2 != 0)=Y;simp[c]) ?_;unfold Py;by_cases d:4000000000000000000<(dS (c9 h t).1 292195).1+(fV h t).1;rw[ufv d];exact aZ (f.trans (uea d)) ⟨uT,rfl⟩;rw[ufw d];refine aR (f.trans (udv d)) ⟨uT,?_⟩;show(I6.wrap ((dS (c9 h t).1 292195).1+(fV h t).1),(0:Int),())=_;rw[cz (by omega)];rw[ufw c];exact aZ (by show((dS (c9 h t).1 292195).2 != 0)=Z;simp[c]) ⟨uT,rfl⟩;rw[ufw b];exact aZ (by show((fV h t).2 != 0)=Z;simp[b]) ⟨uT,rfl⟩
def Pz:af prog 47 A5:=
 cQ qgb _ _ (λw F x vs b a=>by
  obtain⟨h,t,_⟩:=x;have k:=Sg h t;refine qga a.1 a.2 ?_;show J ((dS (c9 h t).1 292195).1>I6.wrap (4000000000000000000-(fV h t).1))=_;rw[cz (by omega)];exact udh.2 qvt)
def qac{h:aC.den}{c:az.den}(b:bL h)(g:(aL h).length<2000)(f:c.2.2.2.2.1.length<=1000000):bL (Fm h c):=by
 have e:aL (Fm h c)=([]++aL h)++[c]:=rfl;refine⟨?_,b.2.1,λd a=>?_⟩;rw[e,udm,ub6];show _+1<=500000;omega;rw[e,udm,uds]at a;rcases a with a|a
 exact b.2.2 d a;cases ucf.1 a;exact f
def Uq{h:aC.den}{c:az.den}(d:bL h):bL (py h c).1:=by
 have z:bL fF:=⟨by decide,by decide,λc b=>by cases b⟩;unfold py;split;rename_i a;split;exact z;split;exact z;exact qac d (by omega) (OE a.1);exact z
section
attribute [local go_sem] Oper.semAt_some
structure ChC where
 p:Nat->Int
 A:Option Addr
 l:Nat
 c:Nat
def de(d:ChC):Array Value:=#[.int .i64 (d.p 0),.int .i64 (d.p 1),.int .i64 (d.p 2),.int .i64 (d.p 3),.int .i64 (d.p 4),.int .i64 (d.p 5),.int .i64 (d.p 6),.slice d.A d.l d.c,.int .i64 (d.p 7)]
def o5(d:ChC):Value:=.agg (de d)
abbrev cG:Type:=Option Addr×Nat×Nat
def ChC.set(d:ChC)(s:cG):ChC:=⟨d.p,s.1,s.2.1,s.2.2⟩
def qdf{x:az.den}(h:aA w F az x g):
  ∃ d:ChC,(∀ j u,(de d)[j]?= U u->g j u)/\d.p 0=x.1/\aA w F (.sl ak) x.2.2.2.2.1 (λ_ u=>u=.slice d.A d.l d.c) /\
   ∀ (s:cG) (y:World) (F2:Nat->Prop),aA y F2 (.sl ak) x.2.2.2.2.1 (λ_ u=>u=.slice s.1 s.2.1 s.2.2)->bu y F2 az x (o5 (d.set s)):=by
 obtain⟨k,m,n,⟨b0,b1,f,i,_⟩,⟨A,c,t,b⟩,o,_⟩:=h;refine⟨⟨λj=>match j with|0=>x.1|1=>x.2.1|2=>x.2.2.1|3=>x.2.2.2.1.1|4=>x.2.2.2.1.2.1|5=>x.2.2.2.1.2.2.1|6=>x.2.2.2.1.2.2.2.1|_=>x.2.2.2.2.2.1,A,x.2.2.2.2.1.length,c⟩,λj u a=>?_,rfl,⟨A,c,rfl,b⟩,λs y F2 v=>⟨rfl,⟨λ_=>⟨_,rfl⟩,λ_=>rfl⟩,⟨rfl,k.2⟩,⟨rfl,m.2⟩,⟨rfl,n.2⟩,⟨⟨rfl,b0.2⟩,⟨rfl,b1.2⟩,⟨rfl,f.2⟩,⟨rfl,i.2⟩,uT⟩,?_,⟨rfl,o.2⟩,uT⟩⟩
 rotate_left
 obtain⟨q,r,e,h⟩:=v;refine⟨q,r,?_,h⟩;show U (Value.slice s.1 s.2.1 s.2.2)=_;rw[e]
 match j,a with
 |0,a=>cases a;exact k.1
 |1,a=>cases a;exact m.1
 |2,a=>cases a;exact n.1
 |3,a=>cases a;exact b0.1
 |4,a=>cases a;exact b1.1
 |5,a=>cases a;exact f.1
 |6,a=>cases a;exact i.1
 |7,a=>cases a;exact t
 |8,a=>cases a;exact o.1
 |j+9,a=>simp[de]at a
def jB(c:Nat->ChC)(day:Int)(k:Nat):List Nat:=(List.range k).filter λi=>J ((c i).p 0<=day)
def qea{c:Nat->ChC}{k:Nat}(h:(c k).p 0<=day):jB c day (k+1)=jB c day k++[k]:=by simp[jB,ud1,ucj,h]
def qd9{c:Nat->ChC}{k:Nat}(h:¬ (c k).p 0<=day):jB c day (k+1)=jB c day k:=by simp[jB,ud1,ucj];omega
def qd8(c:Nat->ChC)(day:Int)(k:Nat):(jB c day k).length<=k:=by
 have:=List.length_filter_le (λi=>J ((c i).p 0<=day)) (List.range k);rw[List.length_range]at this;exact this
def mH(c:Nat->ChC)(x:Fin len×cG):Value:=o5 ((c x.1.1).set x.2)
def zcs (n:Nat) (hn:1<=n) (l C oh B od d b off len Q:Nat) (day:Int) (c:Nat->ChC) (O:len<=1000000) (A:Option Addr) (hA:0<len->A=U ⟨b,off,V⟩/\b<d) (E:Fin len×cG->World->World->Prop) (J:List (Fin len×cG)->World->Prop)
  (hJ:∀ a X Y,J a X->Below X.heap.size X Y->J a Y)
  (W:World) (m:d<=W.heap.size)
  (w:∀ (k:Fin len) X,cw d C B W X->Calls prog 71 #[.slice (c k.1).A (c k.1).l (c k.1).c] X λe w'=>∃ s:cG,e=.returned (.slice s.1 s.2.1 s.2.2)/\Below X.heap.size X w' /\
   ∀ (P:Nat) (X0 Y:World),d<=P->P<X.heap.size->X0.heap.size<=X.heap.size->(∀ q,q≠P->Y.heap[q]?= w'.heap[q]?)->E (k,s) X0 Y)
  (hY:∀ a (x:Fin len×cG) X0 X,J a X0->Below X0.heap.size X0 X->E x X0 X->a.length<len->YieldAt Fence.wide (n-1) prog l #[mH c x] X λe W'=>e=.returned (.bool Z)/\J (a++[x]) W'/\cw d C B X W')
  (R:W.cell? ⟨C,oh+9,V⟩=U (.slice A len Q)) (G:W.cell? ⟨B,od,V⟩=U (.int .i64 day))
  (hc:∀ k j u,k<len->(de (c k))[j]?= U u->W.cell? ⟨b,off+(k*9+j),V⟩=U u) (h0:J [] W) :
  CallsIn Fence.wide n prog 227 #[.func (.yield l) #[] #[],.pointer (U ⟨C,oh,V⟩),.pointer (U ⟨B,od,V⟩)] W λe W'=>(∃ v,e=.returned v) /\
   ∃ xs:List (Fin len×cG),xs.map (λx=>x.1.1)=jB c day len/\J xs W':=by
 have hro:Fence.wide.round=none:=rfl;refine callsIn_of_wp func227 rfl trivial ?_ hro;simp only[ntmps227,ucq,uc9,udl,Nat.reduceAdd,Nat.reduceSub,ubn,ubo,ucy,ubx,udm,uc4];have hl1:C<W.heap.size:=by
  obtain⟨_,_,_,h⟩:=GU R;exact(uaf.1 h).1
 have hl2:B<W.heap.size:=by
  obtain⟨_,_,_,h⟩:=GU G;exact(uaf.1 h).1
 gi_wp2
 gi_loopw [9] (λi wr=>∃ (k:Nat) (a:List (Fin len×cG)),k<=len/\i=.int .i64 (k:Int)/\a.map (λx=>x.1.1)=jB c day k/\J a wr/\cw d C B W wr)
  (λi _=>((len:Int)-intOf i).toNat)
 case atStart=>exact⟨0,[],uff _,by simp,rfl,h0,cw.refl _ _ _ _⟩
 case round=>
  obtain⟨k,a,hk,rfl,o,F,g⟩:=hrel;have e0:=(ubd g.2.2).trans G;by_cases y:k<len
  ·obtain⟨rfl,hb⟩:=hA (by omega);have L:a.length<len:=by
    have:=uft List.length o;have h2:=qd8 c day k;rw[ud2]at this;omega
   have f:∀ j u,(de (c k))[j]?= U u->wr.cell? ⟨b,off+k*9+j,V⟩=U u:=λj u hj=>by
    rw[ueh];exact(g.1.cell hb).trans (hc _ j u y hj)
   have x0:=f 0 (.int .i64 ((c k).p 0)) rfl;have x1:=f 1 (.int .i64 ((c k).p 1)) rfl;have x2:=f 2 (.int .i64 ((c k).p 2)) rfl;have x3:=f 3 (.int .i64 ((c k).p 3)) rfl;have x4:=f 4 (.int .i64 ((c k).p 4)) rfl;have x5:=f 5 (.int .i64 ((c k).p 5)) rfl;have x6:=f 6 (.int .i64 ((c k).p 6)) rfl;have x7:=f 7 (.slice (c k).A (c k).l (c k).c) rfl;have x8:=f 8 (.int .i64 ((c k).p 7)) rfl;rw[uey]at x0;have t:=ucb hl2 g.1.size;have z:=ucb hl1 g.1.size;have D:Below wr.heap.size wr (wr.alloc (.cells (de (c k)) 38)):=(ufi _ wr).alloc (ue9 _) _;have e1:=(D.cell t).trans e0;have hKb:cw d C B W (wr.alloc (.cells (de (c k)) 38)):=g.trans (cw.below D (ueo m g.1.size) z t);have HK:=Lib.hid hKb;have HB:=Lib.hid D
   gi_wp2
   have hno':day<(c k).p 0:=by assumption
   have hno:¬ (c k).p 0<=day:=by omega
   exact⟨⟨k+1,a,by omega,by simp,by rw[qd9 hno,o],hJ _ _ _ F HB.out,HK.out⟩,by simp[intOf];omega⟩
   ·have M:(c k).p 0<=day:=by assumption
    refine⟨uT,?_⟩;refine(callsIn_wide.2 (w ⟨k,y⟩ _ HK.out)).mono ?_;rintro e w1 ⟨s,rfl,K,hE⟩;have r:wr.heap.size<(wr.alloc (.cells (de (c k)) 38)).heap.size:=by simp
    have z4:=(K.block wr.heap.size r).trans (World.alloc_heap_new wr (.cells (de (c k)) 38));unfold de at z4;obtain⟨u0,u1,u2,u3,u4,u5,u6,u7,u8⟩:=zj4 λj _=>aO z4 j;have ff:∀ j,w1.frozen? ⟨wr.heap.size,j,V⟩=false:=λj=>by simp[World.frozen?,z4]
    have H:Below wr.heap.size wr (w1.setCell ⟨wr.heap.size,7,V⟩ (.slice s.1 s.2.1 s.2.2)):=(HB.out.trans (K.mono (ue5 r))).setCell (ue9 _) _;have hk3:=cw.below H (ueo m g.1.size) z t;have S:=hE wr.heap.size wr (w1.setCell ⟨wr.heap.size,7,V⟩ (.slice s.1 s.2.1 s.2.2)) (ueo m g.1.size) r (ue5 r) (λq hq=>uck _ _ q _ hq);obtain⟨fn,tmps,N,body,hy,hR⟩:=hY a (⟨k,y⟩,s) wr _ F H S L;dsimp only[mH,o5,de,ChC.set]at hy
    gi_wp2
    refine hR.mono ?_;rintro e W4 ⟨rfl,T,hk4⟩
    gi_wp2
    go_roundw
    case rel=>exact⟨k+1,a++[(⟨k,y⟩,s)],by omega,by simp,by rw[qea M,udw,o];rfl,T,g.trans (hk3.trans hk4)⟩
    case measure=>simp[intOf];omega
  ·obtain rfl:k=len:=by omega
   gi_wp2
   go_end0
   exact⟨⟨_,rfl⟩,_,o,F⟩
end
section
open Go.Maps
attribute [local go_sem] Oper.semAt_some
def jA(c:Nat->ChC):List (Fin len×cG)->List Value
 |[]=>[]
 |x::l=>(de ((c x.1.1).set x.2)).toList++jA c l
def GX(c:Nat->ChC):(a b:List (Fin len×cG))->jA c (a++b)=jA c a++jA c b
 |[],_=>rfl
 |x::a,b=>by simp[jA,GX c a b]
def OH(c:Nat->ChC):(a:List (Fin len×cG))->(jA c a).length=a.length*9
 |[]=>rfl
 |x::a=>by simp[jA,de,OH c a];omega
def w8(c:Nat->ChC)(F:Nat->Prop)(y:Nat->az.den)(x:Fin len×cG)(X a:World):Prop:=
 ∃ F',bu a F' az (y x.1.1) (mH c x)/\∀ q,F' q->(F q\/X.heap.size<=q)/\∃ arr ty p,a.heap[q]?= U (.cells arr ty p)
def Fa(w:World)(c:Nat->ChC)(F:Nat->Prop)(y:Nat->az.den)(a b:List (Fin len×cG))(W:World)(v:Value)(F':Nat->Prop):Prop:=
 W.heap[w.heap.size]?= U (.cells #[v] 112 (0,0))/\W.ownsRow w.heap.size 38 9 v b.length (jA c b)/\bU W F' az (a.map λx=>y x.1.1) (jA c a) /\
  ∀ q,F' q->(F q\/w.heap.size<=q)/\v.ownBlock≠U q/\q≠w.heap.size/\∃ arr ty p,W.heap[q]?= U (.cells arr ty p)
structure CoI (w:World) (c:Nat->ChC) (F:Nat->Prop) (y:Nat->az.den) (els pre:List (Fin len×cG)) (W:World):Prop where
 row:∃ v F',Fa w c F y els pre W v F'
 bel:Below w.heap.size w W
def uU{a:Nat}{size:Nat}{k:Nat}(h:W.ownsRow a e size v k xs)(c:v.ownBlock=U j):a<=j/\∃ cur,W.heap[j]?= U (.cells cur e (0,0)):=by
 rcases h.2 with ⟨rfl,_⟩|⟨g,d,cur,rfl,f,b,_⟩
 simp[Value.ownBlock]at c;have:g=j:=by simpa[Value.ownBlock]using c
 subst this;exact⟨f,_,b⟩
def TO{a:Nat}{size:Nat}{k:Nat}(h:W.ownsRow a e size v k xs){o:Obj}(f:W.heap[j]?= U o)(b:∀ cur,o ≠ .cells cur e (0,0)):v.ownBlock=V\/v.ownBlock≠U j:=by
 by_cases d:v.ownBlock=U j;obtain⟨_,cur,c⟩:=uU h d;rw[f]at c;cases c;exact absurd rfl (b cur);exact .inr d
def qd4{c:Nat->ChC}{y:Nat->az.den}{g j:List (Fin len×cG)}{row:Option Nat}(h:Fa w c F y g j W v F')(t:W.grownBy W' row)(u:∀ r,row=U r->∃ o:Obj,W.heap[r]?= U o/\o.isCells=Y):Fa w c F y g j W' v F':=by
 obtain⟨m,n,B,s⟩:=h;have a:∀ q arr ty p,W.heap[q]?= U (Obj.cells arr ty p)->W'.heap[q]?= W.heap[q]? := λq arr ty p f=>t.block q (uaf.1 f).1 (λe=>by
  obtain⟨o,k,d⟩:=u q e.symm;rw[f]at k;cases k;cases d)
 refine⟨(a _ _ _ _ m).trans m,n.kept t ?_,B.mono (λ_ h=>h) (λq f=>?_),λq f=>?_⟩;by_cases l:v.ownBlock=row;cases b:row with
 |none=>exact .inl (l.trans b)
 |some r=>
  obtain⟨o,k,d⟩:=u r b;obtain⟨_,cur,i⟩:=uU n (l.trans b);rw[k]at i;cases i;cases d
 exact .inr l;obtain⟨_,_,_,arr,ty,p,d⟩:=s q f;exact a _ _ _ _ d;obtain⟨x,z,A,arr,ty,p,d⟩:=s q f;exact⟨x,z,A,arr,ty,p,(a _ _ _ _ d).trans d⟩
def He{c:Nat->ChC}{y:Nat->az.den}(i:w.heap.size<=B)(a d:List (Fin len×cG)){X j:World}{row:Option Nat}(h:CoI w c F y a d X)(f:X.grownBy j row)(g:∀ r,row=U r->B<=r/\∃ o:Obj,X.heap[r]?= U o/\o.isCells=Y):CoI w c F y a d j:=by
 obtain⟨v,F',b⟩:=h.row;exact⟨⟨v,F',qd4 b f λr e=>(g r e).2⟩,h.bel.grown f h.bel.size (λk e=>ueo i (g k e).1)⟩
def qx3{x:az.den}{d:ChC}(h:bu W F az x (o5 d)):bU W F az [x] (de d).toList:=λi z a=>by
 cases i with
 |zero=>
  simp at a;subst a;refine h.2.2.mono (λ_ h=>h) (λ_ _=>rfl) λj u _ b=>?_;have:(de d)[j]?= U u:=b;simpa using this
 |succ i=>simp at a
def qd3{c:Nat->ChC}{y:Nat->az.den}{f:List (Fin len×cG)}{x:Fin len×cG}{X K:World}(h:CoI w c F y f f X)(i:Below X.heap.size X K)(t:∀ q,F q->q<w.heap.size)(B:w8 c F y x X K):CoI w c F y (f++[x]) f K:=by
 obtain⟨v,F',n,r,A,s⟩:=h.row;obtain⟨F2,G,l⟩:=B;have H:=(uaf.1 n).1;have b:∀ q o,X.heap[q]?= U o->K.heap[q]?= U o:=λq o d=>(i.block q (uaf.1 d).1).trans d;refine⟨⟨v,λq=>F' q\/F2 q,b _ _ n,r.kept (row:=V) ⟨i.os,i.tape,i.output,i.size,λk D _=>i.block k D⟩ ?_,?_,λq d=>?_⟩,h.bel.trans (i.mono (ue5 H))⟩;cases v.ownBlock with
 |none=>exact .inl rfl
 |some g=>exact .inr (by simp)
 rw[udw,GX];refine bU.append (A.mono (λ_ h=>.inl h) λq d=>?_) ?_ ?_;obtain⟨_,_,_,arr,ty,p,j⟩:=s q d;exact(b _ _ j).trans j.symm;rw[OH,ud2];rfl;have:=qx3 G;exact this.mono (λ_ h=>.inr h) (λ_ _=>rfl);rcases d with d|d
 obtain⟨a,u,z,arr,ty,p,j⟩:=s q d;exact⟨a,u,z,arr,ty,p,b _ _ j⟩;obtain⟨a,arr,ty,p,j⟩:=l q d;refine⟨a.elim .inl (λh=>.inr (by omega)),λe=>?_,λe=>?_,arr,ty,p,j⟩;obtain⟨C,cur,m⟩:=uU r e;have E:=(uaf.1 m).1;rcases a with a|a
 have:=t q a;omega;omega;rcases a with a|a
 have:=t q a;omega;omega
def MD(w:World)(c:Nat->ChC)(F:Nat->Prop)(y:Nat->az.den)(a:Fin len×cG->Nat->Act)(b:List (Fin len×cG))(x:Fin len×cG)(e:Act)(W:World):Prop:=
 CoI w c F y (b++[x]) b W/\∃ d,w.heap.size<d/\W.heap[d]?= U (.cells (de ((c x.1.1).set x.2)) 38 (0,0))/\e=a x d
def qd2{c:Nat->ChC}{y:Nat->az.den}{a:Fin len×cG->Nat->Act}(l:w.heap.size<=B)(b:List (Fin len×cG))(x:Fin len×cG)(g:Act):OwnFrom B (λ(_:Unit) W=>MD w c F y a b x g W):=λ_ X n row m d e=>by
 obtain⟨h,f,i,j,k⟩:=m;exact⟨He l _ _ h d e,f,i,qs j d e,k⟩
def qde:(prog.info? 38).map (λi=>(i.zero,i.size,i.bytes))=U (U (.agg #[.int .i64 0,.int .i64 0,.int .i64 0,.int .i64 0,.int .i64 0,.int .i64 0,.int .i64 0,.slice V 0 0,.int .i64 0]),9,88):=by kernel_rfl
def GV(h:W.heap[B]?= U (.cells #[v] t (0,0))):W.cell? ⟨B,0,V⟩=U v/\W.frozen? ⟨B,0,V⟩=false:=by
 constructor<;>simp[World.cell?,World.frozen?,h]
def qt6(W:World)(arr:Array Value)(t:TypeId)(j:Nat)(u:Value)(h:arr.toList[j]?= U u):(W.alloc (.cells arr t)).cell? ((⟨W.heap.size,0,V⟩:Addr).add j)=U u:=by
 have a:=aO (World.alloc_heap_new W (.cells arr t)) j;have b:(⟨W.heap.size,0,V⟩:Addr).add j=⟨W.heap.size,j,V⟩:=by unfold Addr.add;split<;>simp_all
 rw[b,a];simpa using h
def qm1{X f:World}{row:Option Nat}(c:X.grownBy f row)(h:∀ r,row=U r->∃ arr t p,X.heap[r]?= U (Obj.cells arr t p)):KeepsOthers X f:=
 ⟨c.size,λk o a d=>(c.block k (uaf.1 a).1 (λe=>by
  obtain⟨arr,t,p,b⟩:=h k e.symm;rw[a]at b;cases b;cases d)).trans a⟩
def pJ(a:Value)(h:W.heap[B]?= U (.cells #[v] t (0,0))):(W.setCell ⟨B,0,V⟩ a).heap[B]?= U (.cells #[a] t (0,0)):=uc1 W B 0 _ t a h
def qvy{b:Nat}{t:Ty}{l:List t.den}(h:W.ownsRow b e t.size v l.length xs)(r:bU W F t l xs):aA W (λq=>F q\/v.ownBlock=U q) (.sl t) l (λ_ u=>u=v):=by
 rcases h.2 with ⟨rfl,p⟩|⟨g,c,cur,rfl,y,d,k,m,w,n⟩
 exact⟨V,0,by rw[p],by omega,uff _,λi x f=>by have:=(uak.1 f).1;omega⟩;refine⟨U ⟨g,0,V⟩,c,rfl,k,m,λi x f=>⟨⟨g,0,V⟩,rfl,.inr rfl,(r i x f).mono (λ_ h=>.inl h) (λ_ _=>rfl) λj u _ s=>?_⟩⟩;have o:(⟨g,0,V⟩:Addr).add (i*t.size+j)=⟨g,i*t.size+j,V⟩:=by unfold Addr.add;split<;>simp_all
 rw[o,aO d];have a:=s;rw[<- n,ub2]at a;split at a;simpa using a;cases a
def qau(n : Nat)(hn : 2 <= n)(c : Nat -> ChC)(F : Nat -> Prop)(y : Nat -> az.den)(len : Nat)(hlen : len <= 1000000)(gf : Nat)(lb : Array Value)(eg : ∀ args w, (callFunc gf args).run prog w=.ok (.enter gf args) w)(w : World)(hF : ∀ q, F q -> q < w.heap.size)(S : List (Fin len × cG) -> Prop)(hseq : ∀ w0, Below w.heap.size w w0 -> Ac Fence.wide (n - 1) prog gf lb (λx : Fin len × cG => #[mH c x]) (w8 c F y) (Below w.heap.size) S len w0):
    CallsIn Fence.wide n prog 226 #[.slice none 0 0, .func (.func gf) #[] lb] w λe w' => ∃ v xs F', e=.returned v /\ S xs /\ Below w.heap.size w w' /\
      aA w' F' (.sl az) (xs.map λx => y x.1.1) (λ_ u => u = v) /\ ∀ q, F' q -> (F q \/ w.heap.size <= q) /\ q < w'.heap.size := by
  refine callsIn_of_wp_marks func226 rfl trivial ?_ rfl
  simp only[ntmps226, ucq, uc9, udl, Nat.reduceAdd, Nat.reduceSub, ubn, ubo, ucy, ubx, udm, uc4]
  gi_wp2
  have hbel : Below w.heap.size w (w.alloc (.cells #[.slice none 0 0] 112)) := (ufi _ w).alloc (ue9 _) _
  have hbx := World.alloc_heap_new w (.cells #[.slice none 0 0] 112)
  have hsz : (w.alloc (.cells #[.slice none 0 0] 112)).heap.size = w.heap.size + 1 := by simp
  obtain⟨W0, hW0⟩ : ∃ W0, w.alloc (.cells #[.slice none 0 0] 112) = W0 := ⟨_, rfl⟩
  rw[hW0]at hbel hbx hsz |-
  have hI0 : CoI w c F y ([] : List (Fin len × cG)) [] W0 := ⟨⟨_, λ_ => False, hbx, ⟨rfl, .inl ⟨rfl, rfl⟩⟩, λi z hz => by simp at hz, λq hq => hq.elim⟩, hbel⟩
  refine zdc rfl (by omega) rfl trivial eg (hseq W0 hbel)
    (λh k => h.trans k) (λW l o o' hl ho hoc => ⟨rfl, rfl, rfl, by simp, λk hk => World.putObj_heap_other (by omega)⟩) (λ_ => rfl)
    (λpre W => CoI w c F y pre pre W) (λpre X Y row h hg hr => He hbel.size _ _ h hg hr) hI0
    (λpre x a' W => MD w c F y (λx Bx => { tmps := #[.slice none 0 0, .func (.func gf) #[] lb, .pointer (some ⟨w.heap.size, 0, none⟩), undef, .slice none 0 0, .pointer (some ⟨Bx, 0, none⟩), .func (.func gf) #[] lb, mH c x, undef, undef, undef, undef, undef], defers := [] }) pre x a' W)
    (λpre x a' => qd2 hbel.size pre x a') ?assign ?body ?done
  case assign =>
    rintro l pre x X W K hi hb hE hK
    have hi2 := qd3 hi hb hF hE
    unfold mH o5 de
    gi_wp2
    obtain⟨v, F', r1, _⟩ := hi2.row
    have hlt := (uaf.1 r1).1
    exact hK _ _ ((KeepsOthers.alloc _ _).from _) ((ufi _ W).alloc (ue5 hlt) _)
      ⟨He hbel.size _ _ hi2 (ubv W _ none) (λr e => nomatch e), W.heap.size, hlt, World.alloc_heap_new W _, rfl⟩
  case body =>
    rintro l pre x a' W ⟨hi, Bx, hBx, bX, rfl⟩ hlt
    obtain⟨v, F', r1, r2, r3, r4⟩ := hi.row
    obtain⟨i0, hi0, hz0, hz1, hz2⟩ := ufm qde
    have bX' := bX
    unfold de at bX'
    obtain⟨y0, y1, y2, y3, y4, y5, y6, y7, y8⟩ := zj4 λj _ => aO bX' j
    obtain⟨hc1, hf1⟩ := GV r1
    have hlt0 := (uaf.1 r1).1
    have hnew := qt6 W (de ((c x.1.1).set x.2)) 38
    have HR := Lib.hid r3
    have HF := Lib.hid r4
    have hbelI := hi.bel
    have hv3f : ∀ (arr : Array Value) (w3 : World), (W.alloc (.cells arr 38)).grownBy w3 v.ownBlock -> w3.heap[w.heap.size]?= some (.cells #[v] 112 (0, 0)) := λarr w3 hg =>
      (hg.block _ (by simp;omega) (λe => (TO r2 r1 (λcur e => by cases e)).elim (λh => by rw[h]at e;cases e) (λh => h e.symm))).trans ((udb _ _ _ hlt0).trans r1)
    unfold de at hnew
    gi_wp2_with (first
      | (gi_at_builtin;refine wpListIn_append_own_at _ rfl _ _ 112 rfl w.heap.size 38 i0 _ 9 88 underlying112 hi0 hz0 hz1 hz2 rfl (by decide) _ _ _ rfl (r2.alloc _) ⟨W.heap.size, 0, none⟩ 1 1 _ rfl rfl hnew (by simp[Value.oneCell']) (by simp only[maxLen];omega) (by omega) (by simp;omega) ?_;intro v' w3 hown' hg3 hnil3 hat3
         have hv3 : w3.heap[w.heap.size]?= some (.cells #[v] 112 (0, 0)) := hv3f _ _ hg3
         obtain⟨hc3, hf3⟩ := GV hv3
         obtain⟨g', cap', cur', rfl, hbase', hgb', hr1, hr2, hr3, hr4⟩ : ∃ g' cap' cur', v'=.slice (some ⟨g', 0, none⟩) (pre.length + 1) cap' /\ w.heap.size <= g' /\ w3.heap[g']?= some (.cells cur' 38 (0, 0)) /\ pre.length + 1 <= cap' /\ cap' <= maxLen /\ cur'.size = cap' * 9 /\ cur'.toList.take ((pre.length + 1) * 9) = jA c pre ++ _ := by
           rcases hown'.2 with ⟨_, h0⟩ | h'
           · exact absurd h0 (by omega)
           · exact h'
         go_frame)
      | gi_in)
    have hownX := r2.alloc (.cells (de ((c x.1.1).set x.2)) 38)
    have hgX : (W.alloc (.cells (de ((c x.1.1).set x.2)) 38)).grownBy w3 v.ownBlock := hg3
    have hg4 := grownBy_setCell' w3 w.heap.size (.slice (some ⟨g', 0, none⟩) (pre.length + 1) cap')
    have hb3 := ((ufi _ W).alloc (ue5 hlt0) _).grown hgX (by simp;omega) (λk e => (uU hownX e).1)
    have hb4 := hb3.setCell (p := ⟨w.heap.size, 0, none⟩) (ue9 _) (.slice (some ⟨g', 0, none⟩) (pre.length + 1) cap')
    have hsame : ∀ q, F' q -> (w3.setCell ⟨w.heap.size, 0, none⟩ (.slice (some ⟨g', 0, none⟩) (pre.length + 1) cap')).heap[q]?= W.heap[q]? := λq hq => by
      obtain⟨_, a2, a3, arr, ty, p, hc⟩ := HF.out q hq
      have hq2 := (uaf.1 hc).1
      exact(uck _ _ q _ a3).trans ((hgX.block q (by simp;omega) (λe => a2 e.symm)).trans (udb _ _ _ hq2))
    refine⟨rfl, (((KeepsOthers.alloc W _).trans (qm1 hgX λr e => ?_)).trans (KeepsOthers.setCell w3 _ _)).from _, hb4, ⟨_, F', pJ _ hv3, ?_, HR.out.mono (λ_ h => h) hsame, λq hq => ?_⟩, hbelI.trans hb4⟩
    · obtain⟨_, cur, hc⟩ := uU hownX e
      exact⟨_, _, _, hc⟩
    · have h5 := hown'.kept hg4 (TO hown' hv3 (λcur e => by cases e))
      simpa[GX, jA, de]using h5
    · obtain⟨a1, a2, a3, arr, ty, p, hc⟩ := HF.out q hq
      refine⟨a1, λe => ?_, a3, arr, ty, p, (hsame q hq).trans hc⟩
      have hq2 := (uaf.1 hc).1
      rcases hat3 with h | h
      · exact a2 (h.symm.trans e)
      · rw[h]at e
        simp at e
        omega
  case done =>
    rintro D zs W hD hzs hi hK
    obtain⟨v, F', r1, r2, r3, r4⟩ := hi.row
    obtain⟨hc1, hf1⟩ := GV r1
    have HR := Lib.hid r3
    have HF := Lib.hid r4
    gi_wp2
    refine⟨by simp, .inl ⟨_, _, rfl, run_takeDeferred hK, ?_⟩⟩
    have hs : ∀ q arr ty p, W.heap[q]?= some (Obj.cells arr ty p) -> (W.putObj D (.deferred none)).heap[q]?= W.heap[q]? := λq arr ty p hq => World.putObj_heap_other (λe => by subst e;rw[hK]at hq;cases hq)
    have r2' : W.ownsRow w.heap.size 38 az.size v (zs.map λx => y x.1.1).length (jA c zs) := by rw[ud2];exact r2
    have hd := qvy r2' HR.out
    have hcl : ∀ q, (F' q \/ v.ownBlock = some q) -> (F q \/ w.heap.size <= q) /\ ∃ arr ty p, W.heap[q]?= some (Obj.cells arr ty p) := λq hq => by
      rcases hq with hq | hq
      · obtain⟨a1, _, _, a4⟩ := HF.out q hq
        exact⟨a1, a4⟩
      · obtain⟨b1, cur, b2⟩ := uU r2 hq
        exact⟨.inr b1, _, _, _, b2⟩
    refine⟨_, results_tmp rfl _ _ _, v, zs, _, rfl, hzs, ⟨hi.bel.os, hi.bel.tape, hi.bel.output, by simpa using hi.bel.size, λk hk => (World.putObj_heap_other (by have := hbel.size;omega)).trans (hi.bel.block k hk)⟩, aA.mono (λ_ h => h) (λq hq => ?_) (λ_ _ _ h => h) hd, λq hq => ?_⟩
    · obtain⟨_, arr, ty, p, hc⟩ := hcl q hq
      exact hs q arr ty p hc
    · obtain⟨a1, arr, ty, p, hc⟩ := hcl q hq
      have := (uaf.1 hc).1
      exact⟨a1, by simpa using this⟩
def qdv{l:List ak.den}(o:∀ b,F b->b<w.heap.size)(n:Below w.heap.size w W)(H:aA w F (.sl ak) l (λ_ u=>u=v))(D:l.length<=1000000):
  Calls prog 71 #[v] W λe w'=>∃ s:cG,e=.returned (.slice s.1 s.2.1 s.2.2)/\Below W.heap.size W w' /\
   ∃ F',aA w' F' (.sl ak) l (λ_ u=>u=.slice s.1 s.2.1 s.2.2)/\∀ q,F' q->(F q\/W.heap.size<=q)/\∃ arr ty p,w'.heap[q]?= U (.cells arr ty p):=by
 obtain⟨A,c,rfl,d,f,x⟩:=H;have E:bu w F (.sl ak) l (.slice A l.length c):=⟨rfl,⟨λh=>(by cases h),λ⟨cs,h⟩=>(by cases h)⟩,A,c,rfl,d,f,x⟩;have j:=E.mono (λ_ h=>h) (λb h=>n.block b (o b h));refine(Bc.2 W F (l,()) [.slice A l.length c] (λb h=>ucb (o b h) n.size) ⟨_,[],rfl,j,rfl⟩ D).mono ?_;rintro e w' ⟨u,F',rfl,a,K,d,f⟩;have g:=f;have i:=g.only (G:=λb=>F' b/\∃ arr ty p,w'.heap[b]?= U (.cells arr ty p)) (λb h C=>⟨h,C⟩) rfl;have y:aE prog w' (λb=>F' b/\∃ arr ty p,w'.heap[b]?= U (.cells arr ty p)) (λ_ _=>True) (dE (.sl ak) l) u:=fT i;have z:=y.2;obtain⟨k,m,t,B⟩:=z;subst t;exact⟨(k,l.length,m),rfl,a,(λb=>F' b/\∃ arr ty p,w'.heap[b]?= U (.cells arr ty p)),⟨k,m,rfl,B⟩,λq r=>⟨(d q r.1).1,r.2⟩⟩
def OI{l:List az.den}(h:aA w F (.sl az) l (λ_ u=>u=v)):
  ∃ (A:Option Addr) (f:Nat) (b off:Nat) (c:Nat->ChC),v=.slice A l.length f/\(0<l.length->A=U ⟨b,off,V⟩/\F b) /\
   (∀ k j u,k<l.length->(de (c k))[j]?= U u->w.cell? ⟨b,off+(k*9+j),V⟩=U u) /\
   ∀ k x,l[k]?= U x->(c k).p 0=x.1/\aA w F (.sl ak) x.2.2.2.2.1 (λ_ u=>u=.slice (c k).A (c k).l (c k).c) /\
    ∀ (s:cG) (R:World) (F2:Nat->Prop),aA R F2 (.sl ak) x.2.2.2.2.1 (λ_ u=>u=.slice s.1 s.2.1 s.2.2)->bu R F2 az x (o5 ((c k).set s)):=by
 obtain⟨A,f,B,P,Q,C⟩:=h;by_cases E:0<l.length;obtain⟨ad,D,H,K⟩:=C 0 l[0] (uaq E);have g:ad.spot=none:=by
  have a:w.cell? (ad.add (0*az.size+0))=U (.int .i64 l[0].1):=K.1.1;have M:ad.add (0*az.size+0)=ad:=by simp[Addr.add]
  rw[M]at a;unfold World.cell? at a;split at a;split at a;cases a;rename_i g;cases q:ad.spot with
  |none=>rfl
  |some _=>rw[q]at g;exact absurd rfl g
  cases a
 obtain⟨b,off,sp⟩:=ad;subst g;have m:∀ k,∃ d:ChC,∀ x,l[k]?= U x->(∀ j u,(de d)[j]?= U u->w.cell? ⟨b,off+(k*9+j),V⟩=U u)/\d.p 0=x.1/\aA w F (.sl ak) x.2.2.2.2.1 (λ_ u=>u=.slice d.A d.l d.c) /\
   ∀ (s:cG) (R:World) (F2:Nat->Prop),aA R F2 (.sl ak) x.2.2.2.2.1 (λ_ u=>u=.slice s.1 s.2.1 s.2.2)->bu R F2 az x (o5 (d.set s)):=by
  intro k;cases o:l[k]? with
  |none=>exact⟨⟨λ_=>0,V,0,0⟩,λx r=>by cases r⟩
  |some x=>
   obtain⟨G,i,_,N⟩:=C k x o;rw[D]at i;cases i;obtain⟨d,L,t⟩:=qdf N;refine⟨d,λy O=>?_⟩;cases O;refine⟨λj u z=>?_,t⟩;have:=L j u z;rw[show az.size=9 from rfl]at this;have e:(⟨b,off,V⟩:Addr).add (k*9+j)=⟨b,off+(k*9+j),V⟩:=by unfold Addr.add;split<;>simp_all
   rw[e]at this;exact this
 obtain⟨c,n⟩:=Classical.axiomOfChoice m;exact⟨A,f,b,off,c,B.symm,λ_=>⟨D,H⟩,λk j u o z=>(n k l[k] (uaq o)).1 j u z,λk x r=>(n k x r).2⟩;refine⟨A,f,0,0,λ_=>⟨λ_=>0,V,0,0⟩,B.symm,λh=>absurd h E,λk j u o=>absurd o (by omega),λk x r=>?_⟩;have:=(uak.1 r).1;omega
def qa(day:Int)(l:List az.den):List az.den:=l.filter λx=>J (x.1<=day)
def qeb{c:Nat->ChC}{l:List az.den}(d:∀ k x,l[k]?= U x->(c k).p 0=x.1):(jB c day l.length).map (λk=>l.getD k az.dflt)=qa day l:=by
 have f:l=(List.range l.length).map (λk=>l.getD k az.dflt):=by
  apply List.ext_getElem;simp;intro i b g;simp[uaq b]
 unfold qa
 conv=>rhs;rw[f]
 rw[List.filter_map];congr 1;apply List.filter_congr;intro k e;have a:=ud9.1 e;have b:=d k l[k] (uaq a);simp only[Function.comp_apply,uah,uaq a,udd];rw[b]
def qd7(n:Nat)(k:3<=n)(c:Nat->ChC)(F:Nat->Prop)(y:Nat->az.den)(len:Nat)(a:len<=1000000)(gf:Nat)(lb:Array Value)(d:∀ args w,(callFunc gf args).run prog w=.ok (.enter gf args) w)(w:World)(f:∀ q,F q->q<w.heap.size)(S:List (Fin len×cG)->Prop)(b:∀ w0,Below w.heap.size w w0->Ac Fence.wide (n-1-1) prog gf lb (λx:Fin len×cG=>#[mH c x]) (w8 c F y) (Below w.heap.size) S len w0):
  CallsIn Fence.wide n prog 206 #[.func (.func gf) #[] lb] w λe w'=>∃ v xs F',e=.returned v/\S xs/\Below w.heap.size w w' /\
   aA w' F' (.sl az) (xs.map λx=>y x.1.1) (λ_ u=>u=v)/\∀ q,F' q->(F q\/w.heap.size<=q)/\q<w'.heap.size:=by
 refine callsIn_of_wp func206 rfl trivial ?_ rfl;simp only[ntmps206,ucq,uc9,udl,Nat.reduceAdd,Nat.reduceSub,ubn,ubo,ucy,ubx,udm,uc4]
 gi_wp2
 refine⟨uT,λ_=>by omega,?_⟩;refine(qau (n-1) (by omega) c F y len a gf lb d w f S b).mono ?_;rintro e w' ⟨v,xs,F',rfl,g,h,j,i⟩
 gi_wp2
 go_ret
 exact⟨v,xs,F',rfl,g,h,j,i⟩
def zct (n:Nat) (hn:1<=n) (z:∀ q,F q->q<w.heap.size) {l:List az.den} {m oh i R:Nat} (y:m<w.heap.size) (t:i<w.heap.size) (hv:w.cell? ⟨m,oh+9,V⟩=U v) (C:w.cell? ⟨i,R,V⟩=U (.int .i64 day)) (hl:l.length<=1000000) (D:∀ x∈l,x.2.2.2.2.1.length<=1000000)
  {A:Option Addr} {r b off:Nat} {c:Nat->ChC} (e0:v=.slice A l.length r) (M:0<l.length->A=U ⟨b,off,V⟩/\F b) (hc:∀ k j u,k<l.length->(de (c k))[j]?= U u->w.cell? ⟨b,off+(k*9+j),V⟩=U u)
  (hx:∀ k x,l[k]?= U x->(c k).p 0=x.1/\aA w F (.sl ak) x.2.2.2.2.1 (λ_ u=>u=.slice (c k).A (c k).l (c k).c) /\
    ∀ (s:cG) (Y:World) (F2:Nat->Prop),aA Y F2 (.sl ak) x.2.2.2.2.1 (λ_ u=>u=.slice s.1 s.2.1 s.2.2)->bu Y F2 az x (o5 ((c k).set s)))
  (w0:World) (H:Below w.heap.size w w0) :
  Ac Fence.wide n prog 227 #[.pointer (U ⟨m,oh,V⟩),.pointer (U ⟨i,R,V⟩)] (λx:Fin l.length×cG=>#[mH c x]) (w8 c F λk=>l.getD k az.dflt) (Below w.heap.size) (λxs=>xs.map (λx=>x.1.1)=jB c day l.length) l.length w0:=by
 intro lp J W hW hJ hY h0;have a:=H.trans (hW.mono H.size);refine zcs n hn lp m oh i R w.heap.size b off l.length r day c hl A (λh=>⟨(M h).1,z b (M h).2⟩) (w8 c F λk=>l.getD k az.dflt) J (λK X Y E B=>Ah hJ E B) W a.size ?_ ?_
  ((ubd (a.block m y)).trans (hv.trans (by rw[e0]))) ((ubd (a.block i t)).trans C) (λk j u L E=>(ubd (a.block b (z _ (M (by omega)).2))).trans (hc k j u L E)) h0
 intro k X hX;have L:=uaq k.2;obtain⟨_,hr,G⟩:=hx k.1 _ L;refine(qdv z (a.trans hX.1) hr (D _ (udi k.2))).mono ?_;rintro e w' ⟨s,rfl,B,F',Q,hq⟩;refine⟨s,rfl,B,λBx X0 Y h1 h2 h3 T=>⟨F',?_,λq g=>?_⟩⟩;have hg:(l.getD k.1 az.dflt)=l[k.1]:=by rw[uah,L];rfl
 show bu Y F' az (l.getD k.1 az.dflt) (mH c (k,s));rw[hg];refine G s Y F' (aA.mono (λ_ h=>h) (λq g=>T q λe=>?_) (λ_ _ _ h=>h) Q);rcases(hq q g).1 with h|h
 have:=z q h;omega;omega;obtain⟨S,arr,ty,p,N⟩:=hq q g;refine⟨S.elim .inl λh=>.inr (ueo h3 h),arr,ty,p,(T q λe=>?_).trans N⟩;rcases S with h|h
 have:=z q h;omega;omega;intro K x X0 X E B hE P;obtain⟨fn,tmps,d,o,hy,hR⟩:=hY K x X0 X E B hE P;refine⟨fn,tmps,d,o,hy,hR.mono ?_⟩;rintro e W' ⟨rfl,O,f⟩;exact⟨rfl,O,f,f.block _ y,f.block _ t⟩
def qd6(o:∀ q,F q->q<w.heap.size){l:List az.den}{g f:Nat}(j:g<w.heap.size)(i:f<w.heap.size)(G:w.cell? ⟨g,9,V⟩=U v)(E:aA w F (.sl az) l (λ_ u=>u=v))(a:w.cell? ⟨f,0,V⟩=U (.int .i64 day))(p:l.length<=1000000)(d:∀ x∈l,x.2.2.2.2.1.length<=1000000):
  Calls prog 206 #[.func (.func 227) #[] #[.pointer (U ⟨g,0,V⟩),.pointer (U ⟨f,0,V⟩)]] w λe w'=>∃ u F',e=.returned u/\Below w.heap.size w w' /\
   aA w' F' (.sl az) (qa day l) (λ_ H=>H=u)/\∀ q,F' q->(F q\/w.heap.size<=q)/\q<w'.heap.size:=by
 obtain⟨A,s,b,off,c,t,y,C,r⟩:=OI E;refine(callsIn_wide.1 (qd7 4 (by omega) c F (λk=>l.getD k az.dflt) l.length p 227 _ (enters_of func227 (by kernel_rfl) rfl) w o (λxs=>xs.map (λx=>x.1.1)=jB c day l.length)
  (λw0 n=>zct 2 (by omega) o j i (oh:=0) G a p d t y C r w0 n))).mono ?_
 rintro e w' ⟨u,xs,F',rfl,z,B,m,D⟩;refine⟨u,F',rfl,B,?_,D⟩;have:(xs.map λx=>l.getD x.1.1 az.dflt)=qa day l:=by
  rw[<- qeb (c:=c) λk x h=>(r k x h).1,<- z,List.map_map];rfl
 rw[<- this];exact m
end
def PU(l:List az.den):Prop:=l.length<=1000000/\∀ x∈l,x.2.2.2.2.1.length<=1000000
def Hf(_:Nat)(g:FuncId)(args:List AV)(s:St):Option Tr:=
 if g=206 then match args with
  |[.c (.fn f [.ptr i 0,.ptr k 0])]=>match s.mem i,s.mem k with
   |some (.box _ [_,_,_,_,_,_,_,_,_,.sl t l]),U (.box _ [.int .i64 day])=>
    if h:t=az then if f=227 then U (needL [PU (cA h l)] (.leaf (.val (.c (.sl az (qa day (cA h l))))) s))else V else V
   |_,_=>V
  |_=>V
 else V
def qd5:gQ prog Hf:=by
 intro d g args s t o;unfold Hf at o;split at o<;>try trivial
 rename_i hg;subst hg;split at o<;>try trivial
 rename_i f i k;split at o<;>try trivial
 rename_i ty1 c0 c1 c2 c3 c4 c5 c6 c7 c8 t l ty2 day z B;split at o<;>try trivial
 rename_i h;subst h;split at o<;>try trivial
 rename_i hf;subst hf;cases o;refine⟨enters_of func206 (by kernel_rfl) rfl,λE a w F γ vs Q hi hr hq=>?_⟩;obtain⟨⟨R,S⟩,W⟩:=hq
 match vs,hr with
 |[v1],⟨⟨_,hv1⟩,_⟩=>
  obtain⟨arr,rfl,hsz,m⟩:=hv1;obtain⟨⟨u0,D,_,b1,L,rfl⟩,⟨u1,hu1,_,H,M,rfl⟩,_⟩:=m;have g1 : .pointer (U ⟨b1,0,V⟩)=γ i:=by
   have:=L;unfold ap at this;rw[z]at this;exact this
  have g2 : .pointer (U ⟨H,0,V⟩)=γ k:=by
   have:=M;unfold ap at this;rw[B]at this;exact this
  have ha:arr = #[.pointer (U ⟨b1,0,V⟩),.pointer (U ⟨H,0,V⟩)]:=by
   apply ufn;exact hsz;intro i h1 h2;have j:arr[1]?= U (.pointer (U ⟨H,0,V⟩)):=hu1
   match i,h2 with
   |0,_=>
    rw[uam h1]at D;exact ud3 D
   |1,_=>
    rw[uam h1]at j;exact ud3 j
  subst ha;obtain⟨d1,ar1,G,p,_,_,hs1,O⟩:=hi.mem.ob i _ z;obtain⟨d2,ar2,e2,r,_,_,hs2,v⟩:=hi.mem.ob k _ B;rw[<- g1]at G;rw[<- g2]at e2;cases G;cases e2;obtain⟨_,_,_,_,_,_,_,_,_,⟨x9,hx9,_,hr9⟩,_⟩:=O;obtain⟨⟨y0,hy0,_,P⟩,_⟩:=v;have x:y0=.int .i64 day:=P.1;subst x;refine(qd6 (dv hi) (uaf.1 p).1 (uaf.1 r).1 ((aO p 9).trans hx9) hr9 ((aO r 0).trans hy0) R S).mono λe w2 hp=>?_;obtain⟨u,F2,rfl,hb,C,T⟩:=hp;have K:=nM hi;obtain⟨s1,m1⟩:=Step.below hi.mem K (dv hi) (F':=λq=>F q\/F2 q) hb (λ_ h=>.inl h) (λb N=>N.elim (λh=>⟨.inl h,ucb (dv hi b h) hb.size⟩) (λh=>T b h));have y:InvG prog E s a w2 [] (λq=>F q\/F2 q) γ:=by
   refine⟨hi.n,hi.df,?_,m1,λt=>(hi.sl t).mono s1.hF s1.hw s1.hR,hi.hg,λt=>s1.repA (hi.gh t)⟩;obtain⟨γ0,h0⟩:=hi.step;exact⟨γ0,h0.trans s1⟩
  have hr3:aA w2 (λq=>F q\/F2 q) (.sl az) (qa day (cA rfl l)) (λ_ u'=>u'=u):=aA.mono (t:=.sl az) (λ_ h=>Or.inr h) (λ_ _=>rfl) (λ_ _ _ h=>h) C;refine⟨_,_,_,γ,W,y,u,rfl,?_,hr3⟩;obtain⟨A,c,G,_⟩:=C;rw[<- G];rfl
noncomputable def Fi:FuncId->Option (Func×(Nat->St->Option Tr)):=cu [(207,(f207,bw))]
def ZU:∀ f fn Λ,Fi f=U (fn,Λ)->prog.funcs[f]?= U fn/\∀ c a,fn.body=U c->bP prog a Λ c 0:=λf fn Λ h=>by
 simp only[Fi,cu]at h;split at h;rename_i b;subst b;cases h;exact⟨by kernel_rfl,λc a _=>aY c 0⟩;cases h
noncomputable def Xz:Cx:=cW [(71,mB ak)] [] (iS (fU prog dB Fi) Hf)
def X1:CxOK prog Xz:=cZ (ps:=[]) aG ⟨Bc,uT⟩ trivial (jN (gG aH ZU) qd5)
def Tf:aC.den:=(0,0,((0,0,()),(0,0,0,0,()),[],()),[],())
def iA(h:aC.den)(d:Int):aC.den×Int:=if d<h.2.1 then (Tf,7)else ((h.1,h.2.1,h.2.2.1,qa d h.2.2.2.1,()),0)
def qx:Ct:=⟨[.d aC,.d i64],[aC,i64],λx=>((iA x.1 x.2.1).1,(iA x.1 x.2.1).2,()),λx=>[bL x.1]⟩
def BU(x:ag [.d aC,.d i64]):Fr (aa [aC,i64]):=
 let h:aC.den:=x.1;let d:Int:=x.2.1
 Jb (J (h.2.1>d)) (Jv (Tf,7,()))
  (Jd (List.length (α:=ak.den) h.2.2.1.2.2.1<=1000000)
   (Jd (PU h.2.2.2.1)
    (Jv ((h.1,h.2.1,((h.2.2.1.1.1,h.2.2.1.1.2.1,()),(h.2.2.1.2.1.1,h.2.2.1.2.1.2.1,h.2.2.1.2.1.2.2.1,h.2.2.1.2.1.2.2.2.1,()),((mB ak).f (h.2.2.1.2.2.1,())).1,()),qa d h.2.2.2.1,()),0,()))))
def qop:af prog 179 (bg [.d aC,.d i64] [aC,i64] BU):=
 aS X1 f179 (fr:=BU) (ps:=[.d aC,.d i64]) (rs:=[aC,i64])
def qon(h:aC.den)(d:Int)(b:bL h):(BU (h,d,())).ok/\(BU (h,d,())).get=((iA h d).1,(iA h d).2,()):=by
 unfold iA;by_cases a:d<h.2.1;rw[ufv a];exact aZ (by simpa using a) ⟨uT,rfl⟩;rw[ufw a];exact aR (by simpa using a) (aF b.2.1 (aF ⟨ueo b.1 (by decide),b.2.2⟩ ⟨uT,rfl⟩))
def qoo:af prog 179 qx:=
 cQ qop _ _ (λw F x vs b a=>by
  obtain⟨h,d,_⟩:=x;exact qon h d a)
def qa0{h:aC.den}(b:bL h)(d:Int):bL (iA h d).1:=by
 unfold iA;split;exact⟨by decide,by decide,λc a=>by cases a⟩;refine⟨ueo (List.length_filter_le _ _) b.1,b.2.1,λc a=>b.2.2 c (List.mem_filter.1 a).1⟩
def gH(h:aC.den)(t:zll.den)(d:Int):List aB.den×Int:=if (iA h d).2=0 then c9 (iA h d).1 t else ([],(iA h d).2)
def ov:Ct:=⟨[.d aC,.d zll,.d i64],[zel,i64],λx=>((gH x.1 x.2.1 x.2.2.1).1,(gH x.1 x.2.1 x.2.2.1).2,()),λx=>[bL x.1,bJ x.2.1]⟩
noncomputable def X4:Cx:=cx [(179,qx),(60,fN)] []
def X5:CxOK prog X4:=aP (ps:=[]) aG ⟨qoo,CN,uT⟩ trivial
abbrev lQ:Pt:=⟨21,0,⟨[(10,.d i64),(9,.d i64),(8,.d (.sl ak)),(1,.d i64)],[.x 4 142 ak,.r 4 4 0]⟩,⟨[],[.x 4 142 ak,.r 4 4 0]⟩,⟨[(5,.d .bool)],[.x 4 142 ak,.r 4 4 0]⟩⟩
def PP(z:lQ.M.X):Fr lQ.Out:=
 let i:Int:=z.1.1;let n:Int:=z.1.2.1;let l:List ak.den:=z.1.2.2.1;let p:Int:=z.1.2.2.2.1;let o:ak.den:=z.2.1
 let e:ak.den:=l.getD i.toNat ak.dflt
 Jb (J (i<n))
  (Jd (0<=i/\i<(l.length:Int)) (Jb (e.1==p) (Jv (Rd.back ((Z,()),(e,())))) (Jv (Rd.next ((I6.wrap (i+1),n,l,p,()),(o,()))))))
  (Jv (Rd.out ((),(o,()))))
def qyx:ae prog (au f131 0) lQ.M lQ PP:=ae.of_run aH (bs:=0) rfl rfl rfl (λ_=>aY _ 0) (λx=>by kernel_rfl)
def jM:ak.den:=(0,0,0,0,0,())
def dZ(p:Int):List ak.den->ak.den×Bool
 |[]=>(jM,Y)
 |c::l=>if c.1=p then (c,Z)else dZ p l
def Qv{p:Int}:{l:List ak.den}->(dZ p l).2=Y->(dZ p l).1=jM
 |[],_=>rfl
 |c::l,h=>by
  unfold dZ at h |-;split at h;cases h;rename_i a;rw[ufw a];exact Qv h
structure InFi (i n:Int) (l:List ak.den):Prop where
 i0:0<=i
 il:i<=n
 nl:n=l.length
 big:n<=9223372036854775807
def TD(o:ak.den)(r:ak.den×Bool):Fr lQ.Out:=Jb r.2 (Jv (Rd.back ((Z,()),(r.1,())))) (Jv (Rd.out ((),(o,()))))
def MG(z:lQ.M.X):Fr lQ.Out:=Jd (InFi z.1.1 z.1.2.1 z.1.2.2.1) (TD z.2.1 (dZ z.1.2.2.2.1 (z.1.2.2.1.drop z.1.1.toNat)))
def qpq(i n:Int)(l:List ak.den)(p:Int)(o:ak.den)(d:InFi i n l)(Q:lQ.Out->Prop)(a:(TD o (dZ p (l.drop i.toNat))).satP Q):
  (PP ((i,n,l,p,()),(o,()))).satP λ
   |.next c=>InFi c.1.1 c.1.2.1 c.1.2.2.1/\((c.1.2.1:Int)-c.1.1).toNat<(n-i).toNat/\(MG c).satP Q
   |.out y=>Q (.out y)
   |.back z=>Q (.back z)
   |.pan p=>Q (.pan p):=by
 obtain⟨u,v,rfl,r⟩:=d;refine⟨λhi=>?_,λhi=>?_⟩;have g:i<(l.length:Int):=ucx hi;obtain⟨k,rfl⟩:∃ n:Nat,i=n:=⟨i.toNat,by omega⟩;have m:k<l.length:=by omega
 have j:(k:Int).toNat=k:=by omega
 have s:((k:Int)+1).toNat=k+1:=by omega
 rw[j]at a;have t:I6.wrap ((k:Int)+1)=k+1:=IntWalk.i64_in _ (by omega);have q:l.getD (k:Int).toNat ak.dflt=l[k]:=by
  rw[j,uah,uaq m];rfl
 rw[ual m]at a;rw[q,t];refine⟨⟨by omega,by omega⟩,λf=>?_,λf=>?_⟩;have b:=ufh.1 f;have e:dZ p (l[k]::l.drop (k+1))=(l[k],Z):=ufv b;rw[e]at a;exact a.1 rfl;have b:=ubw.1 f;have e:dZ p (l[k]::l.drop (k+1))=dZ p (l.drop (k+1)):=ufw b;rw[e]at a;have h:InFi ((k:Int)+1) (l.length:Int) l:=⟨by omega,by omega,rfl,r⟩;refine⟨h,by show((l.length:Int)-((k:Int)+1)).toNat<((l.length:Int)-(k:Int)).toNat;omega,h,?_⟩;exact a;have g:¬ i<(l.length:Int):=uch hi;have:l.drop i.toNat=[]:=ua2 (by omega);rw[this]at a;exact a.2 rfl
def qqx:ae prog (.loop (au f131 0)) lQ.M lQ MG:=by
 refine ae.loop qyx (μ:=λx=>((x.1.2.1:Int)-x.1.1).toNat) ?_ (λx Q h=>h.1);rintro⟨⟨i,n,l,p,_⟩,o,_⟩ a Q b;exact qpq i n l p o a Q b.2
def A6:Ct:=⟨[.d (.sl ak),.d i64],[ak,.bool],λx=>((dZ x.2.1 x.1).1,(dZ x.2.1 x.1).2,()),λ_=>[]⟩
def qk7(x:ag [.d (.sl ak),.d i64]):Fr (aa [ak,.bool]):=
 let l:List ak.den:=x.1;let p:Int:=x.2.1
 Jd (InFi 0 l.length l) (Jb (dZ p (l.drop (0:Int).toNat)).2 (Jv ((dZ p (l.drop (0:Int).toNat)).1,Z,())) (Jv (jM,Y,())))
def qku:af prog 131 A6:=
 cQ (cS aH qqx (fr:=qk7)) _ _
  (λw F x vs e _=>by
   obtain⟨l,p,_⟩:=x;obtain⟨g,f,rfl,b,_⟩:=e;have a:=mv b;have c:InFi 0 (l.length:Int) l:=⟨ufa _,ub4 _,rfl,a⟩;refine aF c ?_;show(Jb (dZ p l).2 (Jv ((dZ p l).1,Z,())) (Jv (jM,Y,())):Fr (aa [ak,.bool])).ok/\(Jb (dZ p l).2 (Jv ((dZ p l).1,Z,())) (Jv (jM,Y,())):Fr (aa [ak,.bool])).get=((dZ p l).1,(dZ p l).2,());cases d:(dZ p l).2 with
   |true=>exact aZ rfl ⟨uT,rfl⟩
   |false=>
    rw[Qv d];exact aR rfl ⟨uT,rfl⟩)
def wY:Pc:=⟨[.d .bool,.d i64],[],λ_=>(),λx=>!x.1,λx=>⟨262+1000000,.i64,x.2.1⟩,λ_=>[]⟩
def zcl:jz prog 127 wY:=by
 refine⟨enters (fn:=f127) (by kernel_rfl) rfl rfl,λw F xs vs g j _=>?_⟩;obtain⟨v,l,rfl,k,e,f,rfl,d,i⟩:=j;cases i;obtain⟨s,n,_⟩:=xs;have c:v=.bool s:=by
  have h:aE prog w F (λ_ _=>True) (dE .bool s) v:=fT k;exact h.2
 have a:e=.int .i64 n:=by
  have h:aE prog w F (λ_ _=>True) (dE i64 n) e:=fT d;exact h.2.1
 subst c;subst a;cases s
 ·go_enter func127,ntmps127
  go_wp2
  refine⟨rfl,.inr ⟨rfl,?_,ufi _ _⟩⟩;show Ending.panicked _=Ending.panicked [{ v:=PV.val ⟨262+1000000,.i64,n⟩,recovered:=Y }];rw[WF (p:=⟨262+1000000,.i64,n⟩) (T:=262) rfl]
 ·go_enter func127,ntmps127
  go_wp2
  go_end0
  refine .inl ⟨rfl,.tuple #[],F,rfl,ufi _ _,λ_ h=>h,λb h=>⟨.inl h,g b h⟩,#[],rfl,rfl⟩
def qkw{b1 f:Nat}{m z:TypeId}{A p o l h c d e g k n:Value}(j:b1≠f)(G:w.heap[b1]?= U (.cells #[A,p,o,l,h] m (0,0)))(H:w.heap[f]?= U (.cells #[c] z (0,0))):
  Aa (((((((w.setCell ⟨b1,0,V⟩ d).setCell ⟨b1,1,V⟩ e).setCell ⟨b1,2,V⟩ g).setCell ⟨b1,3,V⟩ k).setCell ⟨b1,4,V⟩ n).setCell ⟨f,0,V⟩ u).drew) ((w.setRow b1 #[d,e,g,k,n]).setRow f #[u]):=by
 have q:∀ X:World,X.drew.os=X.os/\X.drew.tape=X.tape/\X.drew.output=X.output/\X.drew.heap=X.heap:=λ_=>⟨rfl,rfl,rfl,rfl⟩;have r:∀ (X:World) (a:Addr) (v:Value),(X.setCell a v).os=X.os/\(X.setCell a v).tape=X.tape/\(X.setCell a v).output=X.output:=λ_ _ _=>⟨rfl,rfl,rfl⟩;have s:∀ (X:World) (b:Nat) (v:Array Value),(X.setRow b v).os=X.os/\(X.setRow b v).tape=X.tape/\(X.setRow b v).output=X.output:=λ_ _ _=>⟨rfl,rfl,rfl⟩;unfold Aa;simp only[(q _).1,(q _).2.1,(q _).2.2.1,(r _ _ _).1,(r _ _ _).2.1,(r _ _ _).2.2,(s _ _ _).1,(s _ _ _).2.1,(s _ _ _).2.2,ufr,and_true];have B:=uc1 w b1 0 _ m d G;rw[show(#[A,p,o,l,h]:Array Value).setIfInBounds 0 d = #[d,p,o,l,h] from rfl]at B;have C:=uc1 _ b1 1 _ m e B;rw[show(#[d,p,o,l,h]:Array Value).setIfInBounds 1 e = #[d,e,o,l,h] from rfl]at C;have D:=uc1 _ b1 2 _ m g C;rw[show(#[d,e,o,l,h]:Array Value).setIfInBounds 2 g = #[d,e,g,l,h] from rfl]at D;have E:=uc1 _ b1 3 _ m k D;rw[show(#[d,e,g,l,h]:Array Value).setIfInBounds 3 k = #[d,e,g,k,h] from rfl]at E;have F:=uc1 _ b1 4 _ m n E;have y:∀ i,i≠b1->(((((w.setCell ⟨b1,0,V⟩ d).setCell ⟨b1,1,V⟩ e).setCell ⟨b1,2,V⟩ g).setCell ⟨b1,3,V⟩ k).setCell ⟨b1,4,V⟩ n).heap[i]?= w.heap[i]? := λi hi=>
  (uck _ _ i _ hi).trans ((uck _ _ i _ hi).trans ((uck _ _ i _ hi).trans ((uck _ _ i _ hi).trans (uck _ _ i _ hi))))
 generalize ((((w.setCell ⟨b1,0,V⟩ d).setCell ⟨b1,1,V⟩ e).setCell ⟨b1,2,V⟩ g).setCell ⟨b1,3,V⟩ k).setCell ⟨b1,4,V⟩ n=X at F y;have K:=uc1 X f 0 _ z u ((y f (Ne.symm j)).trans H);have L:=ufc w b1 _ #[d,e,g,k,n] m (0,0) G;have M:=ufc (w.setRow b1 #[d,e,g,k,n]) f _ #[u] z (0,0) ((uez w b1 f _ (Ne.symm j)).trans H);apply uci;intro i;by_cases t:i=b1;subst t;exact((uck _ _ i _ j).trans F).trans ((uez _ f i _ j).trans L).symm;by_cases x:i=f;subst x;exact K.trans M.symm;exact((uck _ _ i _ x).trans (y i t)).trans ((uez _ f i _ x).trans (uez _ b1 i _ t)).symm
def zb0:ToldTwo prog 126 262 .i64 5:=by
 refine⟨enters (fn:=f126) (by kernel_rfl) rfl rfl,λp q w=>?_,λb1 r F G o1 E n w d b e c f=>?_⟩
 ·refine callsD_of_wpS func126 rfl λa cs g=>?_;simp only[ntmps126,ucq,uc9,udl,Nat.reduceAdd,Nat.reduceSub,ubn,ubo,ucy,ubx,udm,uc4];apply wpS_seq;apply wpS_region;simp[wpOpsS,go_sem,recoverD,g,Exit.thenS];refine wpS_of_wp ?_
  go_wp2
  cases a
  simp_all[bodyPostS,results,results126]
 ·have t:∀ w,(Instr.typeAssert (.iface 262 (.agg #[.int .i64 n])) 20 262 Y).run prog w=.ok (.agg #[.int .i64 n]) w:=λ_=>by kernel_rfl
  have s:∀ w,(Instr.field 262 (.agg #[.int .i64 n]) 0).run prog w=.ok (.int .i64 n) w:=λ_=>by kernel_rfl
  obtain⟨h,k,l,m,o,rfl⟩:∃ h k l m o,o1 = #[h,k,l,m,o]:=⟨o1[0],o1[1],o1[2],o1[3],o1[4],by
   apply ufn;exact e;intro i b c
   match i,c with
   |0,_|1,_|2,_|3,_|4,_=>rfl⟩
  obtain⟨B,rfl⟩:=JO f;have u:=aO b 0;have v:=aO b 1;have x:=aO b 2;have y:=aO b 3;have z:=aO b 4;have A:=aO c 0;simp at u v x y z A;have C:∀ j,w.frozen? ⟨b1,j,V⟩=false:=λj=>by simp[World.frozen?,b]
  have D:w.frozen? ⟨r,0,V⟩=false:=by simp[World.frozen?,c]
  refine callsD_of_wpS func126 rfl λa cs g=>?_;simp only[ntmps126,ucq,uc9,udl,Nat.reduceAdd,Nat.reduceSub,ubn,ubo,ucy,ubx,udm,uc4];apply wpS_seq;apply wpS_region;simp[wpOpsS,go_sem,recoverD,g,Exit.thenS];refine wpS_of_wp ?_
  go_wp2
  go_region
  go_wp2
  simp[bodyPostS,results,results126];exact qkw d b c
def Iz(x:ag [.d aC,.d zll,.d i64]):Fr (aa [zel,i64]):=
 let h:aC.den:=x.1;let t:zll.den:=x.2.1;let d:Int:=x.2.2.1
 Jd (bL h) (Jb ((qx.f (h,d,())).2.1 != 0) (Jv ([],(qx.f (h,d,())).2.1,()))
  (Jd (bL (qx.f (h,d,())).1) (Jd (bJ t) (Jv ((fN.f ((qx.f (h,d,())).1,t,())).1,(fN.f ((qx.f (h,d,())).1,t,())).2.1,())))))
def qov:af prog 129 (bg [.d aC,.d zll,.d i64] [zel,i64] Iz):=
 aS X5 f129
def qot(h:aC.den)(t:zll.den)(d:Int)(b:bL h)(c:bJ t):(Iz (h,t,d,())).ok/\(Iz (h,t,d,())).get=((gH h t d).1,(gH h t d).2,()):=by
 refine aF b ?_;unfold gH;by_cases a:(iA h d).2=0;rw[ufv a];exact aR (by show((iA h d).2 != 0)=Y;simp[a]) (aF (qa0 b d) (aF c ⟨uT,rfl⟩));rw[ufw a];exact aZ (by show((iA h d).2 != 0)=Z;simp[a]) ⟨uT,rfl⟩
def qou:af prog 129 ov:=
 cQ qov _ _ (λw F x vs b a=>by
  obtain⟨h,t,d,_⟩:=x;exact qot h t d a.1 a.2)
def Er(e:Int):Prop:=0<=e/\e<=20
def iH:Er 0:=⟨by decide,by decide⟩
def kD:Er 1:=⟨by decide,by decide⟩
def er5:Er 5:=⟨by decide,by decide⟩
def kF:Er 6:=⟨by decide,by decide⟩
def jE:Er 7:=⟨by decide,by decide⟩
def qgz(a b c:Int):Er (cP a b c).2:=by
 unfold cP;split
 first|exact iH|exact kD|exact er5|exact kF|exact jE
 split
 first|exact iH|exact kD|exact er5|exact kF|exact jE
 split<;>first|exact iH|exact kD|exact er5|exact kF|exact jE
def NZ:(l:List Int)->(m:Int)->Er (fj l m).2
 |[],_=>iH
 |b::r,m=>by
  unfold fj;split;exact NZ r _;exact qgz _ _ _
def qu7(v:aQ.den)(r:dG.den)(c:ak.den):Er (dJ v r c).2:=by
 unfold dJ;split;split
 first|exact iH|exact kD|exact er5|exact kF|exact jE
 split
 first|exact iH|exact kD|exact er5|exact kF|exact jE
 exact NZ _ _
 first|exact iH|exact kD|exact er5|exact kF|exact jE
def E1(v:aQ.den)(r:dG.den):(l:List ak.den)->(q:Int)->(b:Bool)->Er (ge v r l q b).2.2
 |[],_,_=>iH
 |c::l,q,b=>by
  unfold ge;split;split;split;exact E1 v r l _ _;exact E1 v r l _ _;exact E1 v r l _ _;exact qu7 _ _ _
def zdf(v:aQ.den)(r:dG.den)(l:List ak.den):Er (wl v r l).2:=by
 unfold wl;split;split<;>first|exact iH|exact kD|exact er5|exact kF|exact jE
 exact E1 _ _ _ _ _
def HA(v:aQ.den):(l:List aB.den)->Er (dj v l)
 |[]=>iH
 |s::l=>by
  unfold dj;split;split;exact HA v l;exact zdf _ _ _;exact HA v l
def Wx(d:Int):(l:List aQ.den)->Er (cq d l).2
 |[]=>jE
 |v::r=>by
  unfold cq;split
  first|exact iH|exact kD|exact er5|exact kF|exact jE
  exact Wx d r
def qug(h:aC.den)(t:zll.den):Er (c9 h t).2:=by
 unfold c9;split;split;split
 first|exact iH|exact kD|exact er5|exact kF|exact jE
 exact HA _ _;exact Wx _ _
 first|exact iH|exact kD|exact er5|exact kF|exact jE
def qo7(h:aC.den)(t:zll.den)(d:Int):Er (gH h t d).2:=by
 unfold gH;split;exact qug _ _;unfold iA;split<;>first|exact iH|exact kD|exact er5|exact kF|exact jE
def Er.inR{e:Int}(h:Er e):inR .i64 e:=by
 obtain⟨c,d⟩:=h;have a:IntKind.i64.min=-9223372036854775808:=by decide
 have b:IntKind.i64.max=9223372036854775807:=by decide
 unfold Go.Ab.inR;rw[a,b];omega
def OK(c:dD.den):Bool:=Bb c.1 c.2.1 c.2.2.1 c.2.2.2.1 c.2.2.2.2.1 c.2.2.2.2.2.1
def OS(l:List aB.den)(c:dD.den):ak.den×Int:=
 if ((dp l c.2.2.2.1).2&&(dp l c.2.2.2.1).1.2.1)=Z then
  (if (dZ c.2.2.1 (dp l c.2.2.2.1).1.2.2.2.1).2=Z then ((dZ c.2.2.1 (dp l c.2.2.2.1).1.2.2.2.1).1,0)else (jM,11))
 else (jM,11)
def qF(h:aC.den)(t:zll.den)(c:dD.den):ak.den×Int:=
 if OK c=Z then
  (if c.2.2.2.1<=c.2.2.2.2.1 then
   (if c.2.1=h.1 then (if (gH h t c.2.2.2.2.1).2=0 then OS (gH h t c.2.2.2.2.1).1 c else (jM,(gH h t c.2.2.2.2.1).2))else (jM,7))
  else (jM,4))
 else (jM,1)
def Ax:Ct:=⟨[.d aC,.d zll,.d dD],[ak,i64],λx=>((qF x.1 x.2.1 x.2.2.1).1,(qF x.1 x.2.1 x.2.2.1).2,()),λx=>[bL x.1,bJ x.2.1]⟩
noncomputable def LP:Cx:=cx [(128,Gf),(129,ov),(130,tj),(131,A6)] [(127,wY)]
def LQ:CxOK prog LP:=aP aG ⟨qt3,qou,zab,qku,uT⟩ ⟨zcl,uT⟩
def mu(b:Bool)(e:Int)(k:Fr (aa [ak,i64])):Fr (aa [ak,i64]):=
 Jb (wY.bad (b,e,())) (Jd (inR .i64 (wY.pv (b,e,())).n) (Jv ((0,0,0,0,0,()),(wY.pv (b,e,())).n,()))) k
def BR(x:ag [.d aC,.d zll,.d dD]):Fr (aa [ak,i64]):=
 let h:aC.den:=x.1;let t:zll.den:=x.2.1;let c:dD.den:=x.2.2.1
 mu (Gf.f (c,())).1 1 (mu (J (c.2.2.2.2.1>=c.2.2.2.1)) 4 (mu (c.2.1==h.1) 7 (Jd (bL h) (Jd (bJ t)
  (mu ((ov.f (h,t,c.2.2.2.2.1,())).2.1==0) (ov.f (h,t,c.2.2.2.2.1,())).2.1
   (mu (bif (tj.f ((ov.f (h,t,c.2.2.2.2.1,())).1,c.2.2.2.1,())).2.1 then (tj.f ((ov.f (h,t,c.2.2.2.2.1,())).1,c.2.2.2.1,())).1.2.1 else Y) 11
    (mu (A6.f ((tj.f ((ov.f (h,t,c.2.2.2.2.1,())).1,c.2.2.2.1,())).1.2.2.2.1,c.2.2.1,())).2.1 11
     (Jv ((A6.f ((tj.f ((ov.f (h,t,c.2.2.2.2.1,())).1,c.2.2.2.1,())).1.2.2.2.1,c.2.2.1,())).1,0,())))))))))
noncomputable def OQ:Code:=(f79.body.map λc=>ke (ke c)).getD .skip
def qei:af prog 79 (bg [.d aC,.d zll,.d dD] [ak,i64] BR):=
 qf9 LQ (run:=λs=>cr prog LP 0 bw OQ 0 s) (T:=262) (k:=.i64) (m:=5) (fn:=f79) (A:=rh (f79.body.getD .skip)) (c:=OQ) (rid:=1) (ops:=JT (rh (ke (f79.body.getD .skip)))) (td:=12) (ta:=6) (tb:=7) (fr:=BR) (ps:=[.d aC,.d zll,.d dD]) (rs:=[ak,i64]) (aC.dflt,zll.dflt,dD.dflt,())
  (by kernel_rfl) (by kernel_rfl) (by kernel_rfl) zb0 (λE=>zmz LQ (aY _ 0)) (λx=>by kernel_rfl)
def wk{b:Bool}{e:Int}{k:Fr (aa [ak,i64])}{y:aa [ak,i64]}(a:b=Z)(c:k.ok/\k.get=y):(mu b e k).ok/\(mu b e k).get=y:=aR (by show(!b)=Y;rw[a];rfl) c
def wj{b:Bool}{e:Int}{k:Fr (aa [ak,i64])}(a:b=Y)(c:inR .i64 e):(mu b e k).ok/\(mu b e k).get=(jM,e,()):=aZ (by show(!b)=Z;rw[a];rfl) (aF c ⟨uT,rfl⟩)
def qeh(h:aC.den)(t:zll.den)(c:dD.den)(i:bL h)(j:bJ t):(BR (h,t,c,())).ok/\(BR (h,t,c,())).get=((qF h t c).1,(qF h t c).2,()):=by
 unfold qF;by_cases a:OK c=Z;rw[ufv a];refine wk a ?_;by_cases b:c.2.2.2.1<=c.2.2.2.2.1;rw[ufv b];refine wk (by simpa using b) ?_;by_cases d:c.2.1=h.1;rw[ufv d];refine wk (by simpa using d) (aF i (aF j ?_));by_cases e:(gH h t c.2.2.2.2.1).2=0;rw[ufv e];refine wk (by show((gH h t c.2.2.2.2.1).2==0)=Z;simpa using e) ?_;unfold OS;by_cases f:((dp (gH h t c.2.2.2.2.1).1 c.2.2.2.1).2&&(dp (gH h t c.2.2.2.2.1).1 c.2.2.2.1).1.2.1)=Z;rw[ufv f];refine wk ((oc _ _).trans f) ?_;by_cases g:(dZ c.2.2.1 (dp (gH h t c.2.2.2.2.1).1 c.2.2.2.1).1.2.2.2.1).2=Z;rw[ufv g];exact wk g ⟨uT,rfl⟩;rw[ufw g];exact wj (ucz.2 g) ⟨by decide,by decide⟩;rw[ufw f];exact wj ((oc _ _).trans (ucz.2 f)) ⟨by decide,by decide⟩;rw[ufw e];exact wj (by show((gH h t c.2.2.2.2.1).2==0)=Y;simpa using e) (qo7 h t _).inR;rw[ufw d];exact wj (by simpa using d) ⟨by decide,by decide⟩;rw[ufw b];exact wj (by simpa using b) ⟨by decide,by decide⟩;rw[ufw a];exact wj (ucz.2 a) ⟨by decide,by decide⟩
def OR:af prog 79 Ax:=
 cQ qei _ _ (λw F x vs b a=>by
  obtain⟨h,t,c,_⟩:=x;exact qeh h t c a.1 a.2)
noncomputable def XZ:Cx:=cx [(108,zmx),(66,q9),(271,AA)] []
def Ya:CxOK prog XZ:=aP aG ⟨Pk,Lm,TL,uT⟩ trivial
def qif(x:ag [.d i64,.d i64,.d dm]):Fr (aa [aC,i64]):=
 Jb (bif bif bif J (x.1<1)then Z else J (x.1>1000000000)then Z else !(zmx.f (x.2.1,())).1 then Z else !(q9.f (x.2.2.1,())).1) (Jv ((0,0,((0,0,()),(0,0,0,0,()),[],()),[],()),1,())) (Jd (List.length x.2.2.1.2.2.1<=1000000) (Jv ((x.1,x.2.1,(AA.f (x.2.2.1,())).1,[],()),0,())))
def qig:af prog 268 (bg [.d i64,.d i64,.d dm] [aC,i64] qif):=
 aS Ya f268
def wI(id a:Int)(t:dm.den):Bool:=bif bif bif J (id<1)then Z else J (id>1000000000)then Z else !(g8 a)then Z else !(ju t)
def og(id a:Int)(t:dm.den):aC.den×Int:=bif wI id a t then (fF,1)else ((id,a,t,[],()),0)
def Od:Ct:=⟨[.d i64,.d i64,.d dm],[aC,i64],λx=>((og x.1 x.2.1 x.2.2.1).1,(og x.1 x.2.1 x.2.2.1).2,()),λ_=>[]⟩
def VR{t:dm.den}(h:ju t=Z):t.2.2.1.length<=1000000:=by
 unfold ju at h;rw[udc,udc,udc]at h;have a:l7 t.2.2.1=true:=h.2.2.2;unfold l7 at a;rw[udc]at a;have:=ucx a.1;exact ueo this.2 (by decide)
def NM{id a:Int}{t:dm.den}(h:wI id a t=Y):ju t=true:=by
 unfold wI at h;cases c:ju t;rw[c]at h;cases b:(bif bif J (id<1)then Z else J (id>1000000000)then Z else !(g8 a))<;>rw[b]at h<;>cases h
 rfl
def qbn:af prog 268 Od:=conv qig _ _ (λ_ _ x _ _ _=>by
 obtain⟨id,a,t,_⟩:=x;show _/\_=((og id a t).1,(og id a t).2,());unfold og;cases h:wI id a t;exact aR h (aF (VR (NM h)) ⟨uT,rfl⟩);exact aZ h ⟨uT,rfl⟩)
def NV(id b:Int)(t:dm.den):bL (og id b t).1:=by
 unfold og;cases h:wI id b t;exact⟨by show 0<=500000;omega,VR (NM h),λc a=>by cases a⟩;have z:bL fF:=⟨by decide,by decide,λc a=>by cases a⟩;exact z
def FZ:Ct:=⟨[.d zjv],[i64],λx=>(nW x.1,()),λ_=>[]⟩
def Gv:Ct:=⟨[.d ar],[i64],λx=>(oR x.1,()),λ_=>[]⟩
def qq(f:aD.den)(g:ar.den):Bool:=bif g.1.2.1==mU f then J (g.1.2.2.2.2.1>=cC f)else Y
def FW:Ct:=⟨[.d ar,.ptr aD],[.bool],λx=>(qq x.2.1 x.1,()),λ_=>[]⟩
def qbi:af prog 270 FZ:=
 conv (aS aH f270 (fr:=λx=>Jv (nW x.1,())) (ps:=FZ.ps) (rs:=[i64])) _ _ (λ_ _ _ _ _ _=>⟨uT,rfl⟩)
def qth:af prog 287 Gv:=
 conv (aS aH f287 (fr:=λx=>Jv (oR x.1,())) (ps:=Gv.ps) (rs:=[i64])) _ _ (λ_ _ _ _ _ _=>⟨uT,rfl⟩)
def qaj:af prog 280 FW:=
 conv (aS aH f280 (fr:=λx=>Jv (qq x.2.1 x.1,())) (ps:=FW.ps) (rs:=[.bool])) _ _ (λ_ _ _ _ _ _=>⟨uT,rfl⟩)
noncomputable def XM:Cx:=cx [(308,G3),(140,fM)] []
def XN:CxOK prog XM:=aP aG ⟨qv9,oT,uT⟩ trivial
abbrev pp:Pt:=⟨28,2,⟨[(14,.d i64),(13,.d i64),(12,.d (.sl ah)),(6,.d i64),(1,.d i64),(5,.d i64),(9,.d i64),(0,.d (.sl ah))],[]⟩,⟨[(6,.d i64),(1,.d i64),(9,.d i64),(0,.d (.sl ah))],[]⟩,⟨[],[]⟩⟩
noncomputable def R8:Code:=((dC (au f304 0) 0).getD .skip)
abbrev DF:Type:=ag [.d i64,.d i64,.d i64,.d i64,.d (.sl ah)]×cR []
def vY(e:ah.den)(s:DF):Fr DF:=
 let a:=s.1.2;Jd (¬a.2.1<0) (Jv ((I6.wrap (s.1.1+(G3.f (e,a.1,a.2.1,())).1),a.1,a.2.1,a.2.2.1,a.2.2.2.1,()),()))
def Lx(x:pp.M.X):Int×List ah.den×DF:=(x.1.1,x.1.2.2.1,x.1.2.2.2,x.2)
def IH(x:pp.M.X):Prop:=x.1.2.1=(x.1.2.2.1.length:Int)
def TF(s:DF):pp.E.X:=((s.1.1,s.1.2.1,s.1.2.2.2.1,s.1.2.2.2.2.1,()),())
def qr0:ae prog (.loop R8) pp.M pp (FF vY Lx IH TF):=
 LF XN (λ_ _=>.n .o) ah.dflt (λx=>x.1.2.1) (λx s=>((I6.wrap (x.1.1+1),x.1.2.1,x.1.2.2.1,s.1),s.2)) (λ_ h=>h)
def zd1(Γ:Gm):St->Option Tr:=pp.han Γ pp.M (FF vY Lx IH TF)
abbrev v9:Pt:=⟨33,0,⟨[(15,.d i64),(14,.d i64),(13,.d (.sl ah))],[.x 3 44 ah,.r 3 3 0,.y 5 57 [(U 44,ah)],.r 5 5 0]⟩,⟨[],[.x 3 44 ah,.r 3 3 0,.y 5 57 [(U 44,ah)],.r 5 5 0]⟩,⟨[],[]⟩⟩
abbrev zh:Type:=ag []×cR [.x 3 44 ah,.r 3 3 0,.y 5 57 [(U 44,ah)],.r 5 5 0]
def wb(e:ah.den)(s:zh):Fr zh:=
 let b:=s.2.2.1.1;let a:=(e.1,e.2.1,e.2.2.1,e.2.2.2.1,e.2.2.2.2.1,e.2.2.2.2.2.1,e.2.2.2.2.2.2.1,I6.wrap ((BitVec.ofInt I6.bits e.2.2.2.2.2.2.2.1 &&& BitVec.ofInt I6.bits s.2.1.2.2.2.2.2.2.2.1).toNat:Int),());Jd (b.length + [a].length<=maxLen/\(b.length + [a].length)*72<=140737488355328) (Jv ((),s.2.1,(b++[a],()),()))
def Wo(x:v9.M.X):Int×List ah.den×zh:=(x.1.1,x.1.2.2.1,x.1.2.2.2,x.2)
def Re(x:v9.M.X):Prop:=x.1.2.1=(x.1.2.2.1.length:Int)
def qvm(s:zh):v9.E.X:=((),s.2.1,(s.2.2.1.1,()),())
def qss:ae prog (.loop (au f301 0)) v9.M v9 (FF wb Wo Re qvm):=
 LF aH (λ_ _=>.n .o) ah.dflt (λx=>x.1.2.1) (λx s=>((I6.wrap (x.1.1+1),x.1.2.1,x.1.2.2.1,s.1),s.2)) (λ_ h=>h)
abbrev zez:Pt:=⟨22,0,⟨[(9,.d i64),(8,.d i64),(7,.d (.sl aD)),(3,.d i64)],[]⟩,⟨[(3,.d i64)],[]⟩,⟨[],[]⟩⟩
abbrev zff:Type:=ag [.d i64]×cR []
def zer(e:aD.den)(s:zff):Fr zff:=
 Jb (e.2.1==7) (Jv ((if s.1.1<e.2.2.2.2.1 then e.2.2.2.2.1 else s.1.1,()),())) (Jv ((s.1.1,()),()))
def zeu(x:zez.M.X):Int×List aD.den×zff:=(x.1.1,x.1.2.2.1,x.1.2.2.2,x.2)
def zgc(x:zez.M.X):Prop:=x.1.2.1=(x.1.2.2.1.length:Int)
def zgi(s:zff):zez.E.X:=((s.1.1,()),())
def zhr:ae prog (.loop (au f44 0)) zez.M zez (FF zer zeu zgc zgi):=
 LF aH (λ_ _=>.n .o) aD.dflt (λx=>x.1.2.1) (λx s=>((I6.wrap (x.1.1+1),x.1.2.1,x.1.2.2.1,s.1),s.2)) (λ_ h=>h)
def zh2(y:zez.M.X):zff:=kJ zer ((zeu y).2.1.drop (zeu y).1.toNat) (zeu y).2.2
def zhy(y:zez.M.X):Prop:=pg zer ((zeu y).2.1.drop (zeu y).1.toNat) (zeu y).2.2
abbrev lS:Pt:=⟨28,0,⟨[(9,.d i64),(0,.d (.sl ah)),(1,.d i64)],[]⟩,⟨[],[]⟩,⟨[(4,.d .bool)],[]⟩⟩
def V6(day a:Int)(l:List ah.den)(s:Int):Int:=l.foldl (λs t=>I6.wrap (s+CZ t day a)) s
def OU(day p i:Int)(a:List ah.den):(l:List ah.den)->(s:Int)->kJ vY l ((s,day,p,i,a,()),())=((V6 day p l s,day,p,i,a,()),())
 |[],_=>rfl
 |t::l,s=>OU day p i a l (I6.wrap (s+CZ t day p))
def OV(day p i:Int)(a:¬ p<0)(b:List ah.den):(l:List ah.den)->(s:Int)->pg vY l ((s,day,p,i,b,()),())
 |[],_=>trivial
 |t::l,s=>⟨⟨a,uT⟩,OV day p i a b l (I6.wrap (s+CZ t day p))⟩
abbrev qgm(i:Int)(l:List ah.den)(day:Int):pp.M.X:=((0,((List.length l:Nat):Int),l,0,day,i,i,l,()),())
def QD(x:lS.M.X):Fr lS.Out:=
 let b:=qgm x.1.1 x.1.2.1 x.1.2.2.1;let a:=kJ vY (List.drop 0 x.1.2.1) ((0,x.1.2.2.1,x.1.1,x.1.1,x.1.2.1,()),());Jb (J (x.1.1<8)) (Jd (InL (IH b) (Lx b))
  (Jd (pg vY (List.drop 0 x.1.2.1) ((0,x.1.2.2.1,x.1.1,x.1.1,x.1.2.1,()),()))
   (Jb (J (a.1.1>10000)) (Jv (Rd.back ((Z,()),())))
    (Jv (Rd.next ((I6.wrap (a.1.2.2.2.1+1),a.1.2.2.2.2.1,a.1.2.1,()),()))))))
  (Jv (Rd.out ((),())))
def qy9:ae prog (au f304 0) lS.M lS QD:=
 ae.of_run aH (bs:=0) (Λ:=λ_=>zd1 dB.Γ) rfl rfl rfl (λE=>oX _ 0 λi b a=>by
  match i,a with
  |0,a=>
   have e:U R8=U b:=by rw[<- a];kernel_rfl
   cases e;exact ae.han aH rfl qr0
  |i+1,a=>exact absurd (ot a) (by
   have:ce (au f304 0)=1:=by kernel_rfl
   omega)) (λx=>by kernel_rfl)
def tJ(l:List ah.den)(day:Int):Nat->Int->Bool
 |0,_=>Y
 |n+1,p=>J (V6 day p l 0>10000) || tJ l day n (p+1)
def Hk(l:List ah.den)(day:Int):Bool:=tJ l day 8 0
def w9(i:Int)(l:List ah.den):Prop:=0<=i/\i<=8/\((List.length l:Nat):Int)<=9223372036854775807
def MU(x:lS.M.X):Fr lS.Out:=
 Jd (w9 x.1.1 x.1.2.1) (Jb (tJ x.1.2.1 x.1.2.2.1 (8-x.1.1).toNat x.1.1) (Jv (Rd.back ((Z,()),()))) (Jv (Rd.out ((),()))))
def qp9 (i:Int) (l:List ah.den) (day:Int) (c:w9 i l) (Q:lS.Out->Prop) (a:(Jb (tJ l day (8-i).toNat i) (Jv (Rd.back ((Z,()),()))) (Jv (Rd.out ((),()))):Fr lS.Out).satP Q) :
  (QD ((i,l,day,()),())).satP λ
   |.next d=>w9 d.1.1 d.1.2.1/\(8-d.1.1).toNat<(8-i).toNat/\(MU d).satP Q
   |.out y=>Q (.out y)
   |.back z=>Q (.back z)
   |.pan p=>Q (.pan p):=by
 obtain⟨n,o,g⟩:=c;by_cases hi:i<8;refine⟨λ_=>⟨⟨rfl,ufa _,ub4 _,g⟩,OV day i i (by omega) l (List.drop 0 l) 0,?_⟩,λh=>absurd hi (uch h)⟩;have m:I6.wrap (i+1)=i+1:=IntWalk.i64_in _ (by omega);rw[OU,uef];have f:(8-i).toNat=(8-(i+1)).toNat+1:=by omega
 rw[f]at a;dsimp only[tJ]at a;refine⟨λe=>?_,λe=>?_⟩;have b:=e;rw[b]at a;exact a.1 rfl;have b:=e;rw[b,Bool.false_or]at a;rw[m];have j:w9 (i+1) l:=⟨by omega,by omega,g⟩;have k:(8-(i+1)).toNat<(8-i).toNat:=by omega
 exact⟨j,k,j,a⟩;refine⟨λh=>absurd (ucx h) hi,λ_=>?_⟩;have f:(8-i).toNat=0:=by omega
 rw[f]at a;exact a.2 rfl
def qrz:ae prog (.loop (au f304 0)) lS.M lS MU:=by
 refine ae.loop qy9 (μ:=λx=>(8-x.1.1).toNat) ?_ (λx Q h=>h.1);rintro⟨⟨i,l,day,_⟩,_⟩ a Q b;exact qp9 i l day a Q b.2
def Of:Ct:=⟨[.d (.sl ah),.d i64],[.bool],λx=>(Hk x.1 x.2.1,()),λ_=>[]⟩
def qep:af prog 304 Of:=
 conv (cS aH qrz (ps:=[.d (.sl ah),.d i64]) (fr:=λx=>Jd (w9 0 x.1) (Jb (tJ x.1 x.2.1 (8-(0:Int)).toNat 0) (Jv (Z,())) (Jv (Y,()))))) _ _ (λw F x vs c _=>by
  obtain⟨l,day,_⟩:=x;obtain⟨v,f,rfl,e,_⟩:=c;have a:((List.length l:Nat):Int)<=9223372036854775807:=mv e;refine aF ⟨by omega,by omega,a⟩ ?_;cases b:Hk l day;exact aR b ⟨uT,rfl⟩;exact aZ b ⟨uT,rfl⟩)
def yw(x t:ah.den)(all:List ah.den):Bool:=bif (fM.f (t.2.2.1,x.2.2.1.1,())).1 then Hk all x.2.2.1.1 else Y
def G1:Ct:=⟨[.d ah,.ptr ah,.ptr (.sl ah)],[.bool],λx=>(yw x.1 x.2.1 x.2.2.1,()),λ_=>[]⟩
noncomputable def XO:Cx:=cx [(304,Of),(140,fM)] []
def XP:CxOK prog XO:=aP aG ⟨qep,oT,uT⟩ trivial
def qvs:af prog 303 G1:=
 conv (aS XP f303 (fr:=λx=>Jv (yw x.1 x.2.1 x.2.2.1,())) (ps:=G1.ps)) _ _ (λ_ _ _ _ _ _=>⟨uT,rfl⟩)
end Go.Proofs.YtdokapnnagbehaaGreat
