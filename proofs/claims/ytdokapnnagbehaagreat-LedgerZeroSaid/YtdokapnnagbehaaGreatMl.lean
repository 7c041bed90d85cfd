/-
  Parts of the proof, one behind the other.
-/
import Derived.Test.YtdokapnnagbehaaGreatMk
import Derived.Maps.OwnIn
import Derived.RegionTactic
set_option linter.all false
set_option maxRecDepth 100000
set_option maxHeartbeats 4000000
open Option renaming some->U,none->V
open Bool renaming true->Z,false->Y
open Decidable renaming decide->J
open Go Go.RowKit
variable {T α σ ρ β:Type} {P:Program} {ad:Addr} {arr cs cur:Array Value} {f:FuncId} {x a y day:Int} {k:IntKind} {l:List Int} {xs vs news:List Value} {off i n b c d j B m len:Nat} {F F' K:Nat->Prop} {R g R':Nat->Value->Prop} {o:Oper} {p:Prop} {e ety t ty el:TypeId} {v u vx:Value} {w w' W' W:World}
namespace Go.Proofs.YtdokapnnagbehaaGreat
open Go Go.Ab Go.RowKit Go.Proofs Tryz Go.Shelf
open Go.Ab.Fr renaming val->Jv,need->Jd,br->Jb
abbrev oY:Ty:=.sl (.sl az)
noncomputable def WW:Cx:=cW [] [] (II 153 38 az 88)
def EB:CxOK prog WW:=cZ (cs:=[]) (ps:=[]) aG trivial trivial (qmz qmy)
abbrev nr:Pt:=⟨36,0,⟨[(0,.d oY),(9,.d oY),(10,.d i64),(11,.d i64),(3,.d i64)],[]⟩,⟨[(0,.d oY),(3,.d i64)],[]⟩,⟨[],[]⟩⟩
abbrev nt:Pt:=⟨36,2,⟨[(25,.d oY),(26,.d i64),(27,.d i64)],[.o 6 38 az]⟩,⟨[],[.o 6 38 az]⟩,⟨[],[]⟩⟩
def Io(x:nr.M.X):Fr nr.Out:=
 let j:List (List az.den):=x.1.1;let l:List (List az.den):=x.1.2.1;let n:Int:=x.1.2.2.1;let i:Int:=x.1.2.2.2.1;let s:Int:=x.1.2.2.2.2.1
 Jb (J (i<n))
  (Jd (0<=i/\i<(l.length:Int))
   (Jb (J (I6.wrap (s+((List.length (α:=az.den) (l.getD i.toNat []):Nat):Int))<0)) (Jd False (Jv (Rd.back ((),()))))
    (Jv (Rd.next ((j,l,n,I6.wrap (i+1),I6.wrap (s+((List.length (α:=az.den) (l.getD i.toNat []):Nat):Int)),()),())))))
  (Jv (Rd.out ((j,s,()),())))
def qyt:ae prog (au f93 0) nr.M nr Io:=
 dn EB
def Ip(x:nt.M.X):Fr nt.Out:=
 let l:List (List az.den):=x.1.1;let n:Int:=x.1.2.1;let i:Int:=x.1.2.2.1;let o:List az.den:=x.2.1
 Jb (J (i<n))
  (Jd (0<=i/\i<(l.length:Int))
   (Jd (D3 o.length (List.length (α:=az.den) (l.getD i.toNat [])))
    (Jv (Rd.next ((l,n,I6.wrap (i+1),()),(o++l.getD i.toNat [],()))))))
  (Jv (Rd.out ((),(o,()))))
def qyu:ae prog (au f93 1) nt.M nt Ip:=
 dn EB
structure InvCc1 (l:List (List az.den)) (n i s:Int):Prop where
 i0:0<=i
 il:i<=n
 nl:n=l.length
 big:(l.length:Int)<=9223372036854775807
 few:l.flatten.length<=1000000
 s0:s=((l.take i.toNat).flatten.length:Nat)
def ME(x:nr.M.X):Fr nr.Out:=Jd (x.1.1=x.1.2.1/\InvCc1 x.1.2.1 x.1.2.2.1 x.1.2.2.2.1 x.1.2.2.2.2.1) (Jv (Rd.out ((x.1.1,((List.flatten (α:=az.den) x.1.2.1).length:Int),()),())))
def VN(l:List (List az.den)){k:Nat}(i:k<l.length):(l.take (k+1)).flatten=(l.take k).flatten++l.getD k []:=by
 rw[List.take_add_one,List.flatten_append,uaq i,uah,uaq i];simp
def VO(l:List (List az.den))(k:Nat):(l.take k).flatten.length<=l.flatten.length:=by
 conv=>rhs;rw[<- uba k l]
 rw[List.flatten_append,ub5];omega
def qpo (j l:List (List az.den)) (n i s:Int) (q:j=l/\InvCc1 l n i s) (Q:nr.Out->Prop) (hq:Q (Rd.out ((j,(l.flatten.length:Int),()),()))):(Io ((j,l,n,i,s,()),())).satP λ
   |.next m=>(m.1.1=m.1.2.1/\InvCc1 m.1.2.1 m.1.2.2.1 m.1.2.2.2.1 m.1.2.2.2.2.1)/\(m.1.2.2.1-m.1.2.2.2.1).toNat<(n-i).toNat/\(ME m).satP Q
   |.out y=>Q (.out y)
   |.back z=>Q (.back z)
   |.pan p=>Q (.pan p):=by
 obtain⟨rfl,h0,h1,F,H,N,u⟩:=q;obtain⟨k,rfl⟩:∃ k:Nat,i=k:=⟨i.toNat,by omega⟩;subst F;dsimp only[Io,Fr.satP];rw[ucz]at u |-;refine⟨λhi=>?_,λhi=>?_⟩;have C:k<j.length:=by have:(k:Int)<(j.length:Int):=ucw hi;omega
 have O:=VN j C;have P:=VO j (k+1);have t:=ufo List.length O;rw[ub5]at t;have W:I6.wrap ((k:Int)+1)=((k+1:Nat):Int):=by rw[cz (by omega)];omega
 have w2:I6.wrap (s+((j.getD k []).length:Int))=(((j.take (k+1)).flatten.length:Nat):Int):=by rw[cz (by omega)];omega
 rw[W,w2];refine⟨⟨by omega,by omega⟩,λS=>?_,λ_=>?_⟩;have:((((j.take (k+1)).flatten.length:Nat):Int)<0):=ucw S;omega;have w:InvCc1 j j.length ((k+1:Nat):Int) (((j.take (k+1)).flatten.length:Nat):Int):=⟨by omega,by omega,rfl,H,N,by rw[ucz]⟩;exact⟨⟨rfl,w⟩,by omega,⟨rfl,w⟩,hq⟩;have C:¬ (k:Int)<(j.length:Int):=ucg hi;rw[ua3 (by omega)]at u;rw[u];exact hq
def qqv:ae prog (.loop (au f93 0)) nr.M nr ME:=by
 refine ae.loop (n:=36) (id:=0) qyt (inv:=λx=>x.1.1=x.1.2.1/\InvCc1 x.1.2.1 x.1.2.2.1 x.1.2.2.2.1 x.1.2.2.2.2.1) (μ:=λx=>(x.1.2.2.1-x.1.2.2.2.1).toNat) ?_ (λx Q h=>h.1);rintro⟨⟨m,l,n,i,s,_⟩,_⟩ j Q hq;exact qpo m l n i s j Q hq.2
structure InvCc2 (l:List (List az.den)) (n i:Int) (o:List az.den):Prop where
 i0:0<=i
 il:i<=n
 nl:n=l.length
 big:(l.length:Int)<=9223372036854775807
 few:l.flatten.length<=1000000
 o0:o=(l.take i.toNat).flatten
def MF(x:nt.M.X):Fr nt.Out:=Jd (InvCc2 x.1.1 x.1.2.1 x.1.2.2.1 x.2.1) (Jv (Rd.out ((),(List.flatten (α:=az.den) x.1.1,()))))
def qxx(h:n+m<=1000000):D3 n m:=by
 refine⟨by unfold maxLen;omega,uel (ueb h OF) (by decide)⟩
def qpp (l:List (List az.den)) (n i:Int) (o:List az.den) (m:InvCc2 l n i o) (Q:nt.Out->Prop) (hq:Q (Rd.out ((),(l.flatten,())))):(Ip ((l,n,i,()),(o,()))).satP λ
   |.next j=>InvCc2 j.1.1 j.1.2.1 j.1.2.2.1 j.2.1/\(j.1.2.1-j.1.2.2.1).toNat<(n-i).toNat/\(MF j).satP Q
   |.out y=>Q (.out y)
   |.back z=>Q (.back z)
   |.pan p=>Q (.pan p):=by
 obtain⟨h0,S,F,H,N,t⟩:=m;obtain⟨k,rfl⟩:∃ k:Nat,i=k:=⟨i.toNat,by omega⟩;subst F;dsimp only[Ip,Fr.satP];rw[ucz]at t |-;subst t;refine⟨λhi=>?_,λhi=>?_⟩;have C:k<l.length:=by have:(k:Int)<(l.length:Int):=ucw hi;omega
 have w:=VN l C;have O:=VO l (k+1);have q:=ufo List.length w;rw[ub5]at q;have P:I6.wrap ((k:Int)+1)=((k+1:Nat):Int):=by rw[cz (by omega)];omega
 rw[P,<- w];have u:InvCc2 l l.length ((k+1:Nat):Int) (l.take (k+1)).flatten:=⟨by omega,by omega,rfl,H,N,by rw[ucz]⟩;exact⟨⟨by omega,by omega⟩,qxx (by omega),u,by omega,u,hq⟩;have C:¬ (k:Int)<(l.length:Int):=ucg hi;rw[ua3 (by omega)];exact hq
def qqw:ae prog (.loop (au f93 1)) nt.M nt MF:=by
 refine ae.loop (n:=36) (id:=2) qyu (inv:=λx=>InvCc2 x.1.1 x.1.2.1 x.1.2.2.1 x.2.1) (μ:=λx=>(x.1.2.1-x.1.2.2.1).toNat) ?_ (λx Q h=>h.1);rintro⟨⟨l,n,i,_⟩,o,_⟩ j Q hq;exact qpp l n i o j Q hq.2
def Aw:Ct:=⟨[.d oY],[.sl az],λx=>(List.flatten (α:=az.den) x.1,()),λx=>[(List.flatten (α:=az.den) x.1).length<=1000000]⟩
def Q4(x:ag [.d oY]):Fr (aa [.sl az]):=
 let l:List (List az.den):=x.1
 Jd (l=l/\InvCc1 l l.length 0 0)
  (Jd (0<=((l.flatten.length:Nat):Int)/\((l.flatten.length:Nat):Int)<=maxLen/\((l.flatten.length:Nat):Int)*(88:Nat)<=140737488355328)
   (Jd (InvCc2 l l.length 0 []) (Jv (l.flatten,()))))
def qed:af prog 93 (bg [.d oY] [.sl az] Q4):=
 oP EB qqv qqw (fr:=Q4) (ps:=[.d oY]) (rs:=[.sl az])
def qec:af prog 93 Aw:=
 cQ qed _ _ (λw F x vs q j=>by
  obtain⟨l,_⟩:=x;obtain⟨v,u,rfl,t,_⟩:=q;have i:(List.length (α:=List az.den) l:Int)<=9223372036854775807:=uB (aA.wf t.2.2).1;have m:(List.flatten (α:=az.den) l).length<=1000000:=j;refine aF ⟨rfl,⟨ue7 _,ub3 _,rfl,i,m,rfl⟩⟩ (aF ⟨by omega,?_,?_⟩ (aF ⟨ue7 _,ub3 _,rfl,i,m,rfl⟩ ⟨uT,rfl⟩));show((List.flatten (α:=az.den) l).length:Int)<=(maxLen:Int);unfold maxLen;omega;show((List.flatten (α:=az.den) l).length:Int)*((88:Nat):Int)<=140737488355328;omega)
noncomputable def El:Code:=(f92.body.map Vb).getD .skip
noncomputable def VV:Code:=(f92.body.map Ru).getD .skip
noncomputable def VW:Code:=(findLabel El 0).getD .skip
noncomputable def EI:Cx:=cx [(97,G0)] []
def zN:CxOK prog EI:=aP aG ⟨JX,uT⟩ trivial
def nT:LS:=⟨[],[.x 1 114 aC,.r 1 1 0]⟩
def zY:LS:=⟨[(4,.d (.sl i64)),(5,.d i64)],[.x 1 114 aC,.r 1 1 0]⟩
def Dc:Pt:=⟨34,0,zY,⟨[],[]⟩,⟨[(2,.d i64),(3,.d .bool)],[]⟩⟩
def yE:Pt:=⟨34,0,nT,⟨[],[]⟩,⟨[(2,.d i64),(3,.d .bool)],[]⟩⟩
def Bt(x:zY.X):Fr Dc.Out:=
 let l:List Int:=x.1.1;let k:Int:=x.1.2.1;let h:aC.den:=x.2.1
 let v:Int:=l.getD (I6.wrap (k-1)).toNat 0
 Jb (k==0) (Jv (Rd.back ((0,Y,()),())))
  (Jd (0<=I6.wrap (k-1)/\I6.wrap (k-1)<(l.length:Int))
   (Jd (0<=v/\v<((aL h).length:Int))
    (Jb (bif ((aL h).getD v.toNat az.dflt).2.2.1 != 3 then ((aL h).getD v.toNat az.dflt).2.2.1 != 4 else Y)
     (Jv (Rd.next ((l,I6.wrap (k-1),()),(h,()))))
     (Jd (0<=I6.wrap (k-1)/\I6.wrap (k-1)<(l.length:Int)) (Jv (Rd.back ((v,Z,()),())))))))
def qg8(x:nT.X):Fr Dc.Out:=
 let h:aC.den:=x.2.1
 Jd (((aL h).length:Int)<=1000000) (Bt ((bE h,((bE h).length:Int),()),(h,())))
def qy3:gi prog 0 El nT Dc qg8:=gi.of_run zN (bs:=0) rfl rfl rfl (λ_=>aY _ 0) (λx=>by kernel_rfl)
def qy2:gi prog 0 VW zY Dc Bt:=gi.of_run zN (bs:=0) rfl rfl rfl (λ_=>aY _ 0) (λx=>by kernel_rfl)
def kM(c:az.den):Bool:=c.2.2.1==3 || c.2.2.1==4
def gM(h:aC.den)(l:List Int):Nat->Option Int
 |0=>V
 |k+1=>if kM (bZ h (l.getD k 0))=Z then U (l.getD k 0)else gM h l k
structure InvTn (l:List Int) (k:Int) (h:aC.den):Prop where
 k0:0<=k
 kl:k<=l.length
 big:l.length<=1000000
 mem:∀ v∈l,0<=v/\v<((aL h).length:Int)
def CS(o:Option Int):Rd nT.X (LS.X ⟨[],[]⟩) (LS.X ⟨[(2,.d i64),(3,.d .bool)],[]⟩):=Rd.back ((o.getD 0,o.isSome,()),())
def MM(x:zY.X):Fr yE.Out:=Jd (InvTn x.1.1 x.1.2.1 x.2.1) (Jv (CS (gM x.2.1 x.1.1 (x.1.2.1:Int).toNat)))
def MN(x:nT.X):Fr yE.Out:=Jd (((aL x.2.1).length:Int)<=1000000) (Jv (CS (gM x.2.1 (bE x.2.1) (bE x.2.1).length)))
def qo4(c:az.den):(bif c.2.2.1 != 3 then c.2.2.1 != 4 else Y)=!kM c:=by
 unfold kM;show(bif !(c.2.2.1==3)then !(c.2.2.1==4)else Y)=!(c.2.2.1==3 || c.2.2.1==4);cases c.2.2.1==3<;>cases c.2.2.1==4<;>rfl
def So(l:List Int)(k:Int)(h:aC.den)(j:InvTn l k h)(Q:yE.Out->Prop)(hq:Q (CS (gM h l k.toNat))):(Bt ((l,k,()),(h,()))).satP λ
   |.next u=>InvTn u.1.1 u.1.2.1 u.2.1/\(u.1.2.1:Int).toNat<k.toNat/\(MM u).satP Q
   |.out y=>Q (.out y)
   |.back z=>Q (.back z)
   |.pan p=>Q (.pan p):=by
 obtain⟨h0,W,O,F⟩:=j;obtain⟨n,rfl⟩:∃ n:Nat,k=n:=⟨k.toNat,by omega⟩;rw[ucz]at hq |-;cases n with
 |zero=>exact⟨λ_=>hq,λhb=>(by cases hb)⟩
 |succ m=>
  have S:I6.wrap (((m+1:Nat):Int)-1)=(m:Int):=by rw[cz (by omega)];omega
  have N:m<l.length:=by omega
  dsimp only[Bt,Fr.satP];rw[S,ucz];have P:l.getD m 0=l[m]:=by rw[uah,uaq N];rfl
  have t:=F (l.getD m 0) (by rw[P];exact udg N);have hb:0<=(m:Int)/\(m:Int)<(l.length:Int):=⟨by omega,by omega⟩;have q:=qo4 (bZ h (l.getD m 0));refine⟨λhz=>?_,λ_=>⟨hb,t,λw=>?_,λw=>⟨hb,?_⟩⟩⟩;exfalso;have:((m+1:Nat):Int)=0:=eq_of_beq hz;omega;have C:kM (bZ h (l.getD m 0))=false:=by
   have i:(bif (bZ h (l.getD m 0)).2.2.1 != 3 then (bZ h (l.getD m 0)).2.2.1 != 4 else Y)=true:=w;rw[q]at i;simpa using i
  have H:InvTn l (m:Int) h:=⟨by omega,by omega,O,F⟩;refine⟨H,Nat.lt_succ_self m,H,?_⟩;show Q (CS (gM h l (m:Int).toNat));rw[ucz];have e:gM h l (m+1)=gM h l m:=if_neg (by rw[C];decide);rw[<- e];exact hq;have C:kM (bZ h (l.getD m 0))=true:=by
   have i:(bif (bZ h (l.getD m 0)).2.2.1 != 3 then (bZ h (l.getD m 0)).2.2.1 != 4 else Y)=false:=w;rw[q]at i;simpa using i
  have e:gM h l (m+1)=U (l.getD m 0):=if_pos C;rw[e]at hq;exact hq
def qyj:ae prog (.scope El) nT yE MN:=
 zdi (n:=34) (id:=0) (N:=nT) (rest:=VW) (by kernel_rfl) qy3 qy2 (F:=MM) (inv:=λx=>InvTn x.1.1 x.1.2.1 x.2.1) (μ:=λx=>(x.1.2.1:Int).toNat)
  (by
   rintro⟨_,h,_⟩ Q hq;have m:(bE h).length=(aL h).length:=CO h;have q:((aL h).length:Int)<=1000000:=hq.1;have t:InvTn (bE h) ((bE h).length:Int) h:=⟨ub3 _,ue7 _,by omega,λv u=>CR u⟩;refine⟨q,Fr.satP_mono ?_ (So (bE h) ((bE h).length:Int) h t Q ?_)⟩
   ·intro r j;cases r with
    |next w=>exact⟨j.1,j.2.2⟩
    |out y=>exact j
    |back z=>exact j
    |pan p=>exact j
   rw[ucz];exact hq.2)
  (by
   rintro⟨⟨l,k,_⟩,h,_⟩ i Q hq;exact So l k h i Q hq.2)
def mr(h:aC.den):Option Int:=gM h (bE h) (bE h).length
def qA:Ct:=⟨[.d aC],[i64,.bool],λx=>((mr x.1).getD 0,(mr x.1).isSome,()),λx=>[((aL x.1).length:Int)<=1000000]⟩
def zcd:af prog 92 qA:=
 cQ (QM (run:=sq (cr prog EI 0 bw VV 0) (yE.han EI.Γ nT MN)) (fn:=f92) (c:=.seq VV (.scope El)) (ps:=[.d aC]) (rs:=[i64,.bool])
  (fr:=λx=>Jd (((aL x.1).length:Int)<=1000000) (Jv ((mr x.1).getD 0,(mr x.1).isSome,()))) (aC.dflt,()) (by kernel_rfl) (by kernel_rfl)
  (λE=>z8 (tI zN (aY _ 0)) (ae.run zN rfl qyj)) (λx=>by kernel_rfl)) _ _ (λ_ _ _ _ _ i=>aF i ⟨uT,rfl⟩)
def ke:Code->Code
 |.seq _ c=>c
 |_=>.skip
def rh:Code->Code
 |.seq c _=>c
 |_=>.skip
def JT:Code->Array Oper
 |.region _ ops _=>ops
 |_=>#[]
noncomputable def th:Code:=(f94.body.map λc=>ke (ke c)).getD .skip
noncomputable def wu:Cx:=cx [(100,jb)] [(91,dW),(149,eF),(90,fP)]
def wv:CxOK prog wu:=aP aG ⟨Ky,uT⟩ ⟨Pf,JE,Wu,uT⟩
noncomputable def UP:St->Option Tr:=
 sq (cr prog wu 0 bw (rh th) 0) (sq (cr prog wu 0 bw (rh (ke th)) 0)
  (sq (Kn prog wu 0 (JT (rh (ke (ke th)))).toList) (cr prog wu 0 bw (ke (ke (ke th))) 0)))
def Il(b1 b2:Bool)(p1 p2:PV)(v:Int):Fr (aa [i64,i64]):=
 Jb b1 (Jd (b1=Y->b1=Y) (Jd (b1=Z->True/\p1=p1) (Jd (b2=Y->b2=Y) (Jd (b2=Z->True/\p2=p1) (Jd (inR .i64 p1.n) (Jv (0,p1.n,())))))))
  (Jb b2 (Jd (b1=Y->b1=Y) (Jd (b1=Z->True/\p1=p2) (Jd (b2=Y->b2=Y) (Jd (b2=Z->True/\p2=p2) (Jd (inR .i64 p2.n) (Jv (0,p2.n,())))))))
   (Jd (b1=Y) (Jd (b2=Y) (Jv (v,0,())))))
def Q2(f:bm.den)(a b:Int):Fr (aa [i64,i64]):=
 Il (fP.bad (f,b,())) (fP.bad (f,a,())) (fP.pv (f,b,())) (fP.pv (f,a,())) (I6.wrap ((fP.f (f,b,())).1-(fP.f (f,a,())).1))
def Q1(x:ag [.d zel,.d cn]):Fr (aa [i64,i64]):=
 let c:=eF.pv (1,());let b:=dW.pv (x.1,());let a:=Q2 (dW.f (x.1,())).1 x.2.1.1 x.2.1.2.1;Jb (dW.bad (x.1,())) (Jd (inR .i64 b.n) (Jv (0,b.n,())))
  (Jb (!(jb.f (x.2.1,())).1)
   (Jb (eF.bad (1,())) (Jd (inR .i64 c.n) (Jv (0,c.n,()))) a)
   a)
def qx5(E:Env):lr prog E th UP:=
 z8 (tI wv (aY _ 0)) (z8 (tI wv (aY _ 0))
  (z8 (qw8 wv) (tI wv (aY _ 0))))
def WT:af prog 94 (bg [.d zel,.d cn] [i64,i64] Q1):=
 qgc wv (run:=UP) (fn:=f94) (A:=rh (f94.body.getD .skip)) (c:=th) (rid:=1) (ops:=JT (rh (ke (f94.body.getD .skip)))) (tp:=5) (fr:=Q1) (ps:=[.d zel,.d cn]) (rs:=[i64,i64]) ([],(0,0,()),()) (by kernel_rfl) (by kernel_rfl) (by kernel_rfl) VZ qx5 (λx=>by kernel_rfl)
def qwd{i j:Int×Int}{b1 b2:Bool}{v:Int}(t:b1=!(i.2==0))(u:b2=!(j.2==0)):
  (if b1=Z then ((0:Int),i.2,())else if b2=Z then ((0:Int),j.2,())else (v,(0:Int),())) =
   ((if i.2≠0 then ((0:Int),i.2)else if j.2≠0 then ((0:Int),j.2)else (v,(0:Int))).1,(if i.2≠0 then ((0:Int),i.2)else if j.2≠0 then ((0:Int),j.2)else (v,(0:Int))).2,()):=by
 subst t;subst u;by_cases m:i.2=0;by_cases q:j.2=0;simp[m,q];simp[m,q];simp[m]
def qbk{b:Int}(i:0<=a/\a<=4000000000000000000)(j:0<=b/\b<=4000000000000000000): -9223372036854775808<=a-b/\a-b<=9223372036854775807:=by omega
def qk2{b1 b2:Bool}{p1 p2:PV}{v:Int}(h:b1=Z->b2=Z->p2=p1)(i:inR .i64 p1.n)(j:inR .i64 p2.n):
  (Il b1 b2 p1 p2 v).ok/\(Il b1 b2 p1 p2 v).get=if b1=Z then (0,p1.n,())else if b2=Z then (0,p2.n,())else (v,0,()):=by
 cases b1 with
 |true=>exact⟨⟨λ_=>⟨λh=>(by cases h),λ_=>⟨uT,rfl⟩,λh=>h,λhb=>⟨uT,h rfl hb⟩,i,uT⟩,λh=>(by cases h)⟩,rfl⟩
 |false=>
  cases b2 with
  |true=>exact⟨⟨λh=>(by cases h),λ_=>⟨λ_=>⟨λh=>h,λh=>(by cases h),λh=>(by cases h),λ_=>⟨uT,rfl⟩,j,uT⟩,λh=>(by cases h)⟩⟩,rfl⟩
  |false=>exact⟨⟨λh=>(by cases h),λ_=>⟨λh=>(by cases h),λ_=>⟨rfl,rfl,uT⟩⟩⟩,rfl⟩
def fe(l:List aB.den)(s:cn.den):Int×Int:=
 if (iG l).isNone=Z\/jT s=Y then (0,1)
 else if (bT (cy l) s.2.1).2≠0 then (0,(bT (cy l) s.2.1).2)
 else if (bT (cy l) s.1).2≠0 then (0,(bT (cy l) s.1).2)
 else ((bT (cy l) s.2.1).1-(bT (cy l) s.1).1,0)
def Ga:Ct:=⟨[.d zel,.d cn],[i64,i64],λx=>((fe x.1 x.2.1).1,(fe x.1 x.2.1).2,()),λ_=>[]⟩
def qbj:af prog 94 Ga:=
 conv WT _ _ λw F xs vs W _=>by
  obtain⟨l,s,_⟩:=xs;by_cases hc:(iG l).isNone=Z;have hb:dW.bad (l,())=true:=hc;refine⟨⟨λ_=>⟨tS H9,uT⟩,λh=>(by have i:dW.bad (l,())=false:=h;rw[hb]at i;cases i)⟩,?_⟩;show(if dW.bad (l,())=Z then ((0:Int),(1:Int),())else _)=((fe l s).1,(fe l s).2,());unfold fe;rw[hb,if_pos rfl,if_pos (.inl hc)];have m:=ucy.2 hc;have hb:dW.bad (l,())=false:=m;have Q:=qex m;by_cases t:jT s=Z;have q:(!(jb.f (s,())).1)=false:=by show(!(jT s))=Y;rw[t];rfl
  have C:fP.bad (cy l,s.2.1,())=Z->fP.bad (cy l,s.1,())=Z->fP.pv (cy l,s.1,())=fP.pv (cy l,s.2.1,()):=by
   intro H N;have key:∀ d,fP.bad (cy l,d,())=Z->(bT (cy l) d).2=5:=λd P=>by
    have j:(!((bT (cy l) d).2==0))=true:=P;rw[zcv Q]at j |-;split;rename_i u;rw[if_pos u]at j;cases j;rfl
   show(⟨_,_,(bT (cy l) s.1).2⟩:PV)=⟨_,_,(bT (cy l) s.2.1).2⟩;rw[key _ H,key _ N]
  obtain⟨S,k2⟩:=qk2 C (tS (L8 (cy l) s.2.1)) (tS (L8 (cy l) s.1));refine⟨⟨λh=>(by have i:dW.bad (l,())=true:=h;rw[hb]at i;cases i),λ_=>⟨λh=>(by have i:(!(jb.f (s,())).1)=true:=h;rw[q]at i;cases i),λ_=>S⟩⟩,?_⟩;show(if dW.bad (l,())=Z then _ else if (!(jb.f (s,())).1)=Z then _ else (Q2 (cy l) s.1 s.2.1).get)=((fe l s).1,(fe l s).2,());rw[hb,if_neg (by decide),q,if_neg (by decide)];have hw:=cz (qbk (L9 (cy l) s.2.1) (L9 (cy l) s.1));have O:fe l s=if (bT (cy l) s.2.1).2≠0 then (0,(bT (cy l) s.2.1).2)else if (bT (cy l) s.1).2≠0 then (0,(bT (cy l) s.1).2)else ((bT (cy l) s.2.1).1-(bT (cy l) s.1).1,0):=if_neg (λh=>h.elim hc (λh=>by rw[t]at h;cases h))
  rw[O,<- hw];exact qwd rfl rfl;have q:(!(jb.f (s,())).1)=true:=by show(!(jT s))=Z;simpa using t
  refine⟨⟨λh=>(by have i:dW.bad (l,())=true:=h;rw[hb]at i;cases i),λ_=>⟨λ_=>⟨λ_=>⟨tS H9,uT⟩,λh=>(by cases h)⟩,λh=>(by have i:(!(jb.f (s,())).1)=false:=h;rw[q]at i;cases i)⟩⟩,?_⟩;show(if dW.bad (l,())=Z then _ else if (!(jb.f (s,())).1)=Z then ((0:Int),(1:Int),())else _)=((fe l s).1,(fe l s).2,());have hB:fe l s=(0,1):=if_pos (.inr (by simpa using t));rw[hb,if_neg (by decide),q,if_pos rfl,hB]
noncomputable def X2:Cx:=cx [(60,fN),(92,qA),(93,Aw),(94,Ga),(95,iC)] []
def X3:CxOK prog X2:=aP aG ⟨CN,zcd,qec,qbj,wL,uT⟩ trivial
def rH(h:aC.den)(a:Int):List (List az.den):=
 [List.take (a-0).toNat (List.drop (0:Int).toNat (aL h)),List.take (((aL h).length:Int)-I6.wrap (a+1)).toNat (List.drop (I6.wrap (a+1)).toNat (aL h))]
def yW(h:aC.den)(l:List az.den):aC.den:=(h.1,h.2.1,h.2.2.1,l,())
def I1(h x:aC.den)(t:b8.den)(day:Int):Fr (aa [i64,i64]):=
 let c:=fN.f (x,t,());let a:=Ga.f (c.1,(day,h.2.2.1.1.2.1,()),());let b:=iC.f (a.1,1000,());Jd (bL x) (Jd (bJ t)
  (Jb (c.2.1 != 0) (Jv (0,c.2.1,()))
   (Jb (a.2.1 != 0) (Jv (0,a.2.1,()))
    (Jv (b.1,b.2.1,())))))
def I0(x:ag [.d aC,.d b8]):Fr (aa [i64,i64]):=
 let h:aC.den:=x.1;let t:b8.den:=x.2.1
 let a:Int:=(qA.f (h,())).1;let i:Bool:=(qA.f (h,())).2.1
 Jd (bL h) (Jd (bJ t) (Jb ((fN.f (h,t,())).2.1 != 0) (Jv (0,(fN.f (h,t,())).2.1,()))
  (Jd (((aL h).length:Int)<=1000000)
   (Jd ((!i)=Y->0<=a/\a<((aL h).length:Int))
    (Jd ((bif !i then Z else ((aL h).getD a.toNat az.dflt).2.2.1 != 3)=Y->0<=a/\a<((aL h).length:Int))
     (Jb (bif bif !i then Z else ((aL h).getD a.toNat az.dflt).2.2.1 != 3 then Z else ((aL h).getD a.toNat az.dflt).2.2.2.2.2.1 != 1) (Jv (0,0,()))
      (Jd (0<=a/\a<((aL h).length:Int))
       (Jd (0<=(none:Option Int).getD 0/\(none:Option Int).getD 0<=a/\a<=((aL h).length:Int))
        (Jd (0<=I6.wrap (a+1)/\I6.wrap (a+1)<=((aL h).length:Int)/\((aL h).length:Int)<=((aL h).length:Int))
         (Jd ((rH h a).flatten.length<=1000000)
          (I1 h (yW h (Aw.f (rH h a,())).1) t ((aL h).getD a.toNat az.dflt).2.1)))))))))))
def qo3:af prog 62 (bg [.d aC,.d b8] [i64,i64] I0):=
 aS X3 f62
def qd(h:aC.den)(a:Nat):aC.den:=yW h ((aL h).take a++(aL h).drop (a+1))
def uv(h:aC.den)(t:b8.den)(a:Int):Int×Int:=
 if (bZ h a).2.2.1=3/\(bZ h a).2.2.2.2.2.1=1 then
  (if (c9 (qd h a.toNat) t).2=0 then
   (if (fe (c9 (qd h a.toNat) t).1 ((bZ h a).2.1,h.2.2.1.1.2.1,())).2=0 then bpF (fe (c9 (qd h a.toNat) t).1 ((bZ h a).2.1,h.2.2.1.1.2.1,())).1 1000
    else (0,(fe (c9 (qd h a.toNat) t).1 ((bZ h a).2.1,h.2.2.1.1.2.1,())).2))
   else (0,(c9 (qd h a.toNat) t).2))
 else (0,0)
def fV(h:aC.den)(t:b8.den):Int×Int:=
 if (c9 h t).2=0 then (match mr h with|none=>(0,0)|some a=>uv h t a)else (0,(c9 h t).2)
def ow:Ct:=⟨[.d aC,.d b8],[i64,i64],λx=>((fV x.1 x.2.1).1,(fV x.1 x.2.1).2,()),λx=>[bL x.1,bJ x.2.1]⟩
def Wi(h:aC.den)(l:List Int):(k:Nat)->k<=l.length->∀ v,gM h l k=U v->v∈l/\kM (bZ h v)=Z
 |0,_,_,i=>by cases i
 |k+1,m,v,i=>by
  unfold gM at i;split at i;rename_i j;cases i;refine⟨?_,j⟩;have:l.getD k 0=l[k]:=by rw[uah,uaq (by omega)];rfl
  rw[this];exact udg _;exact Wi h l k (by omega) v i
def zcc{h:aC.den}(m:mr h=U a):(0<=a/\a<((aL h).length:Int))/\kM (bZ h a)=true:=by
 obtain⟨i,j⟩:=Wi h (bE h) _ (ue6 _) a m;exact⟨CR i,j⟩
def qwc{h:aC.den}{a:Nat}(i:a<(aL h).length)(j:(aL h).length<=1000000):I6.wrap ((a:Int)+1)=((a+1:Nat):Int)/\(rH h a).flatten=(aL h).take a++(aL h).drop (a+1):=by
 have w:I6.wrap ((a:Int)+1)=((a+1:Nat):Int):=by rw[cz (by omega)];omega
 refine⟨w,?_⟩;unfold rH;rw[w,ueo,ucz,ucz,show(((aL h).length:Int)-((a+1:Nat):Int)).toNat=(aL h).length-(a+1) by omega];have e:List.take ((aL h).length-(a+1)) (List.drop (a+1) (aL h))=List.drop (a+1) (aL h):=ua3 (by rw[uc4];exact ue6 _);rw[e];simp
def zdb{h:aC.den}(j:bL h)(a:Nat):bL (qd h a):=by
 have i:List.Sublist ((aL h).take a++(aL h).drop (a+1)) (aL h):=by
  conv=>rhs;rw[<- uba a (aL h)]
  refine List.Sublist.append (List.Sublist.refl _) ?_;rw[<- List.drop_drop];exact List.drop_sublist 1 _
 refine⟨uel (List.Sublist.length_le i) j.1,j.2.1,λc hc=>j.2.2 c (i.subset hc)⟩
def NR{b:Bool}:(bif bif !b then Z else x != 3 then Z else y != 1)=Y↔b=Z/\x=3/\y=1:=by
 cases b with
 |false=>simp
 |true=>
  by_cases i:x=3;by_cases j:y=1;simp[i];simp[i];simp
def qo8{h x:aC.den}{t:b8.den}(q:bL x)(m:bJ t):(I1 h x t day).ok/\(I1 h x t day).get =
  (let r:Int×Int:=if (c9 x t).2=0 then (if (fe (c9 x t).1 (day,h.2.2.1.1.2.1,())).2=0 then bpF (fe (c9 x t).1 (day,h.2.2.1.1.2.1,())).1 1000 else (0,(fe (c9 x t).1 (day,h.2.2.1.1.2.1,())).2))else (0,(c9 x t).2)
   (r.1,r.2,())):=by
 refine aF q (aF m ?_);by_cases i:(c9 x t).2=0;refine aR (by show((c9 x t).2 != 0)=Y;simp[i]) ?_;simp only[i];by_cases j:(fe (c9 x t).1 (day,h.2.2.1.1.2.1,())).2=0;refine aR (by show((fe (c9 x t).1 (day,h.2.2.1.1.2.1,())).2 != 0)=Y;simp[j]) ⟨uT,?_⟩;simp only[j];rfl;refine aZ (by show((fe (c9 x t).1 (day,h.2.2.1.1.2.1,())).2 != 0)=Z;simp[j]) ⟨uT,?_⟩;simp only[j];rfl;refine aZ (by show((c9 x t).2 != 0)=Z;simp[i]) ⟨uT,?_⟩;simp only[i];rfl
def qo0(h:aC.den)(t:b8.den)(N:bL h)(O:bJ t):(I0 (h,t,())).ok/\(I0 (h,t,())).get=((fV h t).1,(fV h t).2,()):=by
 have hl:=N.1;refine aF N (aF O ?_);unfold fV;by_cases F:(c9 h t).2=0;refine aR (by show((c9 h t).2 != 0)=Y;simp[F]) (aF (show((aL h).length:Int)<=1000000 by omega) ?_);rw[if_pos F];cases H:mr h with
 |none=>
  have e2:(qA.f (h,())).2.1=false:=by show(mr h).isSome=Y;rw[H];rfl
  rw[e2];exact aF (λm=>by cases m) (aF (λm=>by cases m) (aZ rfl ⟨uT,rfl⟩))
 |some a=>
  obtain⟨⟨a0,C⟩,hT⟩:=zcc H;have e1:(qA.f (h,())).1=a:=by show(mr h).getD 0=a;rw[H];rfl
  have e2:(qA.f (h,())).2.1=true:=by show(mr h).isSome=Z;rw[H];rfl
  rw[e1,e2];refine aF (λ_=>⟨a0,C⟩) (aF (λ_=>⟨a0,C⟩) ?_);show _/\_=((uv h t a).1,(uv h t a).2,());cases hb:(bif bif !Z then Z else ((aL h).getD a.toNat az.dflt).2.2.1 != 3 then Z else ((aL h).getD a.toNat az.dflt).2.2.2.2.2.1 != 1)with
  |true=>
   refine aZ rfl ⟨uT,?_⟩;have S:¬ ((bZ h a).2.2.1=3/\(bZ h a).2.2.2.2.2.1=1):=λm=>by
    have i:(bif bif !Z then Z else (bZ h a).2.2.1 != 3 then Z else (bZ h a).2.2.2.2.2.1 != 1)=true:=hb;rw[NR.2 ⟨rfl,m⟩]at i;cases i
   unfold uv;rw[if_neg S];rfl
  |false=>
   obtain⟨_,k1,k2⟩:=NR.1 hb;obtain⟨n,rfl⟩:∃ n:Nat,a=n:=⟨a.toNat,by omega⟩;obtain⟨w,j⟩:=qwc (h:=h) (a:=n) (by omega) (by omega);have u:=zdb N n;have q:((rH h n).flatten).length<=1000000:=by
    rw[j];have:(aL (qd h n)).length<=500000:=u.1;exact uel this (by decide)
   have P:0<=I6.wrap ((n:Int)+1)/\I6.wrap ((n:Int)+1)<=((aL h).length:Int):=by rw[w];omega
   refine aR rfl (aF ⟨a0,C⟩ (aF ⟨ue7 _,a0,ueq C⟩ (aF ⟨P.1,P.2,ue7 _⟩ (aF q ?_))));have W:yW h (Aw.f (rH h n,())).1=qd h n:=by
    show yW h (List.flatten (rH h n))=yW h _;rw[j]
   rw[W];have:=qo8 (h:=h) (day:=(bZ h n).2.1) u O;refine⟨this.1,this.2.trans ?_⟩;unfold uv;have Q:(bZ h n).2.2.1=3/\(bZ h n).2.2.2.2.2.1=1:=⟨k1,k2⟩;rw[if_pos Q,ucz]
 refine aZ (by show((c9 h t).2 != 0)=Z;simp[F]) ⟨uT,?_⟩;rw[if_neg F];rfl
def Sh:af prog 62 ow:=
 cQ qo3 _ _ (λw F x vs j i=>by
  obtain⟨h,t,_⟩:=x;exact qo0 h t i.1 i.2)
def Sg(h:aC.den)(t:b8.den):0<=(fV h t).1/\(fV h t).1<=4000000000000000000:=by
 have z:(0:Int)<=0/\(0:Int)<=4000000000000000000:=by decide
 unfold fV;split;split;exact z;unfold uv;split;split;split;exact PL _ _ _ (by decide);exact z;exact z;exact z;exact z
def ZO(l:List aB.den)(d:Int):0<=(dS l d).1/\(dS l d).1<=4000000000000000000:=by
 unfold dS;split;exact Ey;exact L9 _ _
def qvt{b:Int}:a>4000000000000000000-b↔4000000000000000000<a+b:=by omega
def Py(w k:Int):Int×Int:=if 4000000000000000000<w+k then (0,5)else (w+k,0)
def mN(h:aC.den)(t:b8.den):Int×Int:=
 if (fV h t).2=0 then (if (dS (c9 h t).1 292195).2=0 then Py (dS (c9 h t).1 292195).1 (fV h t).1 else (0,(dS (c9 h t).1 292195).2))else (0,(fV h t).2)
def A5:Ct:=⟨[.d aC,.d b8],[i64,i64],λx=>((mN x.1 x.2.1).1,(mN x.1 x.2.1).2,()),λx=>[bL x.1,bJ x.2.1]⟩
noncomputable def WY:Cx:=cx [(62,ow),(60,fN),(72,AH)] []
def WZ:CxOK prog WY:=aP aG ⟨Sh,CN,ZP,uT⟩ trivial
def Iy(h:aC.den)(t:b8.den)(i:Bool):Fr (aa [i64,i64]):=
 let K:aa [i64,i64]:=ow.f (h,t,());let W:aa [i64,i64]:=AH.f ((fN.f (h,t,())).1,())
 Jd (bL h) (Jd (bJ t) (Jb (K.2.1 != 0) (Jv (0,K.2.1,()))
  (Jd (bL h) (Jd (bJ t) (Jb (W.2.1 != 0) (Jv (0,W.2.1,()))
   (Jb i (Jv (0,5,())) (Jv (I6.wrap (W.1+K.1),0,()))))))))
def qk6(x:ag [.d aC,.d b8]):Fr (aa [i64,i64]):=
 let a:=(x.1,x.2.1,());Iy x.1 x.2.1 (J ((AH.f ((fN.f a).1,())).1>I6.wrap (4000000000000000000-(ow.f a).1)))
def qgb:af prog 47 (bg [.d aC,.d b8] [i64,i64] qk6):=
 aS WZ f47
def qga{h:aC.den}{t:b8.den}{i:Bool}(w:bL h)(F:bJ t)(C:i=J (4000000000000000000<(dS (c9 h t).1 292195).1+(fV h t).1)):
  (Iy h t i).ok/\(Iy h t i).get=((mN h t).1,(mN h t).2,()):=by
 have k:=Sg h t;have u:=ZO (c9 h t).1 292195;refine aF w (aF F ?_);unfold mN;by_cases j:(fV h t).2=0;rw[if_pos j];refine aR (by show((fV h t).2 != 0)=Y;simp[j]) (aF w (aF F ?_));by_cases m:(dS (c9 h t).1 292195).2=0;rw[if_pos m];refine aR (by show((dS (c9 h t).1 292195).2 != 0)=Y;simp[m]) ?_;unfold Py;by_cases q:4000000000000000000<(dS (c9 h t).1 292195).1+(fV h t).1;rw[if_pos q];exact aZ (C.trans (ud7 q)) ⟨uT,rfl⟩;rw[if_neg q];refine aR (C.trans (uds q)) ⟨uT,?_⟩;show(I6.wrap ((dS (c9 h t).1 292195).1+(fV h t).1),(0:Int),())=_;rw[cz (by omega)];rw[if_neg m];exact aZ (by show((dS (c9 h t).1 292195).2 != 0)=Z;simp[m]) ⟨uT,rfl⟩;rw[if_neg j];exact aZ (by show((fV h t).2 != 0)=Z;simp[j]) ⟨uT,rfl⟩
def Pz:af prog 47 A5:=
 cQ qgb _ _ (λw F x vs j i=>by
  obtain⟨h,t,_⟩:=x;have k:=Sg h t;refine qga i.1 i.2 ?_;show J ((dS (c9 h t).1 292195).1>I6.wrap (4000000000000000000-(fV h t).1))=_;rw[cz (by omega)];exact udf.2 qvt)
def qac{h:aC.den}{c:az.den}(j:bL h)(q:(aL h).length<2000)(hc:c.2.2.2.2.1.length<=1000000):bL (Fm h c):=by
 have e:aL (Fm h c)=([]++aL h)++[c]:=rfl;refine⟨?_,j.2.1,λm i=>?_⟩;rw[e,udj,ub5];show _+1<=500000;omega;rw[e,udj,udp]at i;rcases i with i|i
 exact j.2.2 m i;cases uce.1 i;exact hc
def Uq{h:aC.den}{c:az.den}(j:bL h):bL (py h c).1:=by
 have z:bL fF:=⟨by decide,by decide,λc hc=>by cases hc⟩;unfold py;split;rename_i i;split;exact z;split;exact z;exact qac j (by omega) (OE i.1);exact z
section
attribute [local go_sem] Oper.semAt_some
structure ChC where
 p:Nat->Int
 A:Option Addr
 l:Nat
 c:Nat
def de(d:ChC):Array Value:=#[.int .i64 (d.p 0),.int .i64 (d.p 1),.int .i64 (d.p 2),.int .i64 (d.p 3),.int .i64 (d.p 4),.int .i64 (d.p 5),.int .i64 (d.p 6),.slice d.A d.l d.c,.int .i64 (d.p 7)]
def o5(d:ChC):Value:=.agg (de d)
abbrev cG:Type:=Option Addr×Nat×Nat
def ChC.set(d:ChC)(s:cG):ChC:=⟨d.p,s.1,s.2.1,s.2.2⟩
def qdf{x:az.den}(h:aA w F az x g):
  ∃ d:ChC,(∀ j u,(de d)[j]?= U u->g j u)/\d.p 0=x.1/\aA w F (.sl ak) x.2.2.2.2.1 (λ_ u=>u=.slice d.A d.l d.c) /\
   ∀ (s:cG) (Q:World) (F2:Nat->Prop),aA Q F2 (.sl ak) x.2.2.2.2.1 (λ_ u=>u=.slice s.1 s.2.1 s.2.2)->bu Q F2 az x (o5 (d.set s)):=by
 obtain⟨h0,q,t,⟨b0,b1,b2,b3,_⟩,⟨A,c,O,m⟩,C,_⟩:=h;refine⟨⟨λj=>match j with|0=>x.1|1=>x.2.1|2=>x.2.2.1|3=>x.2.2.2.1.1|4=>x.2.2.2.1.2.1|5=>x.2.2.2.1.2.2.1|6=>x.2.2.2.1.2.2.2.1|_=>x.2.2.2.2.2.1,A,x.2.2.2.2.1.length,c⟩,λj u i=>?_,rfl,⟨A,c,rfl,m⟩,λs Q F2 P=>⟨rfl,⟨λ_=>⟨_,rfl⟩,λ_=>rfl⟩,⟨rfl,h0.2⟩,⟨rfl,q.2⟩,⟨rfl,t.2⟩,⟨⟨rfl,b0.2⟩,⟨rfl,b1.2⟩,⟨rfl,b2.2⟩,⟨rfl,b3.2⟩,uT⟩,?_,⟨rfl,C.2⟩,uT⟩⟩
 rotate_left
 obtain⟨H,N,e,h⟩:=P;refine⟨H,N,?_,h⟩;show U (Value.slice s.1 s.2.1 s.2.2)=_;rw[e]
 match j,i with
 |0,i=>cases i;exact h0.1
 |1,i=>cases i;exact q.1
 |2,i=>cases i;exact t.1
 |3,i=>cases i;exact b0.1
 |4,i=>cases i;exact b1.1
 |5,i=>cases i;exact b2.1
 |6,i=>cases i;exact b3.1
 |7,i=>cases i;exact O
 |8,i=>cases i;exact C.1
 |j+9,i=>simp[de]at i
def jB(c:Nat->ChC)(day:Int)(k:Nat):List Nat:=(List.range k).filter λi=>J ((c i).p 0<=day)
def qea{c:Nat->ChC}{k:Nat}(h:(c k).p 0<=day):jB c day (k+1)=jB c day k++[k]:=by simp[jB,udy,uci,h]
def qd9{c:Nat->ChC}{k:Nat}(h:¬ (c k).p 0<=day):jB c day (k+1)=jB c day k:=by simp[jB,udy,uci];omega
def qd8(c:Nat->ChC)(day:Int)(k:Nat):(jB c day k).length<=k:=by
 have:=List.length_filter_le (λi=>J ((c i).p 0<=day)) (List.range k);rw[List.length_range]at this;exact this
def mH(c:Nat->ChC)(x:Fin len×cG):Value:=o5 ((c x.1.1).set x.2)
def zcs (n:Nat) (hn:1<=n) (l Bh oh Bd od t b off len cap:Nat) (day:Int) (c:Nat->ChC) (hreach:len<=1000000) (A:Option Addr) (hA:0<len->A=U ⟨b,off,V⟩/\b<t) (E:Fin len×cG->World->World->Prop) (J:List (Fin len×cG)->World->Prop)
  (hJ:∀ m X Y,J m X->Below X.heap.size X Y->J m Y)
  (W:World) (F:t<=W.heap.size)
  (P:∀ (k:Fin len) X,cw t Bh Bd W X->Calls prog 71 #[.slice (c k.1).A (c k.1).l (c k.1).c] X λe w'=>∃ s:cG,e=.returned (.slice s.1 s.2.1 s.2.2)/\Below X.heap.size X w' /\
   ∀ (Bx:Nat) (X0 Y:World),t<=Bx->Bx<X.heap.size->X0.heap.size<=X.heap.size->(∀ q,q≠Bx->Y.heap[q]?= w'.heap[q]?)->E (k,s) X0 Y)
  (hY:∀ m (x:Fin len×cG) X0 X,J m X0->Below X0.heap.size X0 X->E x X0 X->m.length<len->YieldAt Fence.wide (n-1) prog l #[mH c x] X λe W'=>e=.returned (.bool Z)/\J (m++[x]) W'/\cw t Bh Bd X W')
  (hBh:W.cell? ⟨Bh,oh+9,V⟩=U (.slice A len cap)) (hBd:W.cell? ⟨Bd,od,V⟩=U (.int .i64 day))
  (hc:∀ k j u,k<len->(de (c k))[j]?= U u->W.cell? ⟨b,off+(k*9+j),V⟩=U u) (h0:J [] W) :
  CallsIn Fence.wide n prog 227 #[.func (.yield l) #[] #[],.pointer (U ⟨Bh,oh,V⟩),.pointer (U ⟨Bd,od,V⟩)] W λe W'=>(∃ v,e=.returned v) /\
   ∃ xs:List (Fin len×cG),xs.map (λx=>x.1.1)=jB c day len/\J xs W':=by
 have hro:Fence.wide.round=none:=rfl;refine callsIn_of_wp func227 rfl trivial ?_ hro;simp only[ntmps227,ucp,uc7,udi,Nat.reduceAdd,Nat.reduceSub,ubm,ubn,ucx,ubw,udj,uc2];have hl1:Bh<W.heap.size:=by
  obtain⟨_,_,_,h⟩:=GU hBh;exact(uaf.1 h).1
 have hl2:Bd<W.heap.size:=by
  obtain⟨_,_,_,h⟩:=GU hBd;exact(uaf.1 h).1
 gi_wp2
 gi_loopw [9] (λi wr=>∃ (k:Nat) (m:List (Fin len×cG)),k<=len/\i=.int .i64 (k:Int)/\m.map (λx=>x.1.1)=jB c day k/\J m wr/\cw t Bh Bd W wr)
  (λi _=>((len:Int)-intOf i).toNat)
 case atStart=>exact⟨0,[],ufc _,by simp,rfl,h0,cw.refl _ _ _ _⟩
 case round=>
  obtain⟨k,m,hk,rfl,H,hJs,C⟩:=hrel;have e0:=(ubc C.2.2).trans hBd;by_cases Q:k<len
  ·obtain⟨rfl,hb⟩:=hA (by omega);have hlen:m.length<len:=by
    have:=ufo List.length H;have h2:=qd8 c day k;rw[udz]at this;omega
   have w:∀ j u,(de (c k))[j]?= U u->wr.cell? ⟨b,off+k*9+j,V⟩=U u:=λj u hj=>by
    rw[uee];exact(C.1.cell hb).trans (hc _ j u Q hj)
   have x0:=w 0 (.int .i64 ((c k).p 0)) rfl;have x1:=w 1 (.int .i64 ((c k).p 1)) rfl;have x2:=w 2 (.int .i64 ((c k).p 2)) rfl;have x3:=w 3 (.int .i64 ((c k).p 3)) rfl;have x4:=w 4 (.int .i64 ((c k).p 4)) rfl;have x5:=w 5 (.int .i64 ((c k).p 5)) rfl;have x6:=w 6 (.int .i64 ((c k).p 6)) rfl;have x7:=w 7 (.slice (c k).A (c k).l (c k).c) rfl;have x8:=w 8 (.int .i64 ((c k).p 7)) rfl;rw[uev]at x0;have O:=uca hl2 C.1.size;have S:=uca hl1 C.1.size;have hBb:Below wr.heap.size wr (wr.alloc (.cells (de (c k)) 38)):=(uff _ wr).alloc (ue6 _) _;have e1:=(hBb.cell O).trans e0;have hKb:cw t Bh Bd W (wr.alloc (.cells (de (c k)) 38)):=C.trans (cw.below hBb (uel F C.1.size) S O);have HK:=Lib.hid hKb;have HB:=Lib.hid hBb
   gi_wp2
   have hno':day<(c k).p 0:=by assumption
   have hno:¬ (c k).p 0<=day:=by omega
   exact⟨⟨k+1,m,by omega,by simp,by rw[qd9 hno,H],hJ _ _ _ hJs HB.out,HK.out⟩,by simp[intOf];omega⟩
   ·have hyes:(c k).p 0<=day:=by assumption
    refine⟨uT,?_⟩;refine(callsIn_wide.2 (P ⟨k,Q⟩ _ HK.out)).mono ?_;rintro e w1 ⟨s,rfl,hb1,hE⟩;have N:wr.heap.size<(wr.alloc (.cells (de (c k)) 38)).heap.size:=by simp
    have z4:=(hb1.block wr.heap.size N).trans (World.alloc_heap_new wr (.cells (de (c k)) 38));unfold de at z4;obtain⟨u0,u1,u2,u3,u4,u5,u6,u7,u8⟩:=zj4 λj _=>aO z4 j;have ff:∀ j,w1.frozen? ⟨wr.heap.size,j,V⟩=false:=λj=>by simp[World.frozen?,z4]
    have hW3:Below wr.heap.size wr (w1.setCell ⟨wr.heap.size,7,V⟩ (.slice s.1 s.2.1 s.2.2)):=(HB.out.trans (hb1.mono (ue2 N))).setCell (ue6 _) _;have hk3:=cw.below hW3 (uel F C.1.size) S O;have hE3:=hE wr.heap.size wr (w1.setCell ⟨wr.heap.size,7,V⟩ (.slice s.1 s.2.1 s.2.2)) (uel F C.1.size) N (ue2 N) (λq hq=>ucj _ _ q _ hq);obtain⟨fn,tmps,assign,body,hy,hR⟩:=hY m (⟨k,Q⟩,s) wr _ hJs hW3 hE3 hlen;dsimp only[mH,o5,de,ChC.set]at hy
    gi_wp2
    refine hR.mono ?_;rintro e W4 ⟨rfl,hJ4,hk4⟩
    gi_wp2
    go_roundw
    case rel=>exact⟨k+1,m++[(⟨k,Q⟩,s)],by omega,by simp,by rw[qea hyes,udt,H];rfl,hJ4,C.trans (hk3.trans hk4)⟩
    case measure=>simp[intOf];omega
  ·obtain rfl:k=len:=by omega
   gi_wp2
   go_end0
   exact⟨⟨_,rfl⟩,_,H,hJs⟩
end
section
open Go.Maps
attribute [local go_sem] Oper.semAt_some
def jA(c:Nat->ChC):List (Fin len×cG)->List Value
 |[]=>[]
 |x::l=>(de ((c x.1.1).set x.2)).toList++jA c l
def GX(c:Nat->ChC):(a b:List (Fin len×cG))->jA c (a++b)=jA c a++jA c b
 |[],_=>rfl
 |x::a,b=>by simp[jA,GX c a b]
def OH(c:Nat->ChC):(a:List (Fin len×cG))->(jA c a).length=a.length*9
 |[]=>rfl
 |x::a=>by simp[jA,de,OH c a];omega
def w8(c:Nat->ChC)(F:Nat->Prop)(y:Nat->az.den)(x:Fin len×cG)(X i:World):Prop:=
 ∃ F',bu i F' az (y x.1.1) (mH c x)/\∀ q,F' q->(F q\/X.heap.size<=q)/\∃ arr ty p,i.heap[q]?= U (.cells arr ty p)
def Fa(w:World)(c:Nat->ChC)(F:Nat->Prop)(y:Nat->az.den)(i j:List (Fin len×cG))(W:World)(v:Value)(F':Nat->Prop):Prop:=
 W.heap[w.heap.size]?= U (.cells #[v] 112 (0,0))/\W.ownsRow w.heap.size 38 9 v j.length (jA c j)/\bU W F' az (i.map λx=>y x.1.1) (jA c i) /\
  ∀ q,F' q->(F q\/w.heap.size<=q)/\v.ownBlock≠U q/\q≠w.heap.size/\∃ arr ty p,W.heap[q]?= U (.cells arr ty p)
structure CoI (w:World) (c:Nat->ChC) (F:Nat->Prop) (y:Nat->az.den) (els pre:List (Fin len×cG)) (W:World):Prop where
 row:∃ v F',Fa w c F y els pre W v F'
 bel:Below w.heap.size w W
def uU{i:Nat}{size:Nat}{k:Nat}(h:W.ownsRow i e size v k xs)(q:v.ownBlock=U j):i<=j/\∃ cur,W.heap[j]?= U (.cells cur e (0,0)):=by
 rcases h.2 with ⟨rfl,_⟩|⟨g,t,cur,rfl,hb,m,_⟩
 simp[Value.ownBlock]at q;have:g=j:=by simpa[Value.ownBlock]using q
 subst this;exact⟨hb,_,m⟩
def TO{i:Nat}{size:Nat}{k:Nat}(h:W.ownsRow i e size v k xs){o:Obj}(t:W.heap[j]?= U o)(m:∀ cur,o ≠ .cells cur e (0,0)):v.ownBlock=V\/v.ownBlock≠U j:=by
 by_cases q:v.ownBlock=U j;obtain⟨_,cur,hc⟩:=uU h q;rw[t]at hc;cases hc;exact absurd rfl (m cur);exact .inr q
def qd4{c:Nat->ChC}{y:Nat->az.den}{m u:List (Fin len×cG)}{row:Option Nat}(h:Fa w c F y m u W v F')(hg:W.grownBy W' row)(Q:∀ r,row=U r->∃ o:Obj,W.heap[r]?= U o/\o.isCells=Y):Fa w c F y m u W' v F':=by
 obtain⟨N,O,h3,P⟩:=h;have i:∀ q arr ty p,W.heap[q]?= U (Obj.cells arr ty p)->W'.heap[q]?= W.heap[q]? := λq arr ty p hq=>hg.block q (uaf.1 hq).1 (λe=>by
  obtain⟨o,C,hc⟩:=Q q e.symm;rw[hq]at C;cases C;cases hc)
 refine⟨(i _ _ _ _ N).trans N,O.kept hg ?_,h3.mono (λ_ h=>h) (λq hq=>?_),λq hq=>?_⟩;by_cases H:v.ownBlock=row;cases j:row with
 |none=>exact .inl (H.trans j)
 |some r=>
  obtain⟨o,C,hc⟩:=Q r j;obtain⟨_,cur,t⟩:=uU O (H.trans j);rw[C]at t;cases t;cases hc
 exact .inr H;obtain⟨_,_,_,arr,ty,p,hc⟩:=P q hq;exact i _ _ _ _ hc;obtain⟨S,a2,a3,arr,ty,p,hc⟩:=P q hq;exact⟨S,a2,a3,arr,ty,p,(i _ _ _ _ hc).trans hc⟩
def He{c:Nat->ChC}{y:Nat->az.den}(hB:w.heap.size<=B)(i m:List (Fin len×cG)){X t:World}{row:Option Nat}(h:CoI w c F y i m X)(hg:X.grownBy t row)(q:∀ r,row=U r->B<=r/\∃ o:Obj,X.heap[r]?= U o/\o.isCells=Y):CoI w c F y i m t:=by
 obtain⟨v,F',j⟩:=h.row;exact⟨⟨v,F',qd4 j hg λr e=>(q r e).2⟩,h.bel.grown hg h.bel.size (λk e=>uel hB (q k e).1)⟩
def qx3{x:az.den}{d:ChC}(h:bu W F az x (o5 d)):bU W F az [x] (de d).toList:=λi z hz=>by
 cases i with
 |zero=>
  simp at hz;subst hz;refine h.2.2.mono (λ_ h=>h) (λ_ _=>rfl) λj u _ m=>?_;have:(de d)[j]?= U u:=m;simpa using this
 |succ i=>simp at hz
def qd3{c:Nat->ChC}{y:Nat->az.den}{m:List (Fin len×cG)}{x:Fin len×cG}{X Y:World}(h:CoI w c F y m m X)(hb:Below X.heap.size X Y)(hF:∀ q,F q->q<w.heap.size)(S:w8 c F y x X Y):CoI w c F y (m++[x]) m Y:=by
 obtain⟨v,F',C,H,Q,N⟩:=h.row;obtain⟨F2,hr,t⟩:=S;have hs:=(uaf.1 C).1;have j:∀ q o,X.heap[q]?= U o->Y.heap[q]?= U o:=λq o hq=>(hb.block q (uaf.1 hq).1).trans hq;refine⟨⟨v,λq=>F' q\/F2 q,j _ _ C,H.kept (row:=V) ⟨hb.os,hb.tape,hb.output,hb.size,λk hk _=>hb.block k hk⟩ ?_,?_,λq hq=>?_⟩,h.bel.trans (hb.mono (ue2 hs))⟩;cases v.ownBlock with
 |none=>exact .inl rfl
 |some g=>exact .inr (by simp)
 rw[udt,GX];refine bU.append (Q.mono (λ_ h=>.inl h) λq hq=>?_) ?_ ?_;obtain⟨_,_,_,arr,ty,p,hc⟩:=N q hq;exact(j _ _ hc).trans hc.symm;rw[OH,udz];rfl;have:=qx3 hr;exact this.mono (λ_ h=>.inr h) (λ_ _=>rfl);rcases hq with hq|hq
 obtain⟨i,O,P,arr,ty,p,hc⟩:=N q hq;exact⟨i,O,P,arr,ty,p,j _ _ hc⟩;obtain⟨i,arr,ty,p,hc⟩:=t q hq;refine⟨i.elim .inl (λh=>.inr (by omega)),λe=>?_,λe=>?_,arr,ty,p,hc⟩;obtain⟨W,cur,u⟩:=uU H e;have hlt:=(uaf.1 u).1;rcases i with i|i
 have:=hF q i;omega;omega;rcases i with i|i
 have:=hF q i;omega;omega
def MD(w:World)(c:Nat->ChC)(F:Nat->Prop)(y:Nat->az.den)(a:Fin len×cG->Nat->Act)(i:List (Fin len×cG))(x:Fin len×cG)(m:Act)(W:World):Prop:=
 CoI w c F y (i++[x]) i W/\∃ j,w.heap.size<j/\W.heap[j]?= U (.cells (de ((c x.1.1).set x.2)) 38 (0,0))/\m=a x j
def qd2{c:Nat->ChC}{y:Nat->az.den}{a:Fin len×cG->Nat->Act}(hB:w.heap.size<=B)(i:List (Fin len×cG))(x:Fin len×cG)(q:Act):OwnFrom B (λ(_:Unit) W=>MD w c F y a i x q W):=λ_ X N row H hg j=>by
 obtain⟨h0,m,t,u,C⟩:=H;exact⟨He hB _ _ h0 hg j,m,t,qs u hg j,C⟩
def qde:(prog.info? 38).map (λi=>(i.zero,i.size,i.bytes))=U (U (.agg #[.int .i64 0,.int .i64 0,.int .i64 0,.int .i64 0,.int .i64 0,.int .i64 0,.int .i64 0,.slice V 0 0,.int .i64 0]),9,88):=by kernel_rfl
def GV(h:W.heap[B]?= U (.cells #[v] t (0,0))):W.cell? ⟨B,0,V⟩=U v/\W.frozen? ⟨B,0,V⟩=false:=by
 constructor<;>simp[World.cell?,World.frozen?,h]
def qt6(W:World)(arr:Array Value)(t:TypeId)(j:Nat)(u:Value)(h:arr.toList[j]?= U u):(W.alloc (.cells arr t)).cell? ((⟨W.heap.size,0,V⟩:Addr).add j)=U u:=by
 have hb:=aO (World.alloc_heap_new W (.cells arr t)) j;have i:(⟨W.heap.size,0,V⟩:Addr).add j=⟨W.heap.size,j,V⟩:=by unfold Addr.add;split<;>simp_all
 rw[i,hb];simpa using h
def qm1{X m:World}{row:Option Nat}(hg:X.grownBy m row)(h:∀ r,row=U r->∃ arr t p,X.heap[r]?= U (Obj.cells arr t p)):KeepsOthers X m:=
 ⟨hg.size,λk o i j=>(hg.block k (uaf.1 i).1 (λe=>by
  obtain⟨arr,t,p,hc⟩:=h k e.symm;rw[i]at hc;cases hc;cases j)).trans i⟩
def pJ(i:Value)(h:W.heap[B]?= U (.cells #[v] t (0,0))):(W.setCell ⟨B,0,V⟩ i).heap[B]?= U (.cells #[i] t (0,0)):=uc0 W B 0 _ t i h
def qvy{w:Nat}{t:Ty}{l:List t.den}(h:W.ownsRow w e t.size v l.length xs)(hr:bU W F t l xs):aA W (λq=>F q\/v.ownBlock=U q) (.sl t) l (λ_ u=>u=v):=by
 rcases h.2 with ⟨rfl,hn⟩|⟨g,C,cur,rfl,hb,H,O,P,h3,Q⟩
 exact⟨V,0,by rw[hn],by omega,ufc _,λi x N=>by have:=(uak.1 N).1;omega⟩;refine⟨U ⟨g,0,V⟩,C,rfl,O,P,λi x N=>⟨⟨g,0,V⟩,rfl,.inr rfl,(hr i x N).mono (λ_ h=>.inl h) (λ_ _=>rfl) λj u _ hu=>?_⟩⟩;have S:(⟨g,0,V⟩:Addr).add (i*t.size+j)=⟨g,i*t.size+j,V⟩:=by unfold Addr.add;split<;>simp_all
 rw[S,aO H];have m:=hu;rw[<- Q,ub1]at m;split at m;simpa using m;cases m
def qau(n : Nat)(hn : 2 <= n)(c : Nat -> ChC)(F : Nat -> Prop)(y : Nat -> az.den)(len : Nat)(hlen : len <= 1000000)(gf : Nat)(lb : Array Value)(eg : ∀ args w, (callFunc gf args).run prog w=.ok (.enter gf args) w)(w : World)(hF : ∀ q, F q -> q < w.heap.size)(S : List (Fin len × cG) -> Prop)(hseq : ∀ w0, Below w.heap.size w w0 -> Ac Fence.wide (n - 1) prog gf lb (λx : Fin len × cG => #[mH c x]) (w8 c F y) (Below w.heap.size) S len w0):
    CallsIn Fence.wide n prog 226 #[.slice V 0 0, .func (.func gf) #[] lb] w λe w' => ∃ v xs F', e=.returned v /\ S xs /\ Below w.heap.size w w' /\
      aA w' F' (.sl az) (xs.map λx => y x.1.1) (λ_ u => u = v) /\ ∀ q, F' q -> (F q \/ w.heap.size <= q) /\ q < w'.heap.size := by
  refine callsIn_of_wp_marks func226 rfl trivial ?_ rfl
  simp only[ntmps226, ucp, uc7, udi, Nat.reduceAdd, Nat.reduceSub, ubm, ubn, ucx, ubw, udj, uc2]
  gi_wp2
  have C : Below w.heap.size w (w.alloc (.cells #[.slice V 0 0] 112)) := (uff _ w).alloc (ue6 _) _
  have hbx := World.alloc_heap_new w (.cells #[.slice V 0 0] 112)
  have hsz : (w.alloc (.cells #[.slice V 0 0] 112)).heap.size = w.heap.size + 1 := by simp
  obtain⟨W0, hW0⟩ : ∃ W0, w.alloc (.cells #[.slice V 0 0] 112) = W0 := ⟨_, rfl⟩
  rw[hW0]at C hbx hsz |-
  have hI0 : CoI w c F y ([] : List (Fin len × cG)) [] W0 := ⟨⟨_, λ_ => False, hbx, ⟨rfl, .inl ⟨rfl, rfl⟩⟩, λi z hz => by simp at hz, λq hq => hq.elim⟩, C⟩
  refine zdc rfl (by omega) rfl trivial eg (hseq W0 C)
    (λh k => h.trans k) (λW l o o' hl ho hoc => ⟨rfl, rfl, rfl, by simp, λk hk => World.putObj_heap_other (by omega)⟩) (λ_ => rfl)
    (λm W => CoI w c F y m m W) (λm X Y row h hg hr => He C.size _ _ h hg hr) hI0
    (λm x a' W => MD w c F y (λx Bx => { tmps := #[.slice V 0 0, .func (.func gf) #[] lb, .pointer (U ⟨w.heap.size, 0, V⟩), undef, .slice V 0 0, .pointer (U ⟨Bx, 0, V⟩), .func (.func gf) #[] lb, mH c x, undef, undef, undef, undef, undef], defers := [] }) m x a' W)
    (λm x a' => qd2 C.size m x a') ?assign ?body ?done
  case assign =>
    rintro l m x X W K hi hb hE hK
    have hi2 := qd3 hi hb hF hE
    unfold mH o5 de
    gi_wp2
    obtain⟨v, F', r1, _⟩ := hi2.row
    have hlt := (uaf.1 r1).1
    exact hK _ _ ((KeepsOthers.alloc _ _).from _) ((uff _ W).alloc (ue2 hlt) _)
      ⟨He C.size _ _ hi2 (ubu W _ V) (λr e => nomatch e), W.heap.size, hlt, World.alloc_heap_new W _, rfl⟩
  case body =>
    rintro l m x a' W ⟨hi, Bx, hBx, bX, rfl⟩ hlt
    obtain⟨v, F', r1, r2, r3, r4⟩ := hi.row
    obtain⟨i0, hi0, hz0, hz1, hz2⟩ := ufi qde
    have bX' := bX
    unfold de at bX'
    obtain⟨y0, y1, y2, y3, y4, y5, y6, y7, y8⟩ := zj4 λj _ => aO bX' j
    obtain⟨hc1, hf1⟩ := GV r1
    have hlt0 := (uaf.1 r1).1
    have hnew := qt6 W (de ((c x.1.1).set x.2)) 38
    have HR := Lib.hid r3
    have HF := Lib.hid r4
    have hbelI := hi.bel
    have hv3f : ∀ (arr : Array Value) (Q : World), (W.alloc (.cells arr 38)).grownBy Q v.ownBlock -> Q.heap[w.heap.size]?= U (.cells #[v] 112 (0, 0)) := λarr Q hg =>
      (hg.block _ (by simp;omega) (λe => (TO r2 r1 (λcur e => by cases e)).elim (λh => by rw[h]at e;cases e) (λh => h e.symm))).trans ((uc9 _ _ _ hlt0).trans r1)
    unfold de at hnew
    gi_wp2_with (first
      | (gi_at_builtin;refine wpListIn_append_own_at _ rfl _ _ 112 rfl w.heap.size 38 i0 _ 9 88 underlying112 hi0 hz0 hz1 hz2 rfl (by decide) _ _ _ rfl (r2.alloc _) ⟨W.heap.size, 0, V⟩ 1 1 _ rfl rfl hnew (by simp[Value.oneCell']) (by simp only[maxLen];omega) (by omega) (by simp;omega) ?_;intro v' Q H hg3 hnil3 hat3
         have hv3 : Q.heap[w.heap.size]?= U (.cells #[v] 112 (0, 0)) := hv3f _ _ hg3
         obtain⟨hc3, hf3⟩ := GV hv3
         obtain⟨g', t, N, rfl, hbase', hgb', hr1, hr2, hr3, hr4⟩ : ∃ g' t N, v'=.slice (U ⟨g', 0, V⟩) (m.length + 1) t /\ w.heap.size <= g' /\ Q.heap[g']?= U (.cells N 38 (0, 0)) /\ m.length + 1 <= t /\ t <= maxLen /\ N.size = t * 9 /\ N.toList.take ((m.length + 1) * 9) = jA c m ++ _ := by
           rcases H.2 with ⟨_, h0⟩ | h'
           · exact absurd h0 (by omega)
           · exact h'
         go_frame)
      | gi_in)
    have O := r2.alloc (.cells (de ((c x.1.1).set x.2)) 38)
    have hgX : (W.alloc (.cells (de ((c x.1.1).set x.2)) 38)).grownBy Q v.ownBlock := hg3
    have hg4 := grownBy_setCell' Q w.heap.size (.slice (U ⟨g', 0, V⟩) (m.length + 1) t)
    have hb3 := ((uff _ W).alloc (ue2 hlt0) _).grown hgX (by simp;omega) (λk e => (uU O e).1)
    have hb4 := hb3.setCell (p := ⟨w.heap.size, 0, V⟩) (ue6 _) (.slice (U ⟨g', 0, V⟩) (m.length + 1) t)
    have P : ∀ q, F' q -> (Q.setCell ⟨w.heap.size, 0, V⟩ (.slice (U ⟨g', 0, V⟩) (m.length + 1) t)).heap[q]?= W.heap[q]? := λq hq => by
      obtain⟨_, a2, a3, arr, ty, p, hc⟩ := HF.out q hq
      have hq2 := (uaf.1 hc).1
      exact(ucj _ _ q _ a3).trans ((hgX.block q (by simp;omega) (λe => a2 e.symm)).trans (uc9 _ _ _ hq2))
    refine⟨rfl, (((KeepsOthers.alloc W _).trans (qm1 hgX λr e => ?_)).trans (KeepsOthers.setCell Q _ _)).from _, hb4, ⟨_, F', pJ _ hv3, ?_, HR.out.mono (λ_ h => h) P, λq hq => ?_⟩, hbelI.trans hb4⟩
    · obtain⟨_, cur, hc⟩ := uU O e
      exact⟨_, _, _, hc⟩
    · have h5 := H.kept hg4 (TO H hv3 (λcur e => by cases e))
      simpa[GX, jA, de]using h5
    · obtain⟨a1, a2, a3, arr, ty, p, hc⟩ := HF.out q hq
      refine⟨a1, λe => ?_, a3, arr, ty, p, (P q hq).trans hc⟩
      have hq2 := (uaf.1 hc).1
      rcases hat3 with h | h
      · exact a2 (h.symm.trans e)
      · rw[h]at e
        simp at e
        omega
  case done =>
    rintro D zs W hD hzs hi hK
    obtain⟨v, F', r1, r2, r3, r4⟩ := hi.row
    obtain⟨hc1, hf1⟩ := GV r1
    have HR := Lib.hid r3
    have HF := Lib.hid r4
    gi_wp2
    refine⟨by simp, .inl ⟨_, _, rfl, run_takeDeferred hK, ?_⟩⟩
    have hs : ∀ q arr ty p, W.heap[q]?= U (Obj.cells arr ty p) -> (W.putObj D (.deferred V)).heap[q]?= W.heap[q]? := λq arr ty p hq => World.putObj_heap_other (λe => by subst e;rw[hK]at hq;cases hq)
    have r2' : W.ownsRow w.heap.size 38 az.size v (zs.map λx => y x.1.1).length (jA c zs) := by rw[udz];exact r2
    have hd := qvy r2' HR.out
    have hcl : ∀ q, (F' q \/ v.ownBlock = U q) -> (F q \/ w.heap.size <= q) /\ ∃ arr ty p, W.heap[q]?= U (Obj.cells arr ty p) := λq hq => by
      rcases hq with hq | hq
      · obtain⟨a1, _, _, a4⟩ := HF.out q hq
        exact⟨a1, a4⟩
      · obtain⟨b1, cur, b2⟩ := uU r2 hq
        exact⟨.inr b1, _, _, _, b2⟩
    refine⟨_, results_tmp rfl _ _ _, v, zs, _, rfl, hzs, ⟨hi.bel.os, hi.bel.tape, hi.bel.output, by simpa using hi.bel.size, λk hk => (World.putObj_heap_other (by have := C.size;omega)).trans (hi.bel.block k hk)⟩, aA.mono (λ_ h => h) (λq hq => ?_) (λ_ _ _ h => h) hd, λq hq => ?_⟩
    · obtain⟨_, arr, ty, p, hc⟩ := hcl q hq
      exact hs q arr ty p hc
    · obtain⟨a1, arr, ty, p, hc⟩ := hcl q hq
      have := (uaf.1 hc).1
      exact⟨a1, by simpa using this⟩
def qdv{l:List ak.den}(hb:∀ b,F b->b<w.heap.size)(P:Below w.heap.size w W)(hx:aA w F (.sl ak) l (λ_ u=>u=v))(hf:l.length<=1000000):
  Calls prog 71 #[v] W λe w'=>∃ s:cG,e=.returned (.slice s.1 s.2.1 s.2.2)/\Below W.heap.size W w' /\
   ∃ F',aA w' F' (.sl ak) l (λ_ u=>u=.slice s.1 s.2.1 s.2.2)/\∀ q,F' q->(F q\/W.heap.size<=q)/\∃ arr ty p,w'.heap[q]?= U (.cells arr ty p):=by
 obtain⟨A,c,rfl,j,m,Q⟩:=hx;have hv:bu w F (.sl ak) l (.slice A l.length c):=⟨rfl,⟨λh=>(by cases h),λ⟨cs,h⟩=>(by cases h)⟩,A,c,rfl,j,m,Q⟩;have H:=hv.mono (λ_ h=>h) (λb h=>P.block b (hb b h));refine(Bc.2 W F (l,()) [.slice A l.length c] (λb h=>uca (hb b h) P.size) ⟨_,[],rfl,H,rfl⟩ hf).mono ?_;rintro e w' ⟨u,F',rfl,i,h1,j,m⟩;have t:=m;have C:=t.only (G:=λb=>F' b/\∃ arr ty p,w'.heap[b]?= U (.cells arr ty p)) (λb h hc=>⟨h,hc⟩) rfl;have S:aE prog w' (λb=>F' b/\∃ arr ty p,w'.heap[b]?= U (.cells arr ty p)) (λ_ _=>True) (dE (.sl ak) l) u:=fT C;have h6:=S.2;obtain⟨N,O,e2,h7⟩:=h6;subst e2;exact⟨(N,l.length,O),rfl,i,(λb=>F' b/\∃ arr ty p,w'.heap[b]?= U (.cells arr ty p)),⟨N,O,rfl,h7⟩,λq hq=>⟨(j q hq.1).1,hq.2⟩⟩
def OI{l:List az.den}(h:aA w F (.sl az) l (λ_ u=>u=v)):
  ∃ (A:Option Addr) (m:Nat) (b off:Nat) (c:Nat->ChC),v=.slice A l.length m/\(0<l.length->A=U ⟨b,off,V⟩/\F b) /\
   (∀ k j u,k<l.length->(de (c k))[j]?= U u->w.cell? ⟨b,off+(k*9+j),V⟩=U u) /\
   ∀ k x,l[k]?= U x->(c k).p 0=x.1/\aA w F (.sl ak) x.2.2.2.2.1 (λ_ u=>u=.slice (c k).A (c k).l (c k).c) /\
    ∀ (s:cG) (Y:World) (F2:Nat->Prop),aA Y F2 (.sl ak) x.2.2.2.2.1 (λ_ u=>u=.slice s.1 s.2.1 s.2.2)->bu Y F2 az x (o5 ((c k).set s)):=by
 obtain⟨A,m,h0,h1,h2,W⟩:=h;by_cases hp:0<l.length;obtain⟨ad,hA,hF,hc⟩:=W 0 l[0] (uaq hp);have q:ad.spot=none:=by
  have i:w.cell? (ad.add (0*az.size+0))=U (.int .i64 l[0].1):=hc.1.1;have he:ad.add (0*az.size+0)=ad:=by simp[Addr.add]
  rw[he]at i;unfold World.cell? at i;split at i;split at i;cases i;rename_i q;cases O:ad.spot with
  |none=>rfl
  |some _=>rw[O]at q;exact absurd rfl q
  cases i
 obtain⟨b,off,sp⟩:=ad;subst q;have C:∀ k,∃ d:ChC,∀ x,l[k]?= U x->(∀ j u,(de d)[j]?= U u->w.cell? ⟨b,off+(k*9+j),V⟩=U u)/\d.p 0=x.1/\aA w F (.sl ak) x.2.2.2.2.1 (λ_ u=>u=.slice d.A d.l d.c) /\
   ∀ (s:cG) (Y:World) (F2:Nat->Prop),aA Y F2 (.sl ak) x.2.2.2.2.1 (λ_ u=>u=.slice s.1 s.2.1 s.2.2)->bu Y F2 az x (o5 (d.set s)):=by
  intro k;cases N:l[k]? with
  |none=>exact⟨⟨λ_=>0,V,0,0⟩,λx P=>by cases P⟩
  |some x=>
   obtain⟨ad',t,_,hr⟩:=W k x N;rw[hA]at t;cases t;obtain⟨d,hd,Q⟩:=qdf hr;refine⟨d,λy hy=>?_⟩;cases hy;refine⟨λj u S=>?_,Q⟩;have:=hd j u S;rw[show az.size=9 from rfl]at this;have e:(⟨b,off,V⟩:Addr).add (k*9+j)=⟨b,off+(k*9+j),V⟩:=by unfold Addr.add;split<;>simp_all
   rw[e]at this;exact this
 obtain⟨c,H⟩:=Classical.axiomOfChoice C;exact⟨A,m,b,off,c,h0.symm,λ_=>⟨hA,hF⟩,λk j u N S=>(H k l[k] (uaq N)).1 j u S,λk x P=>(H k x P).2⟩;refine⟨A,m,0,0,λ_=>⟨λ_=>0,V,0,0⟩,h0.symm,λh=>absurd h hp,λk j u N=>absurd N (by omega),λk x P=>?_⟩;have:=(uak.1 P).1;omega
def qa(day:Int)(l:List az.den):List az.den:=l.filter λx=>J (x.1<=day)
def qeb{c:Nat->ChC}{l:List az.den}(hc:∀ k x,l[k]?= U x->(c k).p 0=x.1):(jB c day l.length).map (λk=>l.getD k az.dflt)=qa day l:=by
 have t:l=(List.range l.length).map (λk=>l.getD k az.dflt):=by
  apply List.ext_getElem;simp;intro i m u;simp[uaq m]
 unfold qa
 conv=>rhs;rw[t]
 rw[List.filter_map];congr 1;apply List.filter_congr;intro k q;have j:=ud6.1 q;have m:=hc k l[k] (uaq j);simp only[Function.comp_apply,uah,uaq j,udb];rw[m]
def qd7(n:Nat)(H:3<=n)(c:Nat->ChC)(F:Nat->Prop)(y:Nat->az.den)(len:Nat)(i:len<=1000000)(gf:Nat)(lb:Array Value)(m:∀ args w,(callFunc gf args).run prog w=.ok (.enter gf args) w)(w:World)(hF:∀ q,F q->q<w.heap.size)(S:List (Fin len×cG)->Prop)(j:∀ w0,Below w.heap.size w w0->Ac Fence.wide (n-1-1) prog gf lb (λx:Fin len×cG=>#[mH c x]) (w8 c F y) (Below w.heap.size) S len w0):
  CallsIn Fence.wide n prog 206 #[.func (.func gf) #[] lb] w λe w'=>∃ v xs F',e=.returned v/\S xs/\Below w.heap.size w w' /\
   aA w' F' (.sl az) (xs.map λx=>y x.1.1) (λ_ u=>u=v)/\∀ q,F' q->(F q\/w.heap.size<=q)/\q<w'.heap.size:=by
 refine callsIn_of_wp func206 rfl trivial ?_ rfl;simp only[ntmps206,ucp,uc7,udi,Nat.reduceAdd,Nat.reduceSub,ubm,ubn,ucx,ubw,udj,uc2]
 gi_wp2
 refine⟨uT,λ_=>by omega,?_⟩;refine(qau (n-1) (by omega) c F y len i gf lb m w hF S j).mono ?_;rintro e w' ⟨v,xs,F',rfl,t,hb,C,hq⟩
 gi_wp2
 go_ret
 exact⟨v,xs,F',rfl,t,hb,C,hq⟩
def zct (n:Nat) (hn:1<=n) (hF:∀ q,F q->q<w.heap.size) {l:List az.den} {N oh H od:Nat} (S:N<w.heap.size) (Q:H<w.heap.size) (hv:w.cell? ⟨N,oh+9,V⟩=U v) (hday:w.cell? ⟨H,od,V⟩=U (.int .i64 day)) (hl:l.length<=1000000) (hfew:∀ x∈l,x.2.2.2.2.1.length<=1000000)
  {A:Option Addr} {P b off:Nat} {c:Nat->ChC} (e0:v=.slice A l.length P) (hA:0<l.length->A=U ⟨b,off,V⟩/\F b) (hc:∀ k j u,k<l.length->(de (c k))[j]?= U u->w.cell? ⟨b,off+(k*9+j),V⟩=U u)
  (hx:∀ k x,l[k]?= U x->(c k).p 0=x.1/\aA w F (.sl ak) x.2.2.2.2.1 (λ_ u=>u=.slice (c k).A (c k).l (c k).c) /\
    ∀ (s:cG) (Y:World) (F2:Nat->Prop),aA Y F2 (.sl ak) x.2.2.2.2.1 (λ_ u=>u=.slice s.1 s.2.1 s.2.2)->bu Y F2 az x (o5 ((c k).set s)))
  (w0:World) (hw0:Below w.heap.size w w0) :
  Ac Fence.wide n prog 227 #[.pointer (U ⟨N,oh,V⟩),.pointer (U ⟨H,od,V⟩)] (λx:Fin l.length×cG=>#[mH c x]) (w8 c F λk=>l.getD k az.dflt) (Below w.heap.size) (λxs=>xs.map (λx=>x.1.1)=jB c day l.length) l.length w0:=by
 intro lp J W hW hJ hY h0;have i:=hw0.trans (hW.mono hw0.size);refine zcs n hn lp N oh H od w.heap.size b off l.length P day c hl A (λh=>⟨(hA h).1,hF b (hA h).2⟩) (w8 c F λk=>l.getD k az.dflt) J (λpre X Y hj hb=>Ah hJ hj hb) W i.size ?_ ?_
  ((ubc (i.block N S)).trans (hv.trans (by rw[e0]))) ((ubc (i.block H Q)).trans hday) (λk j u hk hj=>(ubc (i.block b (hF _ (hA (by omega)).2))).trans (hc k j u hk hj)) h0
 intro k X hX;have hk:=uaq k.2;obtain⟨_,hr,hset⟩:=hx k.1 _ hk;refine(qdv hF (i.trans hX.1) hr (hfew _ (udg k.2))).mono ?_;rintro e w' ⟨s,rfl,hb,F',hr2,hq⟩;refine⟨s,rfl,hb,λBx X0 Y h1 h2 h3 h4=>⟨F',?_,λq C=>?_⟩⟩;have hg:(l.getD k.1 az.dflt)=l[k.1]:=by rw[uah,hk];rfl
 show bu Y F' az (l.getD k.1 az.dflt) (mH c (k,s));rw[hg];refine hset s Y F' (aA.mono (λ_ h=>h) (λq C=>h4 q λe=>?_) (λ_ _ _ h=>h) hr2);rcases(hq q C).1 with h|h
 have:=hF q h;omega;omega;obtain⟨a1,arr,ty,p,hcc⟩:=hq q C;refine⟨a1.elim .inl λh=>.inr (uel h3 h),arr,ty,p,(h4 q λe=>?_).trans hcc⟩;rcases a1 with h|h
 have:=hF q h;omega;omega;intro pre x X0 X hj hb hE hlt;obtain⟨fn,tmps,m,O,hy,hR⟩:=hY pre x X0 X hj hb hE hlt;refine⟨fn,tmps,m,O,hy,hR.mono ?_⟩;rintro e W' ⟨rfl,hj2,t⟩;exact⟨rfl,hj2,t,t.block _ S,t.block _ Q⟩
def qd6(hF:∀ q,F q->q<w.heap.size){l:List az.den}{t m:Nat}(H:t<w.heap.size)(C:m<w.heap.size)(hv:w.cell? ⟨t,9,V⟩=U v)(hr:aA w F (.sl az) l (λ_ u=>u=v))(i:w.cell? ⟨m,0,V⟩=U (.int .i64 day))(P:l.length<=1000000)(j:∀ x∈l,x.2.2.2.2.1.length<=1000000):
  Calls prog 206 #[.func (.func 227) #[] #[.pointer (U ⟨t,0,V⟩),.pointer (U ⟨m,0,V⟩)]] w λe w'=>∃ u F',e=.returned u/\Below w.heap.size w w' /\
   aA w' F' (.sl az) (qa day l) (λ_ u'=>u'=u)/\∀ q,F' q->(F q\/w.heap.size<=q)/\q<w'.heap.size:=by
 obtain⟨A,S,b,off,c,W,hA,hc,Q⟩:=OI hr;refine(callsIn_wide.1 (qd7 4 (by omega) c F (λk=>l.getD k az.dflt) l.length P 227 _ (enters_of func227 (by kernel_rfl) rfl) w hF (λxs=>xs.map (λx=>x.1.1)=jB c day l.length)
  (λw0 O=>zct 2 (by omega) hF H C (oh:=0) hv i P j W hA hc Q w0 O))).mono ?_
 rintro e w' ⟨u,xs,F',rfl,hS,hb,N,hq⟩;refine⟨u,F',rfl,hb,?_,hq⟩;have:(xs.map λx=>l.getD x.1.1 az.dflt)=qa day l:=by
  rw[<- qeb (c:=c) λk x h=>(Q k x h).1,<- hS,List.map_map];rfl
 rw[<- this];exact N
end
def PU(l:List az.den):Prop:=l.length<=1000000/\∀ x∈l,x.2.2.2.2.1.length<=1000000
def Hf(_:Nat)(g:FuncId)(args:List AV)(s:St):Option Tr:=
 if g=206 then match args with
  |[.c (.fn f [.ptr i 0,.ptr k 0])]=>match s.mem i,s.mem k with
   |some (.box _ [_,_,_,_,_,_,_,_,_,.sl t l]),U (.box _ [.int .i64 day])=>
    if h:t=az then if f=227 then U (needL [PU (cA h l)] (.leaf (.val (.c (.sl az (qa day (cA h l))))) s))else V else V
   |_,_=>V
  |_=>V
 else V
def qd5:gQ prog Hf:=by
 intro d g args s t C;unfold Hf at C;split at C<;>try trivial
 rename_i hg;subst hg;split at C<;>try trivial
 rename_i f i k;split at C<;>try trivial
 rename_i ty1 c0 c1 c2 c3 c4 c5 c6 c7 c8 t l ty2 day W hm2;split at C<;>try trivial
 rename_i h;subst h;split at C<;>try trivial
 rename_i hf;subst hf;cases C;refine⟨enters_of func206 (by kernel_rfl) rfl,λE a w F γ vs Q hi hr hq=>?_⟩;obtain⟨⟨hf1,hf2⟩,hqv⟩:=hq
 match vs,hr with
 |[v1],⟨⟨_,hv1⟩,_⟩=>
  obtain⟨arr,rfl,hsz,m⟩:=hv1;obtain⟨⟨u0,hu0,_,b1,hR1,rfl⟩,⟨u1,hu1,_,b2,hR2,rfl⟩,_⟩:=m;have g1 : .pointer (U ⟨b1,0,V⟩)=γ i:=by
   have:=hR1;unfold ap at this;rw[W]at this;exact this
  have g2 : .pointer (U ⟨b2,0,V⟩)=γ k:=by
   have:=hR2;unfold ap at this;rw[hm2]at this;exact this
  have ha:arr = #[.pointer (U ⟨b1,0,V⟩),.pointer (U ⟨b2,0,V⟩)]:=by
   apply ufj;exact hsz;intro i h1 h2;have j:arr[1]?= U (.pointer (U ⟨b2,0,V⟩)):=hu1
   match i,h2 with
   |0,_=>
    rw[uam h1]at hu0;exact ud0 hu0
   |1,_=>
    rw[uam h1]at j;exact ud0 j
  subst ha;obtain⟨d1,ar1,e1,H,_,_,hs1,hcl⟩:=hi.mem.ob i _ W;obtain⟨d2,ar2,e2,N,_,_,hs2,O⟩:=hi.mem.ob k _ hm2;rw[<- g1]at e1;rw[<- g2]at e2;cases e1;cases e2;obtain⟨_,_,_,_,_,_,_,_,_,⟨x9,hx9,_,hr9⟩,_⟩:=hcl;obtain⟨⟨y0,hy0,_,hd0⟩,_⟩:=O;have P:y0=.int .i64 day:=hd0.1;subst P;refine(qd6 (dv hi) (uaf.1 H).1 (uaf.1 N).1 ((aO H 9).trans hx9) hr9 ((aO N 0).trans hy0) hf1 hf2).mono λe w2 hp=>?_;obtain⟨u,F2,rfl,hb,hr2,hq2⟩:=hp;have hBs:=nM hi;obtain⟨s1,m1⟩:=Step.below hi.mem hBs (dv hi) (F':=λq=>F q\/F2 q) hb (λ_ h=>.inl h) (λb hb'=>hb'.elim (λh=>⟨.inl h,uca (dv hi b h) hb.size⟩) (λh=>hq2 b h));have S:InvG prog E s a w2 [] (λq=>F q\/F2 q) γ:=by
   refine⟨hi.n,hi.df,?_,m1,λt=>(hi.sl t).mono s1.hF s1.hw s1.hR,hi.hg,λt=>s1.repA (hi.gh t)⟩;obtain⟨γ0,h0⟩:=hi.step;exact⟨γ0,h0.trans s1⟩
  have hr3:aA w2 (λq=>F q\/F2 q) (.sl az) (qa day (cA rfl l)) (λ_ u'=>u'=u):=aA.mono (t:=.sl az) (λ_ h=>Or.inr h) (λ_ _=>rfl) (λ_ _ _ h=>h) hr2;refine⟨_,_,_,γ,hqv,S,u,rfl,?_,hr3⟩;obtain⟨A,c,e1,_⟩:=hr2;rw[<- e1];rfl
noncomputable def Fi:FuncId->Option (Func×(Nat->St->Option Tr)):=cu [(207,(f207,bw))]
def ZU:∀ f fn Λ,Fi f=U (fn,Λ)->prog.funcs[f]?= U fn/\∀ c i,fn.body=U c->bP prog i Λ c 0:=λf fn Λ h=>by
 simp only[Fi,cu]at h;split at h;rename_i j;subst j;cases h;exact⟨by kernel_rfl,λc i _=>aY c 0⟩;cases h
noncomputable def Xz:Cx:=cW [(71,mB ak)] [] (iS (fU prog dB Fi) Hf)
def X1:CxOK prog Xz:=cZ (ps:=[]) aG ⟨Bc,uT⟩ trivial (jN (gG aH ZU) qd5)
def Tf:aC.den:=(0,0,((0,0,()),(0,0,0,0,()),[],()),[],())
def iA(h:aC.den)(d:Int):aC.den×Int:=if d<h.2.1 then (Tf,7)else ((h.1,h.2.1,h.2.2.1,qa d h.2.2.2.1,()),0)
def qx:Ct:=⟨[.d aC,.d i64],[aC,i64],λx=>((iA x.1 x.2.1).1,(iA x.1 x.2.1).2,()),λx=>[bL x.1]⟩
def BU(x:ag [.d aC,.d i64]):Fr (aa [aC,i64]):=
 let h:aC.den:=x.1;let d:Int:=x.2.1
 Jb (J (h.2.1>d)) (Jv (Tf,7,()))
  (Jd (List.length (α:=ak.den) h.2.2.1.2.2.1<=1000000)
   (Jd (PU h.2.2.2.1)
    (Jv ((h.1,h.2.1,((h.2.2.1.1.1,h.2.2.1.1.2.1,()),(h.2.2.1.2.1.1,h.2.2.1.2.1.2.1,h.2.2.1.2.1.2.2.1,h.2.2.1.2.1.2.2.2.1,()),((mB ak).f (h.2.2.1.2.2.1,())).1,()),qa d h.2.2.2.1,()),0,()))))
def qop:af prog 179 (bg [.d aC,.d i64] [aC,i64] BU):=
 aS X1 f179 (fr:=BU) (ps:=[.d aC,.d i64]) (rs:=[aC,i64])
def qon(h:aC.den)(d:Int)(j:bL h):(BU (h,d,())).ok/\(BU (h,d,())).get=((iA h d).1,(iA h d).2,()):=by
 unfold iA;by_cases i:d<h.2.1;rw[if_pos i];exact aZ (by simpa using i) ⟨uT,rfl⟩;rw[if_neg i];exact aR (by simpa using i) (aF j.2.1 (aF ⟨uel j.1 (by decide),j.2.2⟩ ⟨uT,rfl⟩))
def qoo:af prog 179 qx:=
 cQ qop _ _ (λw F x vs j i=>by
  obtain⟨h,d,_⟩:=x;exact qon h d i)
def qa0{h:aC.den}(i:bL h)(d:Int):bL (iA h d).1:=by
 unfold iA;split;exact⟨by decide,by decide,λc hc=>by cases hc⟩;refine⟨uel (List.length_filter_le _ _) i.1,i.2.1,λc hc=>i.2.2 c (List.mem_filter.1 hc).1⟩
def gH(h:aC.den)(t:b8.den)(d:Int):List aB.den×Int:=if (iA h d).2=0 then c9 (iA h d).1 t else ([],(iA h d).2)
def ov:Ct:=⟨[.d aC,.d b8,.d i64],[zel,i64],λx=>((gH x.1 x.2.1 x.2.2.1).1,(gH x.1 x.2.1 x.2.2.1).2,()),λx=>[bL x.1,bJ x.2.1]⟩
noncomputable def X4:Cx:=cx [(179,qx),(60,fN)] []
def X5:CxOK prog X4:=aP (ps:=[]) aG ⟨qoo,CN,uT⟩ trivial
abbrev lQ:Pt:=⟨21,0,⟨[(10,.d i64),(9,.d i64),(8,.d (.sl ak)),(1,.d i64)],[.x 4 142 ak,.r 4 4 0]⟩,⟨[],[.x 4 142 ak,.r 4 4 0]⟩,⟨[(5,.d .bool)],[.x 4 142 ak,.r 4 4 0]⟩⟩
def PP(z:lQ.M.X):Fr lQ.Out:=
 let i:Int:=z.1.1;let n:Int:=z.1.2.1;let l:List ak.den:=z.1.2.2.1;let p:Int:=z.1.2.2.2.1;let o:ak.den:=z.2.1
 let e:ak.den:=l.getD i.toNat ak.dflt
 Jb (J (i<n))
  (Jd (0<=i/\i<(l.length:Int)) (Jb (e.1==p) (Jv (Rd.back ((Z,()),(e,())))) (Jv (Rd.next ((I6.wrap (i+1),n,l,p,()),(o,()))))))
  (Jv (Rd.out ((),(o,()))))
def qyx:ae prog (au f131 0) lQ.M lQ PP:=ae.of_run aH (bs:=0) rfl rfl rfl (λ_=>aY _ 0) (λx=>by kernel_rfl)
def jM:ak.den:=(0,0,0,0,0,())
def dZ(p:Int):List ak.den->ak.den×Bool
 |[]=>(jM,Y)
 |c::l=>if c.1=p then (c,Z)else dZ p l
def Qv{p:Int}:{l:List ak.den}->(dZ p l).2=Y->(dZ p l).1=jM
 |[],_=>rfl
 |c::l,h=>by
  unfold dZ at h |-;split at h;cases h;rename_i i;rw[if_neg i];exact Qv h
structure InFi (i n:Int) (l:List ak.den):Prop where
 i0:0<=i
 il:i<=n
 nl:n=l.length
 big:n<=9223372036854775807
def TD(o:ak.den)(r:ak.den×Bool):Fr lQ.Out:=Jb r.2 (Jv (Rd.back ((Z,()),(r.1,())))) (Jv (Rd.out ((),(o,()))))
def MG(z:lQ.M.X):Fr lQ.Out:=Jd (InFi z.1.1 z.1.2.1 z.1.2.2.1) (TD z.2.1 (dZ z.1.2.2.2.1 (z.1.2.2.1.drop z.1.1.toNat)))
def qpq(i n:Int)(l:List ak.den)(p:Int)(o:ak.den)(q:InFi i n l)(Q:lQ.Out->Prop)(hq:(TD o (dZ p (l.drop i.toNat))).satP Q):
  (PP ((i,n,l,p,()),(o,()))).satP λ
   |.next m=>InFi m.1.1 m.1.2.1 m.1.2.2.1/\((m.1.2.1:Int)-m.1.1).toNat<(n-i).toNat/\(MG m).satP Q
   |.out y=>Q (.out y)
   |.back z=>Q (.back z)
   |.pan p=>Q (.pan p):=by
 obtain⟨O,P,rfl,H⟩:=q;refine⟨λhi=>?_,λhi=>?_⟩;have t:i<(l.length:Int):=ucw hi;obtain⟨k,rfl⟩:∃ n:Nat,i=n:=⟨i.toNat,by omega⟩;have C:k<l.length:=by omega
 have w:(k:Int).toNat=k:=by omega
 have N:((k:Int)+1).toNat=k+1:=by omega
 rw[w]at hq;have hw:I6.wrap ((k:Int)+1)=k+1:=IntWalk.i64_in _ (by omega);have F:l.getD (k:Int).toNat ak.dflt=l[k]:=by
  rw[w,uah,uaq C];rfl
 rw[ual C]at hq;rw[F,hw];refine⟨⟨by omega,by omega⟩,λhb=>?_,λhb=>?_⟩;have j:=ufe.1 hb;have e:dZ p (l[k]::l.drop (k+1))=(l[k],Z):=if_pos j;rw[e]at hq;exact hq.1 rfl;have j:=ubv.1 hb;have e:dZ p (l[k]::l.drop (k+1))=dZ p (l.drop (k+1)):=if_neg j;rw[e]at hq;have u:InFi ((k:Int)+1) (l.length:Int) l:=⟨by omega,by omega,rfl,H⟩;refine⟨u,by show((l.length:Int)-((k:Int)+1)).toNat<((l.length:Int)-(k:Int)).toNat;omega,u,?_⟩;exact hq;have t:¬ i<(l.length:Int):=ucg hi;have:l.drop i.toNat=[]:=ua2 (by omega);rw[this]at hq;exact hq.2 rfl
def qqx:ae prog (.loop (au f131 0)) lQ.M lQ MG:=by
 refine ae.loop qyx (μ:=λx=>((x.1.2.1:Int)-x.1.1).toNat) ?_ (λx Q h=>h.1);rintro⟨⟨i,n,l,p,_⟩,o,_⟩ j Q hq;exact qpq i n l p o j Q hq.2
def A6:Ct:=⟨[.d (.sl ak),.d i64],[ak,.bool],λx=>((dZ x.2.1 x.1).1,(dZ x.2.1 x.1).2,()),λ_=>[]⟩
def qk7(x:ag [.d (.sl ak),.d i64]):Fr (aa [ak,.bool]):=
 let l:List ak.den:=x.1;let p:Int:=x.2.1
 Jd (InFi 0 l.length l) (Jb (dZ p (l.drop (0:Int).toNat)).2 (Jv ((dZ p (l.drop (0:Int).toNat)).1,Z,())) (Jv (jM,Y,())))
def qku:af prog 131 A6:=
 cQ (cS aH qqx (fr:=qk7)) _ _
  (λw F x vs t _=>by
   obtain⟨l,p,_⟩:=x;obtain⟨C,u,rfl,j,_⟩:=t;have i:=mv j;have m:InFi 0 (l.length:Int) l:=⟨ue7 _,ub3 _,rfl,i⟩;refine aF m ?_;show(Jb (dZ p l).2 (Jv ((dZ p l).1,Z,())) (Jv (jM,Y,())):Fr (aa [ak,.bool])).ok/\(Jb (dZ p l).2 (Jv ((dZ p l).1,Z,())) (Jv (jM,Y,())):Fr (aa [ak,.bool])).get=((dZ p l).1,(dZ p l).2,());cases q:(dZ p l).2 with
   |true=>exact aZ rfl ⟨uT,rfl⟩
   |false=>
    rw[Qv q];exact aR rfl ⟨uT,rfl⟩)
def wY:Pc:=⟨[.d .bool,.d i64],[],λ_=>(),λx=>!x.1,λx=>⟨262+1000000,.i64,x.2.1⟩,λ_=>[]⟩
def zcl:jz prog 127 wY:=by
 refine⟨enters (fn:=f127) (by kernel_rfl) rfl rfl,λw F xs vs hb C _=>?_⟩;obtain⟨v,N,rfl,H,q,t,rfl,m,u⟩:=C;cases u;obtain⟨s,n,_⟩:=xs;have j:v=.bool s:=by
  have h:aE prog w F (λ_ _=>True) (dE .bool s) v:=fT H;exact h.2
 have i:q=.int .i64 n:=by
  have h:aE prog w F (λ_ _=>True) (dE i64 n) q:=fT m;exact h.2.1
 subst j;subst i;cases s
 ·go_enter func127,ntmps127
  go_wp2
  refine⟨rfl,.inr ⟨rfl,?_,uff _ _⟩⟩;show Ending.panicked _=Ending.panicked [{ v:=PV.val ⟨262+1000000,.i64,n⟩,recovered:=Y }];rw[WF (p:=⟨262+1000000,.i64,n⟩) (T:=262) rfl]
 ·go_enter func127,ntmps127
  go_wp2
  go_end0
  refine .inl ⟨rfl,.tuple #[],F,rfl,uff _ _,λ_ h=>h,λb h=>⟨.inl h,hb b h⟩,#[],rfl,rfl⟩
def qkw{b1 b2:Nat}{N t2:TypeId}{a0 Q P H t c j m q F O:Value}(C:b1≠b2)(h1:w.heap[b1]?= U (.cells #[a0,Q,P,H,t] N (0,0)))(h2:w.heap[b2]?= U (.cells #[c] t2 (0,0))):
  Aa (((((((w.setCell ⟨b1,0,V⟩ j).setCell ⟨b1,1,V⟩ m).setCell ⟨b1,2,V⟩ q).setCell ⟨b1,3,V⟩ F).setCell ⟨b1,4,V⟩ O).setCell ⟨b2,0,V⟩ u).drew) ((w.setRow b1 #[j,m,q,F,O]).setRow b2 #[u]):=by
 have S:∀ X:World,X.drew.os=X.os/\X.drew.tape=X.tape/\X.drew.output=X.output/\X.drew.heap=X.heap:=λ_=>⟨rfl,rfl,rfl,rfl⟩;have W:∀ (X:World) (a:Addr) (v:Value),(X.setCell a v).os=X.os/\(X.setCell a v).tape=X.tape/\(X.setCell a v).output=X.output:=λ_ _ _=>⟨rfl,rfl,rfl⟩;have d3:∀ (X:World) (b:Nat) (v:Array Value),(X.setRow b v).os=X.os/\(X.setRow b v).tape=X.tape/\(X.setRow b v).output=X.output:=λ_ _ _=>⟨rfl,rfl,rfl⟩;unfold Aa;simp only[(S _).1,(S _).2.1,(S _).2.2.1,(W _ _ _).1,(W _ _ _).2.1,(W _ _ _).2.2,(d3 _ _ _).1,(d3 _ _ _).2.1,(d3 _ _ _).2.2,ufm,and_true];have g0:=uc0 w b1 0 _ N j h1;rw[show(#[a0,Q,P,H,t]:Array Value).setIfInBounds 0 j = #[j,Q,P,H,t] from rfl]at g0;have g1:=uc0 _ b1 1 _ N m g0;rw[show(#[j,Q,P,H,t]:Array Value).setIfInBounds 1 m = #[j,m,P,H,t] from rfl]at g1;have g2:=uc0 _ b1 2 _ N q g1;rw[show(#[j,m,P,H,t]:Array Value).setIfInBounds 2 q = #[j,m,q,H,t] from rfl]at g2;have g3:=uc0 _ b1 3 _ N F g2;rw[show(#[j,m,q,H,t]:Array Value).setIfInBounds 3 F = #[j,m,q,F,t] from rfl]at g3;have g4:=uc0 _ b1 4 _ N O g3;have oo:∀ i,i≠b1->(((((w.setCell ⟨b1,0,V⟩ j).setCell ⟨b1,1,V⟩ m).setCell ⟨b1,2,V⟩ q).setCell ⟨b1,3,V⟩ F).setCell ⟨b1,4,V⟩ O).heap[i]?= w.heap[i]? := λi hi=>
  (ucj _ _ i _ hi).trans ((ucj _ _ i _ hi).trans ((ucj _ _ i _ hi).trans ((ucj _ _ i _ hi).trans (ucj _ _ i _ hi))))
 generalize ((((w.setCell ⟨b1,0,V⟩ j).setCell ⟨b1,1,V⟩ m).setCell ⟨b1,2,V⟩ q).setCell ⟨b1,3,V⟩ F).setCell ⟨b1,4,V⟩ O=X at g4 oo;have k2:=uc0 X b2 0 _ t2 u ((oo b2 (Ne.symm C)).trans h2);have r1:=ue9 w b1 _ #[j,m,q,F,O] N (0,0) h1;have r2:=ue9 (w.setRow b1 #[j,m,q,F,O]) b2 _ #[u] t2 (0,0) ((uew w b1 b2 _ (Ne.symm C)).trans h2);apply uch;intro i;by_cases i1:i=b1;subst i1;exact((ucj _ _ i _ C).trans g4).trans ((uew _ b2 i _ C).trans r1).symm;by_cases i2:i=b2;subst i2;exact k2.trans r2.symm;exact((ucj _ _ i _ i2).trans (oo i i1)).trans ((uew _ b2 i _ i2).trans (uew _ b1 i _ i1)).symm
def zb0:ToldTwo prog 126 262 .i64 5:=by
 refine⟨enters (fn:=f126) (by kernel_rfl) rfl rfl,λp q w=>?_,λb1 b2 t1 t2 o1 o2 n w C t F u H=>?_⟩
 ·refine callsD_of_wpS func126 rfl λm cs N=>?_;simp only[ntmps126,ucp,uc7,udi,Nat.reduceAdd,Nat.reduceSub,ubm,ubn,ucx,ubw,udj,uc2];apply wpS_seq;apply wpS_region;simp[wpOpsS,go_sem,recoverD,N,Exit.thenS];refine wpS_of_wp ?_
  go_wp2
  cases m
  simp_all[bodyPostS,results,results126]
 ·have hta:∀ w,(Instr.typeAssert (.iface 262 (.agg #[.int .i64 n])) 20 262 Y).run prog w=.ok (.agg #[.int .i64 n]) w:=λ_=>by kernel_rfl
  have W:∀ w,(Instr.field 262 (.agg #[.int .i64 n]) 0).run prog w=.ok (.int .i64 n) w:=λ_=>by kernel_rfl
  obtain⟨a0,O,P,Q,S,rfl⟩:∃ a0 O P Q S,o1 = #[a0,O,P,Q,S]:=⟨o1[0],o1[1],o1[2],o1[3],o1[4],by
   apply ufj;exact F;intro i t u
   match i,u with
   |0,_|1,_|2,_|3,_|4,_=>rfl⟩
  obtain⟨c0,rfl⟩:=JO H;have x0:=aO t 0;have x1:=aO t 1;have x2:=aO t 2;have x3:=aO t 3;have x4:=aO t 4;have y0:=aO u 0;simp at x0 x1 x2 x3 x4 y0;have f1:∀ j,w.frozen? ⟨b1,j,V⟩=false:=λj=>by simp[World.frozen?,t]
  have f2:w.frozen? ⟨b2,0,V⟩=false:=by simp[World.frozen?,u]
  refine callsD_of_wpS func126 rfl λm cs N=>?_;simp only[ntmps126,ucp,uc7,udi,Nat.reduceAdd,Nat.reduceSub,ubm,ubn,ucx,ubw,udj,uc2];apply wpS_seq;apply wpS_region;simp[wpOpsS,go_sem,recoverD,N,Exit.thenS];refine wpS_of_wp ?_
  go_wp2
  go_region
  go_wp2
  simp[bodyPostS,results,results126];exact qkw C t u
def Iz(x:ag [.d aC,.d b8,.d i64]):Fr (aa [zel,i64]):=
 let h:aC.den:=x.1;let t:b8.den:=x.2.1;let d:Int:=x.2.2.1
 Jd (bL h) (Jb ((qx.f (h,d,())).2.1 != 0) (Jv ([],(qx.f (h,d,())).2.1,()))
  (Jd (bL (qx.f (h,d,())).1) (Jd (bJ t) (Jv ((fN.f ((qx.f (h,d,())).1,t,())).1,(fN.f ((qx.f (h,d,())).1,t,())).2.1,())))))
def qov:af prog 129 (bg [.d aC,.d b8,.d i64] [zel,i64] Iz):=
 aS X5 f129
def qot(h:aC.den)(t:b8.den)(d:Int)(j:bL h)(m:bJ t):(Iz (h,t,d,())).ok/\(Iz (h,t,d,())).get=((gH h t d).1,(gH h t d).2,()):=by
 refine aF j ?_;unfold gH;by_cases i:(iA h d).2=0;rw[if_pos i];exact aR (by show((iA h d).2 != 0)=Y;simp[i]) (aF (qa0 j d) (aF m ⟨uT,rfl⟩));rw[if_neg i];exact aZ (by show((iA h d).2 != 0)=Z;simp[i]) ⟨uT,rfl⟩
def qou:af prog 129 ov:=
 cQ qov _ _ (λw F x vs j i=>by
  obtain⟨h,t,d,_⟩:=x;exact qot h t d i.1 i.2)
def Er(e:Int):Prop:=0<=e/\e<=20
def iH:Er 0:=⟨by decide,by decide⟩
def kD:Er 1:=⟨by decide,by decide⟩
def kE:Er 5:=⟨by decide,by decide⟩
def kF:Er 6:=⟨by decide,by decide⟩
def jE:Er 7:=⟨by decide,by decide⟩
def qgz(a b c:Int):Er (cP a b c).2:=by
 unfold cP;split
 first|exact iH|exact kD|exact kE|exact kF|exact jE
 split
 first|exact iH|exact kD|exact kE|exact kF|exact jE
 split<;>first|exact iH|exact kD|exact kE|exact kF|exact jE
def NZ:(l:List Int)->(m:Int)->Er (fj l m).2
 |[],_=>iH
 |b::r,m=>by
  unfold fj;split;exact NZ r _;exact qgz _ _ _
def qu7(v:aQ.den)(r:dG.den)(c:ak.den):Er (dJ v r c).2:=by
 unfold dJ;split;split
 first|exact iH|exact kD|exact kE|exact kF|exact jE
 split
 first|exact iH|exact kD|exact kE|exact kF|exact jE
 exact NZ _ _
 first|exact iH|exact kD|exact kE|exact kF|exact jE
def E1(v:aQ.den)(r:dG.den):(l:List ak.den)->(q:Int)->(b:Bool)->Er (ge v r l q b).2.2
 |[],_,_=>iH
 |c::l,q,b=>by
  unfold ge;split;split;split;exact E1 v r l _ _;exact E1 v r l _ _;exact E1 v r l _ _;exact qu7 _ _ _
def zdf(v:aQ.den)(r:dG.den)(l:List ak.den):Er (wl v r l).2:=by
 unfold wl;split;split<;>first|exact iH|exact kD|exact kE|exact kF|exact jE
 exact E1 _ _ _ _ _
def HA(v:aQ.den):(l:List aB.den)->Er (dj v l)
 |[]=>iH
 |s::l=>by
  unfold dj;split;split;exact HA v l;exact zdf _ _ _;exact HA v l
def Wx(d:Int):(l:List aQ.den)->Er (cq d l).2
 |[]=>jE
 |v::r=>by
  unfold cq;split
  first|exact iH|exact kD|exact kE|exact kF|exact jE
  exact Wx d r
def qug(h:aC.den)(t:b8.den):Er (c9 h t).2:=by
 unfold c9;split;split;split
 first|exact iH|exact kD|exact kE|exact kF|exact jE
 exact HA _ _;exact Wx _ _
 first|exact iH|exact kD|exact kE|exact kF|exact jE
def qo7(h:aC.den)(t:b8.den)(d:Int):Er (gH h t d).2:=by
 unfold gH;split;exact qug _ _;unfold iA;split<;>first|exact iH|exact kD|exact kE|exact kF|exact jE
def Er.inR{e:Int}(h:Er e):inR .i64 e:=by
 obtain⟨i,j⟩:=h;have e1:IntKind.i64.min=-9223372036854775808:=by decide
 have e2:IntKind.i64.max=9223372036854775807:=by decide
 unfold Go.Ab.inR;rw[e1,e2];omega
def OK(c:dD.den):Bool:=Bb c.1 c.2.1 c.2.2.1 c.2.2.2.1 c.2.2.2.2.1 c.2.2.2.2.2.1
def OS(l:List aB.den)(c:dD.den):ak.den×Int:=
 if ((dp l c.2.2.2.1).2&&(dp l c.2.2.2.1).1.2.1)=Z then
  (if (dZ c.2.2.1 (dp l c.2.2.2.1).1.2.2.2.1).2=Z then ((dZ c.2.2.1 (dp l c.2.2.2.1).1.2.2.2.1).1,0)else (jM,11))
 else (jM,11)
def qF(h:aC.den)(t:b8.den)(c:dD.den):ak.den×Int:=
 if OK c=Z then
  (if c.2.2.2.1<=c.2.2.2.2.1 then
   (if c.2.1=h.1 then (if (gH h t c.2.2.2.2.1).2=0 then OS (gH h t c.2.2.2.2.1).1 c else (jM,(gH h t c.2.2.2.2.1).2))else (jM,7))
  else (jM,4))
 else (jM,1)
def Ax:Ct:=⟨[.d aC,.d b8,.d dD],[ak,i64],λx=>((qF x.1 x.2.1 x.2.2.1).1,(qF x.1 x.2.1 x.2.2.1).2,()),λx=>[bL x.1,bJ x.2.1]⟩
noncomputable def LP:Cx:=cx [(128,Gf),(129,ov),(130,tj),(131,A6)] [(127,wY)]
def LQ:CxOK prog LP:=aP aG ⟨qt3,qou,zab,qku,uT⟩ ⟨zcl,uT⟩
def mu(b:Bool)(e:Int)(k:Fr (aa [ak,i64])):Fr (aa [ak,i64]):=
 Jb (wY.bad (b,e,())) (Jd (inR .i64 (wY.pv (b,e,())).n) (Jv ((0,0,0,0,0,()),(wY.pv (b,e,())).n,()))) k
def BR(x:ag [.d aC,.d b8,.d dD]):Fr (aa [ak,i64]):=
 let h:aC.den:=x.1;let t:b8.den:=x.2.1;let c:dD.den:=x.2.2.1
 mu (Gf.f (c,())).1 1 (mu (J (c.2.2.2.2.1>=c.2.2.2.1)) 4 (mu (c.2.1==h.1) 7 (Jd (bL h) (Jd (bJ t)
  (mu ((ov.f (h,t,c.2.2.2.2.1,())).2.1==0) (ov.f (h,t,c.2.2.2.2.1,())).2.1
   (mu (bif (tj.f ((ov.f (h,t,c.2.2.2.2.1,())).1,c.2.2.2.1,())).2.1 then (tj.f ((ov.f (h,t,c.2.2.2.2.1,())).1,c.2.2.2.1,())).1.2.1 else Y) 11
    (mu (A6.f ((tj.f ((ov.f (h,t,c.2.2.2.2.1,())).1,c.2.2.2.1,())).1.2.2.2.1,c.2.2.1,())).2.1 11
     (Jv ((A6.f ((tj.f ((ov.f (h,t,c.2.2.2.2.1,())).1,c.2.2.2.1,())).1.2.2.2.1,c.2.2.1,())).1,0,())))))))))
noncomputable def OQ:Code:=(f79.body.map λc=>ke (ke c)).getD .skip
def qei:af prog 79 (bg [.d aC,.d b8,.d dD] [ak,i64] BR):=
 qf9 LQ (run:=λs=>cr prog LP 0 bw OQ 0 s) (T:=262) (k:=.i64) (m:=5) (fn:=f79) (A:=rh (f79.body.getD .skip)) (c:=OQ) (rid:=1) (ops:=JT (rh (ke (f79.body.getD .skip)))) (td:=12) (ta:=6) (tb:=7) (fr:=BR) (ps:=[.d aC,.d b8,.d dD]) (rs:=[ak,i64]) (aC.dflt,b8.dflt,dD.dflt,())
  (by kernel_rfl) (by kernel_rfl) (by kernel_rfl) zb0 (λE=>tI LQ (aY _ 0)) (λx=>by kernel_rfl)
def wk{b:Bool}{e:Int}{k:Fr (aa [ak,i64])}{y:aa [ak,i64]}(hb:b=Z)(i:k.ok/\k.get=y):(mu b e k).ok/\(mu b e k).get=y:=aR (by show(!b)=Y;rw[hb];rfl) i
def wj{b:Bool}{e:Int}{k:Fr (aa [ak,i64])}(hb:b=Y)(i:inR .i64 e):(mu b e k).ok/\(mu b e k).get=(jM,e,()):=aZ (by show(!b)=Z;rw[hb];rfl) (aF i ⟨uT,rfl⟩)
def qeh(h:aC.den)(t:b8.den)(c:dD.den)(C:bL h)(F:bJ t):(BR (h,t,c,())).ok/\(BR (h,t,c,())).get=((qF h t c).1,(qF h t c).2,()):=by
 unfold qF;by_cases i:OK c=Z;rw[if_pos i];refine wk i ?_;by_cases j:c.2.2.2.1<=c.2.2.2.2.1;rw[if_pos j];refine wk (by simpa using j) ?_;by_cases m:c.2.1=h.1;rw[if_pos m];refine wk (by simpa using m) (aF C (aF F ?_));by_cases q:(gH h t c.2.2.2.2.1).2=0;rw[if_pos q];refine wk (by show((gH h t c.2.2.2.2.1).2==0)=Z;simpa using q) ?_;unfold OS;by_cases u:((dp (gH h t c.2.2.2.2.1).1 c.2.2.2.1).2&&(dp (gH h t c.2.2.2.2.1).1 c.2.2.2.1).1.2.1)=Z;rw[if_pos u];refine wk ((oc _ _).trans u) ?_;by_cases w:(dZ c.2.2.1 (dp (gH h t c.2.2.2.2.1).1 c.2.2.2.1).1.2.2.2.1).2=Z;rw[if_pos w];exact wk w ⟨uT,rfl⟩;rw[if_neg w];exact wj (ucy.2 w) ⟨by decide,by decide⟩;rw[if_neg u];exact wj ((oc _ _).trans (ucy.2 u)) ⟨by decide,by decide⟩;rw[if_neg q];exact wj (by show((gH h t c.2.2.2.2.1).2==0)=Y;simpa using q) (qo7 h t _).inR;rw[if_neg m];exact wj (by simpa using m) ⟨by decide,by decide⟩;rw[if_neg j];exact wj (by simpa using j) ⟨by decide,by decide⟩;rw[if_neg i];exact wj (ucy.2 i) ⟨by decide,by decide⟩
def OR:af prog 79 Ax:=
 cQ qei _ _ (λw F x vs j i=>by
  obtain⟨h,t,c,_⟩:=x;exact qeh h t c i.1 i.2)
noncomputable def XZ:Cx:=cx [(108,tl),(66,q9),(271,AA)] []
def Ya:CxOK prog XZ:=aP aG ⟨Pk,Lm,TL,uT⟩ trivial
def qif(x:ag [.d i64,.d i64,.d dm]):Fr (aa [aC,i64]):=
 Jb (bif bif bif J (x.1<1)then Z else J (x.1>1000000000)then Z else !(tl.f (x.2.1,())).1 then Z else !(q9.f (x.2.2.1,())).1) (Jv ((0,0,((0,0,()),(0,0,0,0,()),[],()),[],()),1,())) (Jd (List.length x.2.2.1.2.2.1<=1000000) (Jv ((x.1,x.2.1,(AA.f (x.2.2.1,())).1,[],()),0,())))
def qig:af prog 268 (bg [.d i64,.d i64,.d dm] [aC,i64] qif):=
 aS Ya f268
def wI(id i:Int)(t:dm.den):Bool:=bif bif bif J (id<1)then Z else J (id>1000000000)then Z else !(g8 i)then Z else !(ju t)
def og(id i:Int)(t:dm.den):aC.den×Int:=bif wI id i t then (fF,1)else ((id,i,t,[],()),0)
def Od:Ct:=⟨[.d i64,.d i64,.d dm],[aC,i64],λx=>((og x.1 x.2.1 x.2.2.1).1,(og x.1 x.2.1 x.2.2.1).2,()),λ_=>[]⟩
def VR{t:dm.den}(h:ju t=Z):t.2.2.1.length<=1000000:=by
 unfold ju at h;rw[uda,uda,uda]at h;have hc:l7 t.2.2.1=true:=h.2.2.2;unfold l7 at hc;rw[uda]at hc;have:=ucw hc.1;exact uel this.2 (by decide)
def NM{id i:Int}{t:dm.den}(h:wI id i t=Y):ju t=true:=by
 unfold wI at h;cases m:ju t;rw[m]at h;cases j:(bif bif J (id<1)then Z else J (id>1000000000)then Z else !(g8 i))<;>rw[j]at h<;>cases h
 rfl
def qbn:af prog 268 Od:=conv qig _ _ (λ_ _ x _ _ _=>by
 obtain⟨id,i,t,_⟩:=x;show _/\_=((og id i t).1,(og id i t).2,());unfold og;cases h:wI id i t;exact aR h (aF (VR (NM h)) ⟨uT,rfl⟩);exact aZ h ⟨uT,rfl⟩)
def NV(id i:Int)(t:dm.den):bL (og id i t).1:=by
 unfold og;cases h:wI id i t;exact⟨by show 0<=500000;omega,VR (NM h),λc hc=>by cases hc⟩;have z:bL fF:=⟨by decide,by decide,λc hc=>by cases hc⟩;exact z
def FZ:Ct:=⟨[.d zjv],[i64],λx=>(nW x.1,()),λ_=>[]⟩
def Gv:Ct:=⟨[.d ar],[i64],λx=>(oR x.1,()),λ_=>[]⟩
def qq(f:aD.den)(g:ar.den):Bool:=bif g.1.2.1==mU f then J (g.1.2.2.2.2.1>=cC f)else Y
def FW:Ct:=⟨[.d ar,.ptr aD],[.bool],λx=>(qq x.2.1 x.1,()),λ_=>[]⟩
def qbi:af prog 270 FZ:=
 conv (aS aH f270 (fr:=λx=>Jv (nW x.1,())) (ps:=FZ.ps) (rs:=[i64])) _ _ (λ_ _ _ _ _ _=>⟨uT,rfl⟩)
def qth:af prog 287 Gv:=
 conv (aS aH f287 (fr:=λx=>Jv (oR x.1,())) (ps:=Gv.ps) (rs:=[i64])) _ _ (λ_ _ _ _ _ _=>⟨uT,rfl⟩)
def qaj:af prog 280 FW:=
 conv (aS aH f280 (fr:=λx=>Jv (qq x.2.1 x.1,())) (ps:=FW.ps) (rs:=[.bool])) _ _ (λ_ _ _ _ _ _=>⟨uT,rfl⟩)
noncomputable def XM:Cx:=cx [(308,G3),(140,fM)] []
def XN:CxOK prog XM:=aP aG ⟨qv9,oT,uT⟩ trivial
abbrev pp:Pt:=⟨28,2,⟨[(14,.d i64),(13,.d i64),(12,.d (.sl ah)),(6,.d i64),(1,.d i64),(5,.d i64),(9,.d i64),(0,.d (.sl ah))],[]⟩,⟨[(6,.d i64),(1,.d i64),(9,.d i64),(0,.d (.sl ah))],[]⟩,⟨[],[]⟩⟩
noncomputable def R8:Code:=((dC (au f304 0) 0).getD .skip)
abbrev DF:Type:=ag [.d i64,.d i64,.d i64,.d i64,.d (.sl ah)]×cR []
def vY(e:ah.den)(s:DF):Fr DF:=
 let a:=s.1.2;Jd (¬a.2.1<0) (Jv ((I6.wrap (s.1.1+(G3.f (e,a.1,a.2.1,())).1),a.1,a.2.1,a.2.2.1,a.2.2.2.1,()),()))
def Lx(x:pp.M.X):Int×List ah.den×DF:=(x.1.1,x.1.2.2.1,x.1.2.2.2,x.2)
def IH(x:pp.M.X):Prop:=x.1.2.1=(x.1.2.2.1.length:Int)
def TF(s:DF):pp.E.X:=((s.1.1,s.1.2.1,s.1.2.2.2.1,s.1.2.2.2.2.1,()),())
def qr0:ae prog (.loop R8) pp.M pp (FF vY Lx IH TF):=
 LF XN (λ_ _=>.n .o) ah.dflt (λx=>x.1.2.1) (λx s=>((I6.wrap (x.1.1+1),x.1.2.1,x.1.2.2.1,s.1),s.2)) (λ_ h=>h)
def zd1(Γ:Gm):St->Option Tr:=pp.han Γ pp.M (FF vY Lx IH TF)
abbrev v9:Pt:=⟨33,0,⟨[(15,.d i64),(14,.d i64),(13,.d (.sl ah))],[.x 3 44 ah,.r 3 3 0,.y 5 57 [(U 44,ah)],.r 5 5 0]⟩,⟨[],[.x 3 44 ah,.r 3 3 0,.y 5 57 [(U 44,ah)],.r 5 5 0]⟩,⟨[],[]⟩⟩
abbrev zh:Type:=ag []×cR [.x 3 44 ah,.r 3 3 0,.y 5 57 [(U 44,ah)],.r 5 5 0]
def wb(e:ah.den)(s:zh):Fr zh:=
 let b:=s.2.2.1.1;let a:=(e.1,e.2.1,e.2.2.1,e.2.2.2.1,e.2.2.2.2.1,e.2.2.2.2.2.1,e.2.2.2.2.2.2.1,I6.wrap ((BitVec.ofInt I6.bits e.2.2.2.2.2.2.2.1 &&& BitVec.ofInt I6.bits s.2.1.2.2.2.2.2.2.2.1).toNat:Int),());Jd (b.length + [a].length<=maxLen/\(b.length + [a].length)*72<=140737488355328) (Jv ((),s.2.1,(b++[a],()),()))
def Wo(x:v9.M.X):Int×List ah.den×zh:=(x.1.1,x.1.2.2.1,x.1.2.2.2,x.2)
def Re(x:v9.M.X):Prop:=x.1.2.1=(x.1.2.2.1.length:Int)
def qvm(s:zh):v9.E.X:=((),s.2.1,(s.2.2.1.1,()),())
def qss:ae prog (.loop (au f301 0)) v9.M v9 (FF wb Wo Re qvm):=
 LF aH (λ_ _=>.n .o) ah.dflt (λx=>x.1.2.1) (λx s=>((I6.wrap (x.1.1+1),x.1.2.1,x.1.2.2.1,s.1),s.2)) (λ_ h=>h)
abbrev lS:Pt:=⟨28,0,⟨[(9,.d i64),(0,.d (.sl ah)),(1,.d i64)],[]⟩,⟨[],[]⟩,⟨[(4,.d .bool)],[]⟩⟩
def V6(day i:Int)(l:List ah.den)(s:Int):Int:=l.foldl (λs t=>I6.wrap (s+CZ t day i)) s
def OU(day p i:Int)(j:List ah.den):(l:List ah.den)->(s:Int)->kJ vY l ((s,day,p,i,j,()),())=((V6 day p l s,day,p,i,j,()),())
 |[],_=>rfl
 |t::l,s=>OU day p i j l (I6.wrap (s+CZ t day p))
def OV(day p i:Int)(j:¬ p<0)(m:List ah.den):(l:List ah.den)->(s:Int)->pg vY l ((s,day,p,i,m,()),())
 |[],_=>trivial
 |t::l,s=>⟨⟨j,uT⟩,OV day p i j m l (I6.wrap (s+CZ t day p))⟩
abbrev qgm(i:Int)(l:List ah.den)(day:Int):pp.M.X:=((0,((List.length l:Nat):Int),l,0,day,i,i,l,()),())
def QD(x:lS.M.X):Fr lS.Out:=
 let b:=qgm x.1.1 x.1.2.1 x.1.2.2.1;let a:=kJ vY (List.drop 0 x.1.2.1) ((0,x.1.2.2.1,x.1.1,x.1.1,x.1.2.1,()),());Jb (J (x.1.1<8)) (Jd (InL (IH b) (Lx b))
  (Jd (pg vY (List.drop 0 x.1.2.1) ((0,x.1.2.2.1,x.1.1,x.1.1,x.1.2.1,()),()))
   (Jb (J (a.1.1>10000)) (Jv (Rd.back ((Z,()),())))
    (Jv (Rd.next ((I6.wrap (a.1.2.2.2.1+1),a.1.2.2.2.2.1,a.1.2.1,()),()))))))
  (Jv (Rd.out ((),())))
def qy9:ae prog (au f304 0) lS.M lS QD:=
 ae.of_run aH (bs:=0) (Λ:=λ_=>zd1 dB.Γ) rfl rfl rfl (λE=>oX _ 0 λi b hb=>by
  match i,hb with
  |0,hb=>
   have e:U R8=U b:=by rw[<- hb];kernel_rfl
   cases e;exact ae.han aH rfl qr0
  |i+1,hb=>exact absurd (ot hb) (by
   have:ce (au f304 0)=1:=by kernel_rfl
   omega)) (λx=>by kernel_rfl)
def tJ(l:List ah.den)(day:Int):Nat->Int->Bool
 |0,_=>Y
 |n+1,p=>J (V6 day p l 0>10000) || tJ l day n (p+1)
def Hk(l:List ah.den)(day:Int):Bool:=tJ l day 8 0
def w9(i:Int)(l:List ah.den):Prop:=0<=i/\i<=8/\((List.length l:Nat):Int)<=9223372036854775807
def MU(x:lS.M.X):Fr lS.Out:=
 Jd (w9 x.1.1 x.1.2.1) (Jb (tJ x.1.2.1 x.1.2.2.1 (8-x.1.1).toNat x.1.1) (Jv (Rd.back ((Z,()),()))) (Jv (Rd.out ((),()))))
def qp9 (i:Int) (l:List ah.den) (day:Int) (m:w9 i l) (Q:lS.Out->Prop) (hq:(Jb (tJ l day (8-i).toNat i) (Jv (Rd.back ((Z,()),()))) (Jv (Rd.out ((),()))):Fr lS.Out).satP Q) :
  (QD ((i,l,day,()),())).satP λ
   |.next q=>w9 q.1.1 q.1.2.1/\(8-q.1.1).toNat<(8-i).toNat/\(MU q).satP Q
   |.out y=>Q (.out y)
   |.back z=>Q (.back z)
   |.pan p=>Q (.pan p):=by
 obtain⟨F,H,u⟩:=m;by_cases hi:i<8;refine⟨λ_=>⟨⟨rfl,ue7 _,ub3 _,u⟩,OV day i i (by omega) l (List.drop 0 l) 0,?_⟩,λh=>absurd hi (ucg h)⟩;have hw:I6.wrap (i+1)=i+1:=IntWalk.i64_in _ (by omega);rw[OU,uec];have t:(8-i).toNat=(8-(i+1)).toNat+1:=by omega
 rw[t]at hq;dsimp only[tJ]at hq;refine⟨λhb=>?_,λhb=>?_⟩;have j:=hb;rw[j]at hq;exact hq.1 rfl;have j:=hb;rw[j,Bool.false_or]at hq;rw[hw];have w:w9 (i+1) l:=⟨by omega,by omega,u⟩;have C:(8-(i+1)).toNat<(8-i).toNat:=by omega
 exact⟨w,C,w,hq⟩;refine⟨λh=>absurd (ucw h) hi,λ_=>?_⟩;have t:(8-i).toNat=0:=by omega
 rw[t]at hq;exact hq.2 rfl
def qrz:ae prog (.loop (au f304 0)) lS.M lS MU:=by
 refine ae.loop qy9 (μ:=λx=>(8-x.1.1).toNat) ?_ (λx Q h=>h.1);rintro⟨⟨i,l,day,_⟩,_⟩ j Q hq;exact qp9 i l day j Q hq.2
def Of:Ct:=⟨[.d (.sl ah),.d i64],[.bool],λx=>(Hk x.1 x.2.1,()),λ_=>[]⟩
def qep:af prog 304 Of:=
 conv (cS aH qrz (ps:=[.d (.sl ah),.d i64]) (fr:=λx=>Jd (w9 0 x.1) (Jb (tJ x.1 x.2.1 (8-(0:Int)).toNat 0) (Jv (Z,())) (Jv (Y,()))))) _ _ (λw F x vs j _=>by
  obtain⟨l,day,_⟩:=x;obtain⟨v,q,rfl,m,_⟩:=j;have i:((List.length l:Nat):Int)<=9223372036854775807:=mv m;refine aF ⟨by omega,by omega,i⟩ ?_;cases hc:Hk l day;exact aR hc ⟨uT,rfl⟩;exact aZ hc ⟨uT,rfl⟩)
def yw(x t:ah.den)(all:List ah.den):Bool:=bif (fM.f (t.2.2.1,x.2.2.1.1,())).1 then Hk all x.2.2.1.1 else Y
def G1:Ct:=⟨[.d ah,.ptr ah,.ptr (.sl ah)],[.bool],λx=>(yw x.1 x.2.1 x.2.2.1,()),λ_=>[]⟩
noncomputable def XO:Cx:=cx [(304,Of),(140,fM)] []
def XP:CxOK prog XO:=aP aG ⟨qep,oT,uT⟩ trivial
def qvs:af prog 303 G1:=
 conv (aS XP f303 (fr:=λx=>Jv (yw x.1 x.2.1 x.2.2.1,())) (ps:=G1.ps)) _ _ (λ_ _ _ _ _ _=>⟨uT,rfl⟩)
def Dy(t x:ah.den):ah.den:=(x.1,x.2.1,x.2.2.1,x.2.2.2.1,x.2.2.2.2.1,x.2.2.2.2.2.1,x.2.2.2.2.2.2.1,I6.wrap ((BitVec.ofInt I6.bits x.2.2.2.2.2.2.2.1 &&& BitVec.ofInt I6.bits t.2.2.2.2.2.2.2.1).toNat:Int),())
def Fs(l:List ah.den)(t:ah.den):List ah.den:=[t]++l.map (Dy t)
def pi(l:List ah.den)(t:ah.den):Bool:=bif t.2.1 != 1 then Y else (Fs l t).any λx=>yw x t (Fs l t)
def TH(t:ah.den):(l a:List ah.den)->kJ wb l ((),t,(a,()),())=((),t,(a++l.map (Dy t),()),())
 |[],a=>by rw[List.map_nil,udo];rfl
 |x::l,a=>by
  have h:=TH t l (a++[Dy t x]);rw[ucq]at h;exact h
def TI(t:ah.den):(l a:List ah.den)->a.length+l.length<=1000000->pg wb l ((),t,(a,()),())
 |[],_,_=>trivial
 |x::l,a,h=>by
  rw[uc7]at h;refine⟨⟨⟨?_,?_⟩,uT⟩,TI t l (a++[Dy t x]) (by rw[ub5,ua7];omega)⟩;show a.length+1<=maxLen;unfold maxLen;omega;show(a.length+1)*72<=140737488355328;omega
abbrev PB(l:List ah.den)(t:ah.den):v9.M.X:=((0,((List.length l:Nat):Int),l,()),t,([t],()),())
abbrev qZ(l:List ah.den)(t:ah.den):zh:=kJ wb (List.drop 0 l) ((),t,([t],()),())
noncomputable def XQ:Cx:=cx [(114,fA ah),(303,G1)] []
def XR:CxOK prog XQ:=aP aG ⟨Fu,qvs,uT⟩ trivial
abbrev Nz:List PT:=[.d (.sl ah),.d ah]
def Ow:Ct:=⟨Nz,[.bool],λx=>(pi x.1 x.2.1,()),λx=>[x.1.length<=100000]⟩
def qvu:af prog 301 Ow:=
 conv (cS XR qss (ps:=Nz) (rs:=[.bool]) (fr:=λx=>Jb (x.2.1.2.1 != 1) (Jv (Y,())) (Jd (InL (Re (PB x.1 x.2.1)) (Wo (PB x.1 x.2.1))) (Jd (pg wb (List.drop 0 x.1) ((),x.2.1,([x.2.1],()),())) (Jd (∀ y:aa [ah],fi [ah] y->av ([]:List Prop)) (Jv ((qZ x.1 x.2.1).2.2.1.1.any (λn=>yw n (qZ x.1 x.2.1).2.1 (qZ x.1 x.2.1).2.2.1.1),()))))))) _ _ (λw F x vs j h=>by
  obtain⟨l,t,_⟩:=x;have i:List.length (α:=ah.den) l<=100000:=h;show _/\_=(pi l t,());unfold pi;cases hc:t.2.1 != 1
  ·refine aR hc (aF ⟨rfl,ue7 _,ub3 _,?_⟩ (aF (TI t (List.drop 0 l) [t] (by rw[uec,ua7];omega)) (aF (λ_ _=>uT) ⟨uT,?_⟩)));show((List.length (α:=ah.den) l:Nat):Int)<=_;omega
   ·show((qZ l t).2.2.1.1.any (λn=>yw n (qZ l t).2.1 (qZ l t).2.2.1.1),())=_;have e:qZ l t=((),t,(Fs l t,()),()):=by
     show kJ wb (List.drop 0 l) _=_;rw[uec,TH];rfl
    rw[e];rfl
  exact aZ hc ⟨uT,rfl⟩)
def z9(s:aq.den)(t:ah.den):Bool:=(jW s).any λx=>x.1==t.1
def W6(s:aq.den)(l:List ah.den):aq.den:=(s.1,s.2.1,s.2.2.1,l,s.2.2.2.2.1,())
def kC(s:aq.den)(f:aD.den):aq.den×Int:=
 bif z9 s (fD f)then (s,8)else bif J (((List.length (jW s):Nat):Int)>=100)then (s,2)else bif pi (jW s) (fD f)then (s,13)
  else (W6 s (iT (λt=>t.1) (jW s) (fD f)),0)
abbrev gS:List PT:=[.d aD,.d aq]
def AE:Ct:=⟨[.d ah],[i64],λx=>(x.1.1,()),λ_=>[]⟩
def G7:Ct:=⟨[.d ah,.pk 299,.ptr aD],[.bool],λx=>(x.1.1==(fD x.2.2.1).1,()),λ_=>[]⟩
def We:af prog 299 AE:=
 conv (aS aH f299 (fr:=λx=>Jv (x.1.1,())) (ps:=AE.ps) (rs:=[i64])) _ _ (λ_ _ _ _ _ _=>⟨uT,rfl⟩)
noncomputable def XS:Cx:=cx [(299,AE)] []
def XT:CxOK prog XS:=aP aG ⟨We,uT⟩ trivial
def zb7:af prog 300 G7:=
 conv (aS XT f300 (fr:=λx=>Jv (x.1.1==(fD x.2.2.1).1,())) (ps:=G7.ps) (rs:=[.bool])) _ _ (λ_ _ _ _ _ _=>⟨uT,rfl⟩)
noncomputable def XU:Cx:=cx [(114,fA ah),(299,AE),(300,G7),(301,Ow),(302,tx ah)] []
def XV:CxOK prog XU:=aP aG ⟨Fu,We,zb7,qvu,qwo,uT⟩ trivial
def Om:Ct:=⟨gS,[aq,i64],λx=>((kC x.2.1 x.1).1,(kC x.2.1 x.1).2,()),λ_=>[]⟩
def qk5(x:ag gS):Fr (aa [aq,i64]):=
 let c:=([]:List Prop);let b:=fD x.1;let a:=jW x.2.1;Jd (∀ y:aa [ah],fi [ah] y->av c) (Jb (z9 x.2.1 b) (Jv (x.2.1,8,())) (Jb (J (((List.length a:Nat):Int)>=100)) (Jv (x.2.1,2,()))
  (Jd (a.length<=100000) (Jb (pi a b) (Jv (x.2.1,13,()))
   (Jd (∀ y:aa [ah],fi [ah] y->av c) (Jd (a.length<=100000) (Jv (W6 x.2.1 (iT (λt=>t.1) a b),0,()))))))))
def qfy:af prog 298 Om:=
 conv (aS XV f298 (fr:=qk5) (ps:=gS) (rs:=[aq,i64])) _ _ (λ_ _ x _ _ _=>by
  obtain⟨f,s,_⟩:=x;show _/\_=((kC s f).1,(kC s f).2,());unfold kC;refine aF (λ_ _=>uT) ?_;cases m:z9 s (fD f);refine aR rfl ?_;cases j:J (((List.length (jW s):Nat):Int)>=100);have i:(jW s).length<=100000:=by have:=ucg j;omega
  refine aR rfl (aF i ?_);cases q:pi (jW s) (fD f);exact aR rfl (aF (λ_ _=>uT) (aF i ⟨uT,rfl⟩));exact aZ rfl ⟨uT,rfl⟩;exact aZ rfl ⟨uT,rfl⟩;exact aZ rfl ⟨uT,rfl⟩)
def ky(s:aq.den)(f:aD.den):aq.den×Int:=bif J (hN f<=mg s)then (s,12)else ((s.1,s.2.1,s.2.2.1,s.2.2.2.1,hN f,()),0)
def Oj:Ct:=⟨gS,[aq,i64],λx=>((ky x.2.1 x.1).1,(ky x.2.1 x.1).2,()),λ_=>[]⟩
def qft:af prog 313 Oj:=
 conv (aS aH f313 (fr:=λx=>Jb (J (hN x.1<=mg x.2.1)) (Jv (x.2.1,12,())) (Jv ((x.2.1.1,x.2.1.2.1,x.2.1.2.2.1,x.2.1.2.2.2.1,hN x.1,()),0,()))) (ps:=gS) (rs:=[aq,i64])) _ _ (λ_ _ x _ _ _=>by
  obtain⟨f,s,_⟩:=x;show _/\_=((ky s f).1,(ky s f).2,());unfold ky;cases i:J (hN f<=mg s);exact aR i ⟨uT,rfl⟩;exact aZ i ⟨uT,rfl⟩)
end Go.Proofs.YtdokapnnagbehaaGreat
