/-
  Parts of the proof, one behind the other.
-/
import Derived.Test.YtmcjmjbeknbddaaGreatMg
import Derived.Deep.RegionLaw
import Derived.LoopN
set_option linter.all false
set_option maxRecDepth 100000
set_option maxHeartbeats 4000000
open Go Go.RowKit
variable {T α σ ρ β:Type} {P:Program} {ad:Addr} {arr cs cur:Array Value} {f:FuncId} {x a y day:Int} {k:IntKind} {l:List Int} {xs vs news:List Value} {off i n b c d j B m len:Nat} {F F' K:Nat->Prop} {R g R':Nat->Value->Prop} {o:Oper} {p:Prop} {e ety t ty el:TypeId} {v u vx:Value} {w w' W' W:World}
namespace Go.Proofs.YtmcjmjbeknbddaaGreat
open Go Go.Ab Go.RowKit Go.Proofs Tryz
open Go.Ab.Fr renaming val->Jv,need->Jd,br->Jb
abbrev J7:Ty:=.pair i64 .bool
noncomputable def YA:Cx:=cx [(154,ko),(114,AT)] []
def EN:CxOK prog YA:=aP aG ⟨z7,O5,uT⟩ trivial
abbrev rU:Pt:=⟨21,0,⟨[(9,.d i64),(8,.d i64),(7,.d (.sl ah))],[.o 3 dL J7]⟩,⟨[],[]⟩,⟨[(2,.d .bool)],[]⟩⟩
def Ei (k:Int×(List ah.den)) (b:Prop) (i:Int) (e:ah.den) (s:(List J7.den)):Fr (((List J7.den)) ⊕ rU.R.X):=
 Jd b (Jb (ip s e.1 false) (Jv (.inr ((true,()),()))) (Jd (s.length<maxLen) (Jv (.inl (ec s e.1 true)))))
def Nt:rU.M.X->Fr rU.Out:=FK (λx=>(x.1.1,(x.1.2.1,x.1.2.2.1),x.2.1)) (λk=>k.1) (λk=>k.2) Ei (λk s=>((),())) (λ_ y=>Rd.back y) ([]) (aW _,bN _)
def qtd:ae prog (.loop (au f106 0)) rU.M rU Nt:=
 lm EN (λi k s=>((i,k.1,k.2,()),s,())) ah.dflt
def qmr:=λk s=>da (Ei k True) 0 k.2 s
def T5:=λk s=>eJ (Ei k True) 0 k.2 s
def zei (Γ:Gm):St->Option Tr:=rU.han Γ rU.M Nt
abbrev vE:Pt:=⟨29,0,⟨[(10,.d i64),(9,.d i64),(8,.d (.sl ah)),(5,.d i64)],[.x 3 99 ay,.r 3 3 0]⟩,⟨[(5,.d i64)],[]⟩,⟨[],[]⟩⟩
def Lf (k:Int×(List ah.den)×ay.den) (b:Prop) (i:Int) (e:ah.den) (s:Int):Fr (Int):=
 Jd b (Jb (bif e.2.1==1 then (ko.f (e,k.2.2,())).1 else false) (Jv (I6.wrap (s+e.2.2.2.1))) (Jv s))
def Ns:vE.M.X->Fr vE.Out:=FG (λx=>(x.1.1,(x.1.2.1,x.1.2.2.1,x.2.1),x.1.2.2.2.1)) (λk=>k.1) (λk=>k.2.1) Lf (λk s=>((s,()),()))
def qtc:ae prog (.loop (au f108 0)) vE.M vE Ns:=
 cN EN (λi k s=>((i,k.1,k.2.1,s,()),k.2.2,())) ah.dflt
def qmq:=λk s=>bO (Lf k True) 0 k.2.1 s
def qux:=λk s=>bM (Lf k True) 0 k.2.1 s
def zeh (Γ:Gm):St->Option Tr:=vE.han Γ vE.M Ns
abbrev vD:Pt:=⟨47,1,⟨[(15,.d i64),(14,.d i64),(13,.d (.sl ay))],[.x 2 42 ah,.r 2 2 0,.o 5 3 i64]⟩,⟨[],[.o 5 3 i64]⟩,⟨[],[]⟩⟩
def Eh (k:Int×(List ay.den)×ah.den) (b:Prop) (i:Int) (e:ay.den) (s:(List Int)):Fr ((List Int)):=
 Jd b (Jd (0<=i/\i<(s.length:Int)) (Jd (Int.toNat i<s.length) (Jv (s.set (Int.toNat i) (AT.f (k.2.2,e,())).1))))
def Nr:vD.M.X->Fr vD.Out:=FG (λx=>(x.1.1,(x.1.2.1,x.1.2.2.1,x.2.1),x.2.2.1)) (λk=>k.1) (λk=>k.2.1) Eh (λk s=>((),s,()))
def qtb:ae prog (.loop (au f70 0)) vD.M vD Nr:=
 cN EN (λi k s=>((i,k.1,k.2.1,()),k.2.2,s,())) ay.dflt
def qmp:=λk s=>bO (Eh k True) 0 k.2.1 s
def quw:=λk s=>bM (Eh k True) 0 k.2.1 s
def zeg (Γ:Gm):St->Option Tr:=vD.han Γ vD.M Nr
noncomputable def zP:Cx:=cx [(154,ko),(114,AT),(112,xf),(113,xd),(55,iD),(103,lx)] []
def nN:CxOK prog zP:=aP aG ⟨z7,O5,qcc,qb9,vF,yK,uT⟩ trivial
def Id (x:ag [.d (.sl ah)]):Fr (aa [.bool]):=
 iY (InK (((List.length x.1):Int)) 0 (List.length x.1)) (T5 (((List.length x.1):Int),x.1) []) (qmr (((List.length x.1):Int),x.1) []) ([]) (aW _,bN _) (λ_=>Jv (false,())) (λy0=>Jv (y0.1.1,()))
def qkl:af prog 106 ⟨[.d (.sl ah)],[.bool],λxs=>(Id xs).get,λxs=>[(Id xs).ok]⟩:=
 cf nN (Λ:=(λ_=>zei zP.Γ)) (fn:=f106) (aW [.d (.sl ah)]) (by kernel_rfl) (λc E hc=>ea hc (by kernel_rfl) (b:=au f106 0) (by kernel_rfl) (ae.han nN rfl qtd)) (λx=>by kernel_rfl)
def Ic (x:ag [.d (.sl ah),.d ay]):Fr (aa [.bool]):=
 cI (InK (((List.length x.1):Int)) 0 (List.length x.1)) (qux (((List.length x.1):Int),x.1,x.2.1) 0) (qmq (((List.length x.1):Int),x.1,x.2.1) 0) (λs1=>Jv (decide (s1>10000),()))
def qkk:af prog 108 ⟨[.d (.sl ah),.d ay],[.bool],λxs=>(Ic xs).get,λxs=>[(Ic xs).ok]⟩:=
 cf nN (Λ:=(λ_=>zeh zP.Γ)) (fn:=f108) (aW [.d (.sl ah),.d ay]) (by kernel_rfl) (λc E hc=>ea hc (by kernel_rfl) (b:=au f108 0) (by kernel_rfl) (ae.han nN rfl qtc)) (λx=>by kernel_rfl)
def BM (x:ag [.d ah,.d (.sl ay)]):Fr (aa [aK]):=
 Jd (0<=((List.length x.2.1):Int)/\((List.length x.2.1):Int)<=((List.length x.2.1):Int)/\((List.length x.2.1):Int)<=(maxLen:Int)/\((List.length x.2.1):Int)*(8:Int)<=140737488355328) (Jb (x.1.2.1==2) (Jv ((xf.f x).1,())) (Jb (x.1.2.1==3) (Jv ((xd.f x).1,())) (cI (InK (((List.length x.2.1):Int)) 0 (List.length x.2.1)) (quw (((List.length x.2.1):Int),x.2.1,x.1) (List.replicate (((List.length x.2.1):Int)).toNat 0)) (qmp (((List.length x.2.1):Int),x.2.1,x.1) (List.replicate (((List.length x.2.1):Int)).toNat 0)) (λs2=>Jv (s2,())))))
def qkg:af prog 70 ⟨[.d ah,.d (.sl ay)],[aK],λxs=>(BM xs).get,λxs=>[(BM xs).ok]⟩:=
 cf nN (Λ:=(λ_=>zeg zP.Γ)) (fn:=f70) (aW [.d ah,.d (.sl ay)]) (by kernel_rfl) (λc E hc=>ea hc (by kernel_rfl) (b:=au f70 0) (by kernel_rfl) (ae.han nN rfl qtb)) (λx=>by kernel_rfl)
def BN (x:ag [.d ah]):Fr (aa [.bool]):=
 Jv (!(iD.f (x.1,())).1,())
def qkh:af prog 101 ⟨[.d ah],[.bool],λxs=>(BN xs).get,λxs=>[(BN xs).ok]⟩:=
 cf nN (Λ:=bw) (fn:=f101) (aW [.d ah]) (by kernel_rfl) (λc E _=>aY c 0) (λx=>by kernel_rfl)
def xg:Ct:=⟨[.d ah],[.bool],λx=>(BN x).get,λ_=>[]⟩
def qcx:af prog 101 xg:=bW qkh _ (λx hw _=>uT)
def BO (x:ag [.d ay]):Fr (aa [.bool]):=
 Jv (!(lx.f (x.1,())).1,())
def qki:af prog 102 ⟨[.d ay],[.bool],λxs=>(BO xs).get,λxs=>[(BO xs).ok]⟩:=
 cf nN (Λ:=bw) (fn:=f102) (aW [.d ay]) (by kernel_rfl) (λc E _=>aY c 0) (λx=>by kernel_rfl)
def AU:Ct:=⟨[.d ay],[.bool],λx=>(BO x).get,λ_=>[]⟩
def qcy:af prog 102 AU:=bW qki _ (λx hw _=>uT)
def zcg (l:List ah.den) (hn:l.length<=1000000):T5 ((l.length:Int),l) []:=
 (nm (step:=Ei ((l.length:Int),l) True) (λi (s:List (Int×Bool))=>s.length<=i) (λ_=>True) l (λi e s he hs=>by
  have hi:=eD he;have hm:=ew;refine⟨uT,λ_=>uT,λ_=>⟨?_,?_⟩⟩
  ·show s.length<maxLen;omega
  ·show(ec s e.1 true).length<=i+1;have:∀ (l:List (Int×Bool)) (n:Int) (y:Bool),(ec l n y).length<=l.length+1:=λl n y=>by
    induction l with
    |nil=>exact ue4 _
    |cons x r ih=>
     unfold ec;cases hx:x.1==n with
     |true=>exact Nat.le_succ _
     |false=>exact Nat.succ_le_succ ih
   exact uek (this _ _ _) (Nat.succ_le_succ hs)) [] (ue4 _)).1
def GQ:Ct:=⟨[.d (.sl ah)],[.bool],λx=>(Id x).get,λx=>[List.length (α:=ah.den) x.1<=1000000]⟩
def qc2:af prog 106 GQ:=bW qkl _ (λx hw hok=>ss (gt hw.1.1) (zcg x.1 hok) (λ_=>uT) (λ_=>uT))
def GP:Ct:=⟨[.d (.sl ah),.d ay],[.bool],λx=>(Ic x).get,λ_=>[]⟩
def qc1:af prog 108 GP:=bW qkk _ (λx hw _=>nK (gt hw.1.1) (by refine uP (λ_ _ _=>?_) _ _ _; exact⟨uT,λ_=>uT,λ_=>uT⟩) (λ_=>uT))
def VQ (t:ah.den) (l:List ay.den) (hl:l.length<=1000000):(BM (t,l,())).satP (λy=>y.1=[]\/y.1.length=l.length):=by
 have hm:l.length<=maxLen:=uek hl ew;refine⟨uH hl,λ_=>qqb t l,λ_=>⟨λ_=>qg6 t l hm,λ_=>?_⟩⟩;refine fz (A:=λ(s:List Int)=>s.length=l.length) (gt hm) (dk (step:=Eh ((l.length:Int),l,t) True) (λ_ (s:List Int)=>s.length=l.length) l (λi e s he hs=>?_) _ ?_) (λs hs=>.inr hs)
 ·obtain⟨h1,h2⟩:=lK (eD he) hs;exact⟨uT,h1,h2,(show(List.set _ _ _).length=_ by rw[udk]; exact hs)⟩
 ·show(List.replicate _ _).length=_;rw[List.length_replicate,ucy]
def tE:Ct:=⟨[.d ah,.d (.sl ay)],[aK],λx=>(BM x).get,λx=>[List.length (α:=ay.den) x.2.1<=1000000]⟩
def qcw:af prog 70 tE:=bW qkg _ (λx _ hok=>(cO (VQ x.1 x.2.1 hok)).1)
def zbs (t:ah.den) (l:List ay.den) (hl:l.length<=1000000):(tE.f (t,l,())).1=[]\/(tE.f (t,l,())).1.length=l.length:=(cO (VQ t l hl)).2
noncomputable def YB:Cx:=cx [(108,GP)] []
def YC:CxOK prog YB:=aP aG ⟨qc1,uT⟩ trivial
def BP (x:ag [.d ay,.ptr (.sl ah)]):Fr (aa [.bool]):=
 Jv ((GP.f (x.2.1,x.1,())).1,())
def qkj:af prog 107 ⟨[.d ay,.ptr (.sl ah)],[.bool],λxs=>(BP xs).get,λxs=>[(BP xs).ok]⟩:=
 cf YC (Λ:=bw) (fn:=f107) (aW [.d ay,.ptr (.sl ah)]) (by kernel_rfl) (λc E _=>aY c 0) (λx=>by kernel_rfl)
def AW:Ct:=⟨[.d ay,.ptr (.sl ah)],[.bool],λx=>(BP x).get,λ_=>[]⟩
def qcz:af prog 107 AW:=bW qkj _ (λx hw _=>uT)
noncomputable def YD:Cx:=cx [(105,fA ay),(104,fA ah),(101,xg),(102,AU),(107,AW),(106,GQ)] []
def YE:CxOK prog YD:=aP aG ⟨NF,Fu,qcx,qcy,qcz,qc2,uT⟩ trivial
def SP (ts:List ah.den) (l:List ay.den):Fr (aa [i64]):=
 Jd (ts.length<=1000000) (Jb (GQ.f (ts,())).1 (Jv (8,())) (Jd (∀ (x:aa [ay]),fi [ay] x->av (AW.ok (x.1,ts,()))) (Jb ((fA ay).f (l,λx=>AW.f (x.1,ts,()),())).1 (Jv (13,())) (Jv (0,())))))
def JB (ts:List ah.den) (l:List ay.den):Fr (aa [i64]):=
 Jb (decide ((ts.length:Int)>100)) (Jb (decide ((ts.length:Int)>100)) (Jv (2,())) (SP ts l)) (Jb (decide ((l.length:Int)>2000)) (Jv (2,())) (SP ts l))
def Ib (x:ag [.d (.sl ah),.d (.sl ay)]):Fr (aa [i64]):=
 Jd (∀ (x:aa [ah]),fi [ah] x->av (xg.ok (x.1,())))
  (Jb ((fA ah).f (x.1,λx=>xg.f (x.1,()),())).1 (Jb ((fA ah).f (x.1,λx=>xg.f (x.1,()),())).1 (Jv (1,())) (JB x.1 x.2.1))
   (Jd (∀ (x:aa [ay]),fi [ay] x->av (AU.ok (x.1,()))) (Jb ((fA ay).f (x.2.1,λx=>AU.f (x.1,()),())).1 (Jv (1,())) (JB x.1 x.2.1))))
def Nw (ts:List ah.den) (l:List ay.den) (y:aa [i64]):Prop:=y.1=0->ts.length<=100/\l.length<=2000
def SO (ts:List ah.den) (l:List ay.den):(JB ts l).satP (Nw ts l):=by
 refine⟨λh=>⟨λ_ h=>(by cases h),λh'=>(by rw[h] at h'; cases h')⟩,λh=>⟨λ_ h=>(by cases h),λh2=>?_⟩⟩;have h1:=ucf h;have h3:=ucf h2;refine⟨by omega,λ_ h=>(by cases h),λ_=>⟨λ_ _=>uT,λ_ h=>(by cases h),λ_ _=>⟨by omega,by omega⟩⟩⟩
def SQ (ts:List ah.den) (l:List ay.den):(Ib (ts,l,())).satP (Nw ts l):=
 ⟨λ_ _=>uT,λ_=>⟨λ_ h=>(by cases h),λ_=>SO ts l⟩,λ_=>⟨λ_ _=>uT,λ_ h=>(by cases h),λ_=>SO ts l⟩⟩
def tF:Ct:=⟨[.d (.sl ah),.d (.sl ay)],[i64],λx=>(Ib x).get,λ_=>[]⟩
def qc0:af prog 67 tF:=bW (aS YE f67 (fr:=Ib)) _ (λx _ _=>(cO (SQ x.1 x.2.1)).1)
def qtr (ts:List ah.den) (l:List ay.den) (h:(tF.f (ts,l,())).1=0):ts.length<=100/\l.length<=2000:=(cO (SQ ts l)).2 h
noncomputable def Mp:Cx:=cx [(171,mC)] []
def EP:CxOK prog Mp:=aP aG ⟨Be,uT⟩ trivial
abbrev rS:Pt:=⟨36,0,⟨[(11,.d i64),(10,.d i64),(9,.d aK),(0,.d aK),(1,.d aK)],[]⟩,⟨[(1,.d aK),(0,.d aK)],[]⟩,⟨[(4,.d i64)],[]⟩⟩
def Eb (k:Int×(List Int)×(List Int)×(List Int)) (b:Prop) (i:Int) (e:i64.den) (s:Unit):Fr (Unit ⊕ rS.R.X):=
 let c:=((List.length k.2.2.2):Int);let a:=mC.f (e,List.getD k.2.2.2 (Int.toNat i) i64.dflt,());Jd b (Jb (decide (i>=c)) (Jv (.inr ((1,()),()))) (Jd (0<=i/\i<c) (Jb (a.1 != 0) (Jv (.inr ((a.1,()),()))) (Jv (.inl ())))))
def Np:rS.M.X->Fr rS.Out:=FK (λx=>(x.1.1,(x.1.2.1,x.1.2.2.1,x.1.2.2.2.1,x.1.2.2.2.2.1),())) (λk=>k.1) (λk=>k.2.1) Eb (λk s=>((k.2.2.2,k.2.2.1,()),())) (λ_ y=>Rd.back y) () (aW _,bN _)
def qs2:ae prog (.loop (au f314 0)) rS.M rS Np:=
 lm EP (λi k s=>((i,k.1,k.2.1,k.2.2.1,k.2.2.2,()),())) i64.dflt
def qmo:=λk s=>da (Eb k True) 0 k.2.1 s
def quv:=λk s=>eJ (Eb k True) 0 k.2.1 s
def zef (Γ:Gm):St->Option Tr:=rS.han Γ rS.M Np
def Ia (x:ag [.d aK,.d aK]):Fr (aa [i64]):=
 iY (InK (((List.length x.1):Int)) 0 (List.length x.1)) (quv (((List.length x.1):Int),x.1,x.1,x.2.1) ()) (qmo (((List.length x.1):Int),x.1,x.1,x.2.1) ()) () (aW _,bN _) (λ_=>Jb (decide (((List.length x.1):Int)<((List.length x.2.1):Int))) (Jv (-1,())) (Jv (0,()))) (λy0=>Jv (y0.1.1,()))
def qj5:af prog 314 ⟨[.d aK,.d aK],[i64],λxs=>(Ia xs).get,λxs=>[(Ia xs).ok]⟩:=
 cf EP (Λ:=(λ_=>zef Mp.Γ)) (fn:=f314) (aW [.d aK,.d aK]) (by kernel_rfl) (λc E hc=>ea hc (by kernel_rfl) (b:=au f314 0) (by kernel_rfl) (ae.han EP rfl qs2)) (λx=>by kernel_rfl)
def GO:Ct:=⟨[.d aK,.d aK],[i64],λx=>(Ia x).get,λ_=>[]⟩
def qcu:af prog 314 GO:=bW qj5 _ (λx hw _=>ss (gt hw.1.1) (nm (step:=Eb ((List.length x.1:Int),x.1,x.1,x.2.1) True) (λ_ _=>True) (λ_=>True) x.1 (λi e s he hs=>by
 refine⟨uT,λ_=>uT,λh=>⟨⟨ub2 _,?_⟩,λ_=>uT,λ_=>uT⟩⟩;have:=ucf h;exact Int.not_le.1 this) () trivial).1 (λ_=>⟨λ_=>uT,λ_=>uT⟩) (λ_=>uT))
noncomputable def YG:Cx:=cx [(314,GO)] []
def ER:CxOK prog YG:=aP aG ⟨qcu,uT⟩ trivial
abbrev bF:Type:=List co.den
def Jw (a b:co.den):Bool:=decide ((GO.f ([a.1,a.2.1,a.2.2.1],[b.1,b.2.1,b.2.2.1],())).1<0)
abbrev inR (l:bF) (i:Int):Prop:=0<=i/\i<(l.length:Int)
def gb (l:bF) (i j:Int):bF:=(l.set i.toNat (l.getD j.toNat co.dflt)).set j.toNat (l.getD i.toNat co.dflt)
def qln (l:bF) (x:ag [.d i64,.d i64]):Fr (bF×aa [.bool]):=
 let a:=(l.length:Int);Jd (0<=x.1/\x.1<a) (Jd (x.1.toNat<l.length) (Jd (0<=x.2.1/\x.2.1<a) (Jd (x.2.1.toNat<l.length) (Jv (l,Jw (l.getD x.1.toNat co.dflt) (l.getD x.2.1.toNat co.dflt),())))))
def qlo (l:bF) (x:ag [.d i64,.d i64]):Fr (bF×aa []):=
 let b:=(l.length:Int);let a:=l.set x.1.toNat (l.getD x.2.1.toNat co.dflt);Jd (0<=x.2.1/\x.2.1<b) (Jd (x.2.1.toNat<l.length) (Jd (0<=x.1/\x.1<b) (Jd (x.1.toNat<l.length) (Jd (0<=x.1/\x.1<b) (Jd (x.1.toNat<l.length)
  (Jd (0<=x.2.1/\x.2.1<(a.length:Int)) (Jd (x.2.1.toNat<a.length) (Jv (gb l x.1 x.2.1,())))))))))
def SH:Mt:=⟨241,co,[],[i64],λl _=>(l,(l.length:Int),()),λ_ _=>[]⟩
def SI:Mt:=⟨241,co,[.d i64,.d i64],[.bool],λl x=>(l,Jw (l.getD x.1.toNat co.dflt) (l.getD x.2.1.toNat co.dflt),()),λl x=>[inR l x.1,inR l x.2.1]⟩
def SJ:Mt:=⟨241,co,[.d i64,.d i64],[],λl x=>(gb l x.1 x.2.1,()),λl x=>[inR l x.1,inR l x.2.1]⟩
def rj {l:bF} {i:Int} (h:inR l i):i.toNat<l.length:=by omega
def qm4:SoundMt prog 110 SH:=
 gW (iq ER (Λ:=bw) (fn:=f110) (fr:=λl _=>Jv (l,(l.length:Int),())) (e:=241) (T:=co) (ps:=[]) (rs:=[i64]) () (by kernel_rfl) rfl rfl (λc _ _=>aY c 0) (λl x=>by kernel_rfl)) _ _ λ_ _ _ _ _ _ _ _ _=>⟨uT,rfl⟩
def qm5:SoundMt prog 310 SI:=
 gW (iq ER (Λ:=bw) (fn:=f310) (fr:=qln) (e:=241) (T:=co) (ps:=[.d i64,.d i64]) (rs:=[.bool]) (0,0,()) (by kernel_rfl) rfl rfl (λc _ _=>aY c 0) (λl x=>by kernel_rfl)) _ _ λ_ _ _ _ _ _ _ _ hok=>⟨⟨hok.1,rj hok.1,hok.2,rj hok.2,uT⟩,rfl⟩
def qm8:SoundMt prog 313 SJ:=
 gW (iq ER (Λ:=bw) (fn:=f313) (fr:=qlo) (e:=241) (T:=co) (ps:=[.d i64,.d i64]) (rs:=[]) (0,0,()) (by kernel_rfl) rfl rfl (λc _ _=>aY c 0) (λl x=>by kernel_rfl)) _ _ λ_ _ l x _ _ _ _ hok=>by
  have h1:inR l x.1:=hok.1;have h2:inR l x.2.1:=hok.2;refine⟨⟨h2,rj h2,h1,rj h1,h1,rj h1,?_,?_,uT⟩,rfl⟩
  ·rw[udk]; exact h2
  ·rw[udk]; exact rj h2
def lg (l:bF) (i j:Int):(gb l i j).length=l.length:=by
 unfold gb;rw[udk,udk]
def Ll {Q:co.den->Prop} {l:bF} {i j:Int} (hi:inR l i) (hj:inR l j) (h:∀ x∈l,Q x):∀ x∈gb l i j,Q x:=λx hx=>by
 have g:∀ k:Int,inR l k->l.getD k.toNat co.dflt∈l:=λk hk=>by
  rw[uah,uap (rj hk)];exact udf _
 rcases uao hx with hx|rfl
 ·rcases uao hx with hx|rfl
  ·exact h x hx
  ·exact h _ (g j hj)
 ·exact h _ (g i hi)
noncomputable def KH:Nat->FuncId->List AV->St->Option Tr:=iS (fG (cx [] []).Γ 110 SH) (iS (fG (cx [] []).Γ 310 SI) (fG (cx [] []).Γ 313 SJ))
def kq:CxOK prog (cx [] []):=aP (cs:=[]) (ps:=[]) aG trivial trivial
def Ff:gQ prog KH:=jN (gu kq.ct qm4) (jN (gu kq.ct qm5) (gu kq.ct qm8))
noncomputable def EW:Cx:=cW [] [] KH
def sC:CxOK prog EW:=cZ aG trivial trivial Ff
abbrev Cg:List MI:=[.y 9999 239 [(some 241,co)],.r 0 9999 (1000000+237),.r 10000 9999 0]
abbrev lV:Pt:=⟨23,0,⟨[(1,.d i64)],Cg⟩,⟨[],Cg⟩,⟨[],[]⟩⟩
abbrev kW:Pt:=⟨48,0,⟨[(7,.d i64),(2,.d i64),(1,.d i64)],Cg⟩,⟨[(7,.d i64),(1,.d i64)],Cg⟩,⟨[],[]⟩⟩
def zek (j:Int):Int:=I6.wrap ((I6.wrap (j-1)).tdiv 2)
def jK (l:bF) (i j:Int):Bool:=Jw (l.getD i.toNat co.dflt) (l.getD j.toNat co.dflt)
def qlq (x:lV.M.X):Fr lV.Out:=
 match x with
 |((j,_),((l,_),_))=>
  Jd ((2:Int)≠0) (Jb (zek j==j)
   (Jb true (Jv (Rd.out ((),(l,()),()))) (Jd (inR l (zek j)) (Jd (inR l j) (Jv (Rd.next ((zek j,()),(gb l (zek j) j,()),()))))))
   (Jd (inR l j) (Jd (inR l (zek j)) (Jb (!jK l j (zek j)) (Jv (Rd.out ((),(l,()),())))
    (Jd (inR l (zek j)) (Jd (inR l j) (Jv (Rd.next ((zek j,()),(gb l (zek j) j,()),())))))))))
def g7 (i:Int):Int:=I6.wrap (I6.wrap (2*i)+1)
def jc (i:Int):Int:=I6.wrap (g7 i+1)
def yo (i n:Int):Bool:=bif decide (g7 i>=n) then true else decide (g7 i<0)
def xH (l:bF) (i n i0 j:Int):Fr kW.Out:=
 Jd (inR l j) (Jd (inR l i) (Jb (!jK l j i) (Jv (Rd.out ((i,i0,()),(l,()),()))) (Jd (inR l i) (Jd (inR l j) (Jv (Rd.next ((j,n,i0,()),(gb l i j,()),())))))))
def qlp (x:kW.M.X):Fr kW.Out:=
 match x with
 |((i,n,i0,_),((l,_),_))=>
  Jb (yo i n) (Jv (Rd.out ((i,i0,()),(l,()),())))
   (Jb (decide (jc i<n)) (Jd (inR l (jc i)) (Jd (inR l (g7 i)) (Jb (jK l (jc i) (g7 i)) (xH l i n i0 (jc i)) (xH l i n i0 (g7 i)))))
    (Jb false (xH l i n i0 (jc i)) (xH l i n i0 (g7 i))))
def qzb:ae prog (au f155 0) lV.M lV qlq:=dn sC
def qza:ae prog (au f156 0) kW.M kW qlp:=dn sC
def kO (l:bF) (j:Int):bF:=
 if zek j=j then l else if jK l j (zek j)=true then (if _h:(zek j).toNat<j.toNat then kO (gb l (zek j) j) (zek j) else l) else l
termination_by j.toNat
def j9 (l:bF) (i n:Int):Int:=if jc i<n/\jK l (jc i) (g7 i)=true then jc i else g7 i
def iO (l:bF) (i n:Int):bF×Int:=
 if yo i n=true then (l,i) else if jK l (j9 l i n) i=true then (if _h:(n-j9 l i n).toNat<(n-i).toNat then iO (gb l i (j9 l i n)) (j9 l i n) n else (l,i)) else (l,i)
termination_by (n-i).toNat
structure UpI (l:bF) (j:Int):Prop where
 at_:inR l j
 len:l.length<=1000000000
structure DnI (l:bF) (i n:Int):Prop where
 at_:inR l i
 n:n<=(l.length:Int)
 len:l.length<=1000000000
def Nc (x:lV.M.X):Fr lV.Out:=
 match x with
 |((j,_),((l,_),_))=>Jd (UpI l j) (Jv (Rd.out ((),(kO l j,()),())))
def Fe (x:kW.M.X):Fr kW.Out:=
 match x with
 |((i,n,i0,_),((l,_),_))=>Jd (DnI l i n) (Jv (Rd.out (((iO l i n).2,i0,()),((iO l i n).1,()),())))
def VX {i n c:Int} (h:i<c) (h2:c<n):(n-c).toNat<(n-i).toNat:=by omega
def qv8 {j:Int} (h:0<=j/\j<=4611686018427387903) (hn:zek j≠j):zek j=(j-1)/2/\1<=j:=by
 have h1:1<=j:=by
  by_cases h0:j=0
  ·subst h0;exact absurd (by decide) hn
  ·omega
 refine⟨?_,h1⟩;unfold zek;rw[show I6.wrap (j-1)=j-1 from cz (by omega),Int.tdiv_eq_ediv_of_nonneg (by omega)];exact cz (by omega)
def UpI.par {l:bF} {j:Int} (h:UpI l j) (hn:zek j≠j):UpI l (zek j)/\(zek j).toNat<j.toNat:=by
 have h1:=h.at_;have h2:=h.len;obtain⟨e,h0⟩:=qv8 (j:=j) ⟨by omega,by omega⟩ hn;exact⟨⟨by rw[e]; omega,h2⟩,by rw[e]; omega⟩
def UpI.swap {l:bF} {i j k:Int} (h:UpI l k):UpI (gb l i j) k:=⟨by rw[inR,lg]; exact h.at_,by rw[lg]; exact h.len⟩
def DnI.swap {l:bF} {i j k n:Int} (h:DnI l k n):DnI (gb l i j) k n:=⟨by rw[inR,lg]; exact h.at_,by rw[lg]; exact h.n,by rw[lg]; exact h.len⟩
def DnI.ch {l:bF} {i n:Int} (h:DnI l i n) (hc:yo i n=false):DnI l (g7 i) n/\(jc i<n->DnI l (jc i) n)/\i<g7 i/\i<jc i/\g7 i<n:=by
 have h1:=h.at_;have h2:=h.len;have h4:=h.n;have e1:g7 i=2*i+1:=by
  unfold g7;rw[show I6.wrap (2*i)=2*i from cz (by omega)];exact cz (by omega)
 have e2:jc i=2*i+2:=by
  unfold jc;rw[e1,show 2*i+1+1=2*i+2 by omega];exact cz (by omega)
 have hlt:g7 i<n:=by
  unfold yo at hc;by_cases hx:g7 i>=n
  ·rw[ud6 hx] at hc;cases hc
  ·omega
 refine⟨⟨by omega,h4,h2⟩,λhx=>⟨by omega,h4,h2⟩,by omega,by omega,hlt⟩
def qse:ae prog (.loop (au f155 0)) lV.M lV Nc:=
 ae.loop qzb (inv:=λx=>UpI x.2.1.1 x.1.1) (μ:=λx=>x.1.1.toNat)
  (by
   rintro⟨⟨j,_⟩,⟨⟨l,_⟩,_⟩⟩ hinv Q hq;have hq:=hq.2;have hinv:UpI l j:=hinv;refine⟨by decide,λhb=>⟨λ_=>?_,λh=>(by cases h)⟩,λhb=>?_⟩
   ·have e:zek j=j:=by simpa using hb
    rw[kO,if_pos e] at hq;exact hq
   ·have e:zek j≠j:=by simpa using hb
    obtain⟨hp,hlt⟩:=hinv.par e;rw[kO,if_neg e] at hq;refine⟨hinv.at_,hp.at_,λhl=>?_,λhl=>⟨hp.at_,hinv.at_,hp.swap,hlt,hp.swap,?_⟩⟩
    ·have hl':¬ jK l j (zek j)=true:=by simpa using hl
     rw[if_neg hl'] at hq;exact hq
    ·have hl':jK l j (zek j)=true:=by simpa using hl
     rw[if_pos hl',dif_pos hlt] at hq;exact hq)
  (λx Q h=>h.1)
def qsd:ae prog (.loop (au f156 0)) kW.M kW Fe:=
 ae.loop qza (inv:=λx=>DnI x.2.1.1 x.1.1 x.1.2.1) (μ:=λx=>(x.1.2.1-x.1.1).toNat)
  (by
   rintro⟨⟨i,n,i0,_⟩,⟨⟨l,_⟩,_⟩⟩ hinv Q hq;have hq:=hq.2;have hinv:DnI l i n:=hinv;refine⟨λhb=>?_,λhb=>?_⟩
   ·rw[iO,if_pos hb] at hq;exact hq
   ·obtain⟨h1,h2,h3,h4,h5⟩:=hinv.ch hb;rw[iO,if_neg (by rw[hb]; decide)] at hq;have key:∀ c:Int,j9 l i n=c->DnI l c n->i<c->c<n->(xH l i n i0 c).satP λ
      |.next x'=>(DnI x'.2.1.1 x'.1.1 x'.1.2.1)/\(x'.1.2.1-x'.1.1).toNat<(n-i).toNat/\(Fe x').satP Q
      |.out y=>Q (.out y)
      |.back z=>Q (.back z)
      |.pan p=>Q (.pan p):=λc hc hd hlt hcn=>by
     rw[hc] at hq;have hm:(n-c).toNat<(n-i).toNat:=VX hlt hcn;refine⟨hd.at_,hinv.at_,λhl=>?_,λhl=>⟨hinv.at_,hd.at_,hd.swap,hm,hd.swap,?_⟩⟩
     ·have hl':¬ jK l c i=true:=by simpa using hl
      rw[if_neg hl'] at hq;exact hq
     ·have hl':jK l c i=true:=by simpa using hl
      rw[if_pos hl',dif_pos hm] at hq;exact hq
    refine⟨λh6=>?_,λh6=>⟨λh=>(by cases h),λ_=>key _ ?_ h1 h3 h5⟩⟩
    ·have h6':=ucv h6;refine⟨(h2 h6').at_,h1.at_,λh7=>key _ ?_ (h2 h6') h4 h6',λh7=>key _ ?_ h1 h3 h5⟩
     ·exact if_pos ⟨h6',h7⟩
     ·exact if_neg (λh=>by rw[h7] at h; exact absurd h.2 (by decide))
    ·exact if_neg (λh=>absurd h.1 (ucf h6)))
  (λx Q h=>h.1)
def Rt:Ht:=⟨237,239,241,co,[.d i64],[],λl x=>(kO l x.1,()),λl x=>[UpI l x.1]⟩
def Rq:Ht:=⟨237,239,241,co,[.d i64,.d i64],[.bool],λl x=>((iO l x.1 x.2.1).1,decide ((iO l x.1 x.2.1).2>x.1),()),λl x=>[DnI l x.1 x.2.1]⟩
def qm9:SoundHt prog 155 Rt:=
 Bf (Ci sC (Λ:=λ_=>lV.han EW.Γ lV.M Nc) (fn:=f155) (pt:=237) (bt:=239) (e:=241) (T:=co) (ps:=[.d i64]) (rs:=[]) (fr:=λl x=>Jd (UpI l x.1) (Jv (kO l x.1,()))) (0,()) (by kernel_rfl)
  (λc E hc=>ea hc (by kernel_rfl) (b:=au f155 0) (by kernel_rfl) (ae.han sC rfl qse)) (λl x=>by kernel_rfl)) _ _ λ_ _ _ _ _ _ _ _ hok=>⟨⟨hok,uT⟩,rfl⟩
def qm3:SoundHt prog 156 Rq:=
 Bf (Ci sC (Λ:=λ_=>kW.han EW.Γ kW.M Fe) (fn:=f156) (pt:=237) (bt:=239) (e:=241) (T:=co) (ps:=[.d i64,.d i64]) (rs:=[.bool]) (fr:=λl x=>Jd (DnI l x.1 x.2.1) (Jv ((iO l x.1 x.2.1).1,decide ((iO l x.1 x.2.1).2>x.1),()))) (0,0,()) (by kernel_rfl)
  (λc E hc=>ea hc (by kernel_rfl) (b:=au f156 0) (by kernel_rfl) (ae.han sC rfl qsd)) (λl x=>by kernel_rfl)) _ _ λ_ _ _ _ _ _ _ _ hok=>⟨⟨hok,uT⟩,rfl⟩
def qok (Q:co.den->Prop):(n:Nat)->(l:bF)->(j:Int)->j.toNat<=n->UpI l j->(∀ x∈l,Q x)->(kO l j).length=l.length/\∀ x∈kO l j,Q x:=λn=>by
 induction n with
 |zero=>
  intro l j hn h hQ;rw[kO];split
  ·exact⟨rfl,hQ⟩
  ·rename_i hp;have:=(h.par hp).2;omega
 |succ n ih=>
  intro l j hn h hQ;rw[kO];split
  ·exact⟨rfl,hQ⟩
  ·rename_i hp;obtain⟨h1,h2⟩:=h.par hp;by_cases hl:jK l j (zek j)=true
   ·rw[if_pos hl,dif_pos h2];obtain⟨h3,h4⟩:=ih (gb l (zek j) j) (zek j) (by omega) h1.swap (Ll h1.at_ h.at_ hQ);exact⟨h3.trans (lg _ _ _),h4⟩
   ·rw[if_neg hl];exact⟨rfl,hQ⟩
def OD {l:bF} {i n:Int} (h:DnI l i n) (hc:yo i n=false):DnI l (j9 l i n) n/\i<j9 l i n/\j9 l i n<n:=by
 obtain⟨h1,h2,h3,h4,h5⟩:=h.ch hc;unfold j9;split
 ·rename_i hx;exact⟨h2 hx.1,h4,hx.1⟩
 ·exact⟨h1,h3,h5⟩
def qoj (Q:co.den->Prop):(m:Nat)->(l:bF)->(i n:Int)->(n-i).toNat<=m->DnI l i n->(∀ x∈l,Q x)->(iO l i n).1.length=l.length/\∀ x∈(iO l i n).1,Q x:=λm=>by
 induction m with
 |zero=>
  intro l i n hm h hQ;rw[iO];split
  ·exact⟨rfl,hQ⟩
  ·rename_i hc;have:=OD h (by simpa using hc);omega
 |succ m ih=>
  intro l i n hm h hQ;rw[iO];split
  ·exact⟨rfl,hQ⟩
  ·rename_i hc;obtain⟨h1,h2,h3⟩:=OD h (by simpa using hc);by_cases hl:jK l (j9 l i n) i=true
   ·rw[if_pos hl,dif_pos (VX h2 h3)];obtain⟨h4,h5⟩:=ih (gb l i (j9 l i n)) (j9 l i n) n (by omega) h1.swap (Ll h.at_ h1.at_ hQ);exact⟨h4.trans (lg _ _ _),h5⟩
   ·rw[if_neg hl];exact⟨rfl,hQ⟩
noncomputable def ZX:FuncId->Option (Func×(Nat->St->Option Tr)):=cu [(312,(f312,bw)),(311,(f311,bw))]
noncomputable def KP:Nat->FuncId->List AV->St->Option Tr:=iS KH (iS (fU prog (cx [] []) ZX) (iS (ue (cx [] []).Γ 155 Rt) (ue (cx [] []).Γ 156 Rq)))
def ZL:gQ prog KP:=jN Ff (jN (gG kq (lk (by kernel_rfl) (lk (by kernel_rfl) qe))) (jN (Ch kq.ct qm9) (Ch kq.ct qm3)))
noncomputable def Zn:Cx:=cW [] [] KP
def M7:CxOK prog Zn:=cZ aG trivial trivial ZL
abbrev ug:Ty:=.ic [(1,241)] co
def fq (l:bF):Int:=I6.wrap ((l.length:Int)-1)
def yI (l:bF) (y:co.den):bF:=kO (l++[y]) (fq (l++[y]))
def iU (l:bF):bF:=(iO (gb l 0 (fq l)) 0 (fq l)).1
def iu (l:bF):bF:=(iU l).take (fq (iU l)).toNat
def po (l:bF):co.den:=(iU l).getD (fq (iU l)).toNat co.dflt
def qly (l:bF) (x:ag [.d ug]):Fr (bF×aa []):=
 Jd (cD [(1,241)] x.1.1=some 241) (Jd (l.length + [x.1.2].length<=maxLen/\(l.length + [x.1.2].length)*24<=140737488355328) (Jd (UpI (l++[x.1.2]) (fq (l++[x.1.2]))) (Jv (yI l x.1.2,()))))
def qlx (l:bF) (_:ag []):Fr (bF×aa [ug]):=
 let b:=fq l;let a:=((iU l).length:Int);Jd (inR l 0) (Jd (inR l b) (Jd (DnI (gb l 0 b) 0 b) (Jd (0<=fq (iU l)/\fq (iU l)<a) (Jd ((fq (iU l)).toNat<(iU l).length) (Jd (0<=fq (iU l)/\fq (iU l)<=a) (Jv (iu l,((1,po l),()))))))))
def yh {l:bF} (h:1<=l.length) (h2:l.length<=1000001):fq l=(l.length:Int)-1:=cz (by omega)
def Up {l:bF} {y:co.den} (h:l.length<=1000000):UpI (l++[y]) (fq (l++[y])):=by
 have e:(l++[y]).length=l.length+1:=ub4;have h1:=yh (l:=l++[y]) (by omega) (by omega);exact⟨by rw[h1]; omega,by omega⟩
def qwr {l:bF} {y:co.den} (h:l.length<=1000000) (Q:co.den->Prop) (hQ:∀ x∈l,Q x) (hy:Q y):(yI l y).length=l.length+1/\∀ x∈yI l y,Q x:=by
 obtain⟨h1,h2⟩:=qok Q _ (l++[y]) (fq (l++[y])) (ue4 _) (Up h) (λx hx=>by
  rcases udo.1 hx with hx|hx
  ·exact hQ x hx
  ·rw[ucd.1 hx]; exact hy)
 exact⟨h1.trans ub4,h2⟩
def Uf {l:bF} (h:1<=l.length) (h2:l.length<=1000000):DnI (gb l 0 (fq l)) 0 (fq l):=by
 have h1:=yh h (by omega);refine⟨?_,?_,?_⟩
 ·rw[inR,lg]; omega
 ·rw[lg]; omega
 ·rw[lg]; omega
def Kh {l:bF} (h:1<=l.length) (h2:l.length<=1000000) (Q:co.den->Prop) (hQ:∀ x∈l,Q x):(iU l).length=l.length/\∀ x∈iU l,Q x:=by
 have h1:=yh h (by omega);obtain⟨h3,h4⟩:=qoj Q _ (gb l 0 (fq l)) 0 (fq l) (ue4 _) (Uf h h2) (Ll (by omega) (by omega) hQ);exact⟨h3.trans (lg _ _ _),h4⟩
def Ug {l:bF} (h:1<=l.length) (h2:l.length<=1000000):fq (iU l)=(l.length:Int)-1:=by
 have h3:=(Kh h h2 (λ_=>True) (λ_ _=>uT)).1;rw[yh (by omega) (by omega),h3]
def Uh {l:bF} (h:1<=l.length) (h2:l.length<=1000000) (Q:co.den->Prop) (hQ:∀ x∈l,Q x):(iu l).length+1=l.length/\(∀ x∈iu l,Q x)/\Q (po l):=by
 obtain⟨h3,h4⟩:=Kh h h2 Q hQ;have h5:=Ug h h2;refine⟨?_,λx hx=>h4 x (ubo hx),?_⟩
 ·unfold iu;rw[uc2,h5];omega
 ·unfold po;rw[h5,uah,uap (by omega)];exact h4 _ (udf _)
def Rs:Ht:=⟨237,239,241,co,[.d ug],[],λl x=>(yI l x.1.2,()),λl x=>[x.1.1=1,l.length<=1000000]⟩
def Rr:Ht:=⟨237,239,241,co,[],[ug],λl _=>(iu l,((1,po l),())),λl _=>[1<=l.length,l.length<=1000000]⟩
def qm7:SoundHt prog 109 Rs:=
 Bf (Ci M7 (Λ:=bw) (fn:=f109) (pt:=237) (bt:=239) (e:=241) (T:=co) (ps:=[.d ug]) (rs:=[]) (fr:=qly) ((1,co.dflt),()) (by kernel_rfl)
  (λc _ _=>aY c 0) (λl x=>by kernel_rfl)) _ _ λ_ _ l x _ _ _ _ hok=>by
   obtain⟨h1,h2⟩:x.1.1=1/\l.length<=1000000:=hok;have hm:=ew;refine⟨⟨?_,?_,Up h2,uT⟩,rfl⟩
   ·rw[h1]; rfl
   ·show l.length+1<=maxLen/\(l.length+1)*24<=140737488355328;have:(1000001:Nat)<=maxLen:=by decide
    omega
def qm6:SoundHt prog 111 Rr:=
 Bf (Ci M7 (Λ:=bw) (fn:=f111) (pt:=237) (bt:=239) (e:=241) (T:=co) (ps:=[]) (rs:=[ug]) (fr:=qlx) () (by kernel_rfl)
  (λc _ _=>aY c 0) (λl x=>by kernel_rfl)) _ _ λ_ _ l x _ _ _ _ hok=>by
   obtain⟨h1,h2⟩:1<=l.length/\l.length<=1000000:=hok;have h3:=(Kh h1 h2 (λ_=>True) (λ_ _=>uT)).1;have h4:=Ug h1 h2;have h5:=yh h1 (by omega);refine⟨⟨by omega,by omega,Uf h1 h2,by omega,by omega,by omega,uT⟩,rfl⟩
noncomputable def KO:Nat->FuncId->List AV->St->Option Tr:=iS KH (iS (ue (cx [] []).Γ 109 Rs) (ue (cx [] []).Γ 111 Rr))
noncomputable def Zm:Cx:=cW [] [] KO
def EX:CxOK prog Zm:=cZ aG trivial trivial (jN Ff (jN (Ch kq.ct qm7) (Ch kq.ct qm6)))
abbrev FI:List MI:=[.y 11 239 [(some 241,co)],.r 3 11 0]
abbrev Dn:Pt:=⟨58,0,⟨[(14,.d i64),(13,.d i64),(12,.d (.sl ah))],FI⟩,⟨[],FI⟩,⟨[],[]⟩⟩
abbrev pw:Pt:=⟨58,3,⟨[],FI++[.o 7 3 i64]⟩,⟨[],[.o 7 3 i64]⟩,⟨[],[]⟩⟩
def Ki (s:bF) (a b c:Int):Fr bF:=Jd ((1:Int)=1) (Jd (s.length<=1000000) (Jv (yI s (a,b,c,()))))
def zn (_k:Int×(List ah.den)) (b:Prop) (i:Int) (e:ah.den) (s:bF):Fr bF:=
 let a:=Ki s e.2.1 e.2.2.2.2.1 i;Jd b (Jb (e.2.1==1) (Ki s e.2.1 0 i) (Jb (e.2.1==2) (Jb (e.2.1==2) a (Jv s)) (Jb (e.2.1==3) a (Jv s))))
def ZD:Dn.M.X->Fr Dn.Out:=FG (λx=>(x.1.1,(x.1.2.1,x.1.2.2.1),x.2.1.1)) (λk=>k.1) (λk=>k.2) zn (λ_ s=>((),((s,()),())))
def qsq:ae prog (.loop (au f69 0)) Dn.M Dn ZD:=
 cN EX (λi k s=>((i,k.1,k.2,()),((s,()),()))) ah.dflt
def qlv (x:pw.M.X):Fr pw.Out:=
 match x with
 |(_,((l,_),o,_))=>Jb (decide ((l.length:Int)>0))
   (Jd (1<=l.length) (Jd (l.length<=1000000) (Jd (cD [(1,241)] 1=some 241) (Jb true
    (Jd (o.length + [(po l).2.2.1].length<=maxLen/\(o.length + [(po l).2.2.1].length)*8<=140737488355328) (Jv (Rd.next ((),(iu l,()),o++[(po l).2.2.1],()))))
    (Jv (Rd.next ((),(iu l,()),o,())))))))
   (Jv (Rd.out ((),o,())))
def qzh:ae prog (au f69 1) pw.M pw qlv:=dn EX
def rI:Nat->bF->List Int->List Int
 |0,_,o=>o
 |n+1,l,o=>rI n (iu l) (o++[(po l).2.2.1])
def ZE (x:pw.M.X):Fr pw.Out:=
 match x with
 |(_,((l,_),o,_))=>Jd (o.length+l.length<=1000000) (Jv (Rd.out ((),rI l.length l o,())))
def qsr:ae prog (.loop (au f69 1)) pw.M pw ZE:=
 ae.loop qzh (inv:=λx=>x.2.2.1.length+x.2.1.1.length<=1000000) (μ:=λx=>x.2.1.1.length)
  (by
   rintro⟨_,⟨⟨l,_⟩,o,_⟩⟩ hinv Q hq;have hq:=hq.2;have hinv:o.length+List.length l<=1000000:=hinv;refine⟨λhb=>?_,λhb=>?_⟩
   ·have hb':(List.length l:Int)>0:=ucv hb;have h1:1<=List.length l:=by omega
    have h2:List.length l<=1000000:=by omega
    obtain⟨h3,_,_⟩:=Uh h1 h2 (λ_=>True) (λ_ _=>uT);have hm:=ew;refine⟨h1,h2,rfl,λ_=>⟨?_,?_,?_,?_,?_⟩,λh=>(by cases h)⟩
    ·show o.length+1<=maxLen/\(o.length+1)*8<=140737488355328;omega
    ·show(o++[_]).length+(iu l).length<=1000000;rw[ub4];show o.length+1+(iu l).length<=1000000;omega
    ·show(iu l).length<List.length l;omega
    ·show(o++[_]).length+(iu l).length<=1000000;rw[ub4];show o.length+1+(iu l).length<=1000000;omega
    ·have e:List.length l=(iu l).length+1:=h3.symm;rw[e] at hq;exact hq
   ·have hb':¬ (List.length l:Int)>0:=ucf hb;have e:List.length l=0:=by omega
    rw[e] at hq;exact hq)
  (λx Q h=>h.1)
def C6 (ts:List ah.den):Int×(List ah.den):=((ts.length:Int),ts)
def ud (ts:List ah.den):bF:=bO (zn (C6 ts) True) 0 ts []
def Qk (x:ag [.d (.sl ah)]):Fr (aa [aK]):=
 cI (InK (List.length x.1:Int) 0 (List.length x.1)) (bM (zn (C6 x.1) True) 0 x.1 []) (ud x.1) (λl=>Jd (([]:List Int).length+l.length<=1000000) (Jv (rI l.length l [],())))
def qjn:af prog 69 (bg [.d (.sl ah)] [aK] Qk):=
 oP EX qsq qsr (fn:=f69)
def JW (ts:List ah.den) (hn:ts.length<=1000000):bM (zn (C6 ts) True) 0 ts []/\(ud ts).length<=ts.length/\∀ x∈ud ts,0<=x.2.2.1/\x.2.2.1<(ts.length:Int):=
 dk (step:=zn (C6 ts) True) (λi (s:bF)=>s.length<=i/\∀ x∈s,0<=x.2.2.1/\x.2.2.1<(ts.length:Int)) ts (λi e s he hs=>by
  have hi:=eD he;have h6:s.length<=1000000:=uek hs.1 (by omega);have hp:∀ a b:Int,(Ki s a b i).satP (λs'=>s'.length<=i+1/\∀ x∈s',0<=x.2.2.1/\x.2.2.1<(ts.length:Int)):=λa b=>by
   obtain⟨h1,h2⟩:=qwr (y:=(a,b,(i:Int),())) h6 (λx=>0<=x.2.2.1/\x.2.2.1<(ts.length:Int)) hs.2 ⟨ub2 _,Int.ofNat_lt.2 hi⟩;exact⟨rfl,h6,by rw[h1]; exact Nat.succ_le_succ hs.1,h2⟩
  have hv:s.length<=i+1/\∀ x∈s,0<=x.2.2.1/\x.2.2.1<(ts.length:Int):=⟨Nat.le_succ_of_le hs.1,hs.2⟩;exact⟨uT,λ_=>hp _ _,λ_=>⟨λ_=>⟨λ_=>hp _ _,λ_=>hv⟩,λ_=>⟨λ_=>hp _ _,λ_=>hv⟩⟩⟩) [] ⟨ue4 _,λ_ h=>(nomatch h)⟩
def Ue (Q:Int->Prop):(n:Nat)->(l:bF)->(o:List Int)->l.length=n->n<=1000000->(∀ x∈l,Q x.2.2.1)->(∀ x∈o,Q x)->∀ x∈rI n l o,Q x
 |0,_,_,_,_,_,ho=>ho
 |n+1,l,o,hl,hn,h,ho=>by
  obtain⟨h1,h2,h3⟩:=Uh (l:=l) (by omega) (by omega) (λx=>Q x.2.2.1) h;refine Ue Q n (iu l) _ (by omega) (by omega) h2 (λx hx=>?_);rcases udo.1 hx with hx|hx
  ·exact ho x hx
  ·rw[ucd.1 hx]; exact h3
def Ud:(n:Nat)->(l:bF)->(o:List Int)->(rI n l o).length=o.length+n
 |0,_,_=>rfl
 |n+1,l,o=>by
  rw[rI,Ud n,ub4];show o.length+1+n=_;omega
def iE:Ct:=⟨[.d (.sl ah)],[aK],λx=>(Qk x).get,λx=>[List.length (α:=ah.den) x.1<=1000000]⟩
def qcv:af prog 69 iE:=bW qjn _ (λx hw hok=>⟨gt hw.1.1,(JW x.1 hok).1,by
 have h:=(JW x.1 hok).2.1;have hok:List.length x.1<=1000000:=hok;show 0+(ud x.1).length<=1000000;omega,uT⟩)
def TB (ts:List ah.den) (hn:ts.length<=1000000):(iE.f (ts,())).1.length<=ts.length/\∀ x∈(iE.f (ts,())).1,0<=x/\x<(ts.length:Int):=by
 obtain⟨_,h1,h2⟩:=JW ts hn;refine⟨?_,Ue (λx=>0<=x/\x<(ts.length:Int)) _ (ud ts) [] rfl (uek h1 hn) h2 (λ_ h=>(nomatch h))⟩;show(rI _ _ _).length<=_;rw[Ud];show 0+(ud ts).length<=_;omega
section
open Go.Shelf Go.Lib
def qn8:∃ i0 z,InsTy prog 91 99 3 i0 z 5 40:=
 have ⟨i0,h1,h2,h3,h4⟩:=ufg (show(prog.info? 99).map (λi=>(i.zero,i.size,i.bytes))=some (some (.agg #[.int .i64 0,.int .i64 0,.int .i64 0,.int .i64 0,.int .i64 0]),5,40) by kernel_rfl)
 ⟨i0,_,underlying91,underlying3,h1,h2,h3,h4,rfl,by decide⟩
def qds:CloneOK prog 68 99 ay 40:=by
 refine⟨enters_of func68 (by kernel_rfl) rfl,λw n c A xs hnc hA hxl hxc h1 h63 hby=>?_⟩;obtain⟨i0,z,T⟩:=qn8;have hcmp:=T.nil w
 go_enter func68,ntmps68
 cases A with
 |none=>
  have h0:=hA rfl;subst h0;have hx:xs=[]:=uab (by simpa using hxl);subst hx
  go_wp2_with (simp only[hcmp])
  go_ret
  exact⟨_,rfl,⟨rfl,rfl,rfl,ue4 _,λ_ _ _=>rfl⟩,ucq _ _ _ _⟩
 |some ad=>
  obtain⟨v',w',hr',e3,e2⟩:=T.clone hxl (hxc ad rfl) h1 h63 hby (n:=n) (c:=c)
  go_wp2_with (first|(simp only[hcmp]; done)|simp only[hcmp]|(at_builtin; refine Lib.wpList_append_run _ rfl _ _ _ _ rfl _ _ rfl rfl _ _ (hr' _) ?_))
  go_ret
  exact⟨v',rfl,e3,e2⟩
def qn9:∃ i0 z,InsTy prog 58 108 3 i0 z 2 16:=
 have ⟨i0,h1,h2,h3,h4⟩:=ufg (show(prog.info? 108).map (λi=>(i.zero,i.size,i.bytes))=some (some (.agg #[.int .i64 0,.int .i64 0]),2,16) by kernel_rfl)
 ⟨i0,_,underlying58,underlying3,h1,h2,h3,h4,rfl,by decide⟩
def qdt:CloneOK prog 60 108 bR 16:=by
 refine⟨enters_of func60 (by kernel_rfl) rfl,λw n c A xs hnc hA hxl hxc h1 h63 hby=>?_⟩;obtain⟨i0,z,T⟩:=qn9;have hcmp:=T.nil w
 go_enter func60,ntmps60
 cases A with
 |none=>
  have h0:=hA rfl;subst h0;have hx:xs=[]:=uab (by simpa using hxl);subst hx
  go_wp2_with (simp only[hcmp])
  go_ret
  exact⟨_,rfl,⟨rfl,rfl,rfl,ue4 _,λ_ _ _=>rfl⟩,ucq _ _ _ _⟩
 |some ad=>
  obtain⟨v',w',hr',e3,e2⟩:=T.clone hxl (hxc ad rfl) h1 h63 hby (n:=n) (c:=c)
  go_wp2_with (first|(simp only[hcmp]; done)|simp only[hcmp]|(at_builtin; refine Lib.wpList_append_run _ rfl _ _ _ _ rfl _ _ rfl rfl _ _ (hr' _) ?_))
  go_ret
  exact⟨v',rfl,e3,e2⟩
end
abbrev j8:Ty:=.sl dq
noncomputable def UE:List (FuncId×Row):=[(1000000000000+136,.rw 0 138),(68,.clone 99 ay 40)]
noncomputable def Mq:Cx:=l8 [(70,tE),(67,tF),(69,iE)] [] UE (λ_ _ _ _=>none)
def wz:CxOK prog Mq:=mI (cs:=[(70,tE),(67,tF),(69,iE)]) (ps:=[]) (rs:=UE) aG ⟨qcw,qc0,qcv,uT⟩ trivial ⟨uT,qds,uT⟩ (λ_ _ _ _ _ h=>(nomatch h))
abbrev CM:List MI:=[.o 8 99 ay,.o 9 (ed 136 0 138) j8]
abbrev rO:Pt:=⟨112,2,⟨[(56,.d i64),(55,.d i64),(54,.d aK),(36,.d i64),(35,.d i64),(34,.d aK),(0,.d (.sl ah)),(1,.d (.sl ay)),(11,.d i64),(10,.d (.sl ay))],.x 14 42 ah :: .r 14 14 0::CM⟩,⟨[(36,.d i64),(35,.d i64),(34,.d aK),(0,.d (.sl ah)),(1,.d (.sl ay)),(11,.d i64),(10,.d (.sl ay))],CM⟩,⟨[],[]⟩⟩
abbrev qos:Type:=Int×Int×List Int×List ah.den×List ay.den×Int×List ay.den
abbrev yd:Type:=Int×List Int×qos×ah.den
abbrev la:Type:=List ay.den×List (List dq.den)
def Ft (now:List ay.den) (i:Int):Int:=(now.getD i.toNat ay.dflt).2.2.2.2.1
def Lo (now:List ay.den) (i e:Int):Int:=if Ft now i<e then Ft now i else e
def Ju (now:List ay.den) (i v:Int):List ay.den:=
 now.set i.toNat ((now.getD i.toNat ay.dflt).1,(now.getD i.toNat ay.dflt).2.1,(now.getD i.toNat ay.dflt).2.2.1,(now.getD i.toNat ay.dflt).2.2.2.1,I6.wrap (Ft now i-v),())
def qty (out:List (List dq.den)) (i:Int) (c:dq.den):List (List dq.den):=out.set i.toNat (out.getD i.toNat []++[c])
def Cm (n:Nat) (i:Int) (x:Fr la):Fr la:=Jd (0<=i/\i<(n:Int)) (Jd (i.toNat<n) x)
def pN (k:yd) (b:Prop) (i:Int) (e:i64.den) (s:la):Fr la:=
 let c:=Lo s.1 i e;let a:=s.2.getD i.toNat [];Jd b (Cm s.1.length i (Cm s.1.length i (Cm s.1.length i
  (Jb (decide (Lo s.1 i e>0))
   (Cm s.2.length i (Jd (a.length+1<=maxLen/\(a.length+1)*16<=140737488355328) (Jd (0<=i/\i<(s.2.length:Int)) (Jd (i.toNat<s.2.length/\i.toNat=i.toNat)
    (Jv (Ju s.1 i c,qty s.2 i (k.2.2.2.1,Lo s.1 i e,())))))))
   (Jv (Ju s.1 i c,s.2))))))
def qvj (k:yd) (s:la):rO.E.X:=((k.2.2.1.1,k.2.2.1.2.1,k.2.2.1.2.2.1,k.2.2.1.2.2.2.1,k.2.2.1.2.2.2.2.1,k.2.2.1.2.2.2.2.2.1,k.2.2.1.2.2.2.2.2.2,()),s.1,s.2,())
def Nk:rO.M.X->Fr rO.Out:=FG (λx=>(x.1.1,((x.1.2.1,x.1.2.2.1,(x.1.2.2.2.1,x.1.2.2.2.2.1,x.1.2.2.2.2.2.1,x.1.2.2.2.2.2.2.1,x.1.2.2.2.2.2.2.2.1,x.1.2.2.2.2.2.2.2.2.1,x.1.2.2.2.2.2.2.2.2.2.1),x.2.1):yd),((x.2.2.1,x.2.2.2.1):la))) (λk=>k.1) (λk=>k.2.1) pN qvj
noncomputable def RE:Code:=(Go.Ab.loopB (au f44 0) 0).getD .skip
def qsn:ae prog (.loop RE) rO.M rO Nk:=
 cN wz (λi k s=>((i,k.1,k.2.1,k.2.2.1.1,k.2.2.1.2.1,k.2.2.1.2.2.1,k.2.2.1.2.2.2.1,k.2.2.1.2.2.2.2.1,k.2.2.1.2.2.2.2.2.1,k.2.2.1.2.2.2.2.2.2,()),k.2.2.2,s.1,s.2,())) i64.dflt
abbrev Dm:Pt:=⟨112,0,⟨[(36,.d i64),(35,.d i64),(34,.d aK),(0,.d (.sl ah)),(1,.d (.sl ay)),(11,.d i64),(10,.d (.sl ay))],CM⟩,⟨[(1,.d (.sl ay))],CM⟩,⟨[],[]⟩⟩
abbrev ye:Type:=Int×List Int×List ah.den×List ay.den
abbrev pF:Type:=Int×List ay.den×la
def om (t:ah.den) (rd:List ay.den):List Int:=(tE.f (t,rd,())).1
def C4 (k:ye) (i:Int) (t:ah.den) (kd:Int) (rd:List ay.den):yd:=((om t rd).length,om t rd,(i,k.1,k.2.1,k.2.2.1,k.2.2.2,kd,rd),t)
def Lt (k:ye) (i:Int) (t:ah.den) (kd:Int) (rd:List ay.den) (s:la):Fr pF:=
 Jd (rd.length<=1000000) (cI (InK ((om t rd).length:Int) 0 (om t rd).length) (bM (pN (C4 k i t kd rd) True) 0 (om t rd) s) (bO (pN (C4 k i t kd rd) True) 0 (om t rd) s) (λr=>Jv (kd,rd,r)))
def sm (k:ye) (b:Prop) (i:Int) (e:i64.den) (s:pF):Fr pF:=
 let a:=k.2.2.1.getD (Int.toNat e) ah.dflt;Jd b (Jd (0<=e/\e<(k.2.2.1.length:Int))
  (Jb (a.2.1 != s.1)
   (Jd (s.2.2.1.length<=maxLen) (Jd (s.2.2.1.length*40<=140737488355328) (Lt k i a a.2.1 s.2.2.1 s.2.2)))
   (Lt k i a s.1 s.2.1 s.2.2)))
def ZC:Dm.M.X->Fr Dm.Out:=FG (λx=>(x.1.1,((x.1.2.1,x.1.2.2.1,x.1.2.2.2.1,x.1.2.2.2.2.1):ye),((x.1.2.2.2.2.2.1,x.1.2.2.2.2.2.2.1,x.2.1,x.2.2.1):pF))) (λk=>k.1) (λk=>k.2.1) sm (λk s=>((k.2.2.2,()),s.2.2.1,s.2.2.2,()))
def qsp:ae prog (.loop (au f44 0)) Dm.M Dm ZC:=
 cN wz (λi k s=>((i,k.1,k.2.1,k.2.2.1,k.2.2.2,s.1,s.2.1,()),s.2.2.1,s.2.2.2,())) i64.dflt (Λ:=λ_=>rO.han Mq.Γ rO.M Nk) (hΛ:=λ_=>kP (by kernel_rfl) (b:=RE) (by kernel_rfl) (ae.han wz rfl qsn))
abbrev ofN:List MI:=[.o 9 (ed 136 0 138) j8,.o 97 99 ay,.o 17 3 i64]
abbrev Dl:Pt:=⟨112,4,⟨[(99,.d i64),(98,.d i64)],ofN⟩,⟨[],[.o 9 (ed 136 0 138) j8,.o 17 3 i64]⟩,⟨[],[]⟩⟩
def zm (k:Int×List (List dq.den)×List ay.den) (b:Prop) (i:Int) (e:ay.den) (s:List Int):Fr (List Int):=
 Jd b (Jd (i.toNat<k.2.2.length) (Jd (0<=i/\i<(s.length:Int)) (Jd (i.toNat<s.length) (Jv (s.set i.toNat e.2.2.2.2.1)))))
def ZB:Dl.M.X->Fr Dl.Out:=FG (λx=>(x.1.1,(x.1.2.1,x.2.1,x.2.2.1),x.2.2.2.1)) (λk=>k.1) (λk=>k.2.2) zm (λk s=>((),k.2.1,s,()))
def qso:ae prog (.loop (au f44 1)) Dl.M Dl ZB:=
 cN wz (λi k s=>((i,k.1,()),k.2.1,k.2.2,s,())) ay.dflt
def nj (ts:List ah.den) (ls:List ay.den):ye:=(((iE.f (ts,())).1.length:Int),(iE.f (ts,())).1,ts,ls)
def uI (n:Nat) (z:Int):Prop:=0<=(n:Int)/\(n:Int)<=(n:Int)/\(n:Int)<=(maxLen:Int)/\(n:Int)*z<=140737488355328
def BL (x:ag [.d (.sl ah),.d (.sl ay)]):Fr (aa [.sl j8,aK,i64]):=
 Jb ((tF.f (x.1,x.2.1,())).1 != 0) (Jv ([],[],(tF.f (x.1,x.2.1,())).1,()))
  (Jd (List.length x.2.1<=maxLen) (Jd (List.length x.2.1*40<=140737488355328) (Jd (uI (List.length x.2.1) 24) (Jd (List.length x.2.1<=maxLen) (Jd (List.length x.2.1*40<=140737488355328) (Jd (List.length x.1<=1000000)
   (cI (InK ((iE.f (x.1,())).1.length:Int) 0 (iE.f (x.1,())).1.length) (bM (sm (nj x.1 x.2.1) True) 0 (iE.f (x.1,())).1 (1,x.2.1,x.2.1,List.replicate (Int.toNat (List.length x.2.1:Int)) [])) (bO (sm (nj x.1 x.2.1) True) 0 (iE.f (x.1,())).1 (1,x.2.1,x.2.1,List.replicate (Int.toNat (List.length x.2.1:Int)) []))
    (λs=>Jd (uI (List.length x.2.1) 8)
     (cI (InK (s.2.2.1.length:Int) 0 s.2.2.1.length) (bM (zm ((s.2.2.1.length:Int),s.2.2.2,s.2.2.1) True) 0 s.2.2.1 (List.replicate (Int.toNat (List.length x.2.1:Int)) 0)) (bO (zm ((s.2.2.1.length:Int),s.2.2.2,s.2.2.1) True) 0 s.2.2.1 (List.replicate (Int.toNat (List.length x.2.1:Int)) 0))
      (λo=>Jv (s.2.2.2,o,0,())))))))))))
def qkf:af prog 44 (bg [.d (.sl ah),.d (.sl ay)] [.sl j8,aK,i64] BL):=
 oP wz qsp qso (fn:=f44)
def yl {z:Int} (h:n<=1000000) (hz:0<=z/\z<=1000):uI n z:=by
 have:=ew;refine⟨by omega,by omega,by omega,?_⟩;have h1:(n:Int)*z<=1000000*z:=Int.mul_le_mul_of_nonneg_right (by omega) hz.1;omega
def quh (k:yd) (s:la) (n m:Nat) (hb:k.2.1.length<=n) (hm:m+n<=999999) (h1:s.1.length=n) (h2:s.2.length=n) (hr:∀ g∈s.2,g.length<=m) :
  bM (pN k True) 0 k.2.1 s/\(bO (pN k True) 0 k.2.1 s).1.length=n/\(bO (pN k True) 0 k.2.1 s).2.length=n/\∀ g∈(bO (pN k True) 0 k.2.1 s).2,g.length<=m+k.2.1.length:=
 dk (step:=pN k True) (λj (s:la)=>s.1.length=n/\s.2.length=n/\∀ g∈s.2,g.length<=m+j) k.2.1 (λj e s he hs=>by
  have hj:j<n:=ub9 (eD he) hb;obtain⟨a1,a2⟩:=lK hj hs.1;obtain⟨b1,b2⟩:=lK hj hs.2.1;have hg:(s.2.getD (Int.toNat (j:Int)) []).length<=m+j:=by
   rw[uah,uap b2];exact hs.2.2 _ (udf b2)
  have hl:∀ v,(Ju s.1 j v).length=n:=λv=>by
   show(List.set _ _ _).length=n;rw[udk];exact hs.1
  have hx:=ew;refine⟨uT,a1,a2,a1,a2,a1,a2,λ_=>⟨b1,b2,by omega,b1,⟨b2,rfl⟩,hl _,?_,λg hgm=>?_⟩,λ_=>⟨hl _,hs.2.1,λg hgm=>Nat.le_succ_of_le (hs.2.2 g hgm)⟩⟩
  ·show(List.set _ _ _).length=n;rw[udk];exact hs.2.1
  ·rcases uao hgm with h|h
   ·exact Nat.le_succ_of_le (hs.2.2 g h)
   ·rw[h,ub4];exact Nat.succ_le_succ hg) s ⟨h1,h2,hr⟩
def quk (ts:List ah.den) (ls:List ay.den) (ht:ts.length<=100) (hl:ls.length<=2000) (s:pF) (hs:s.2.1.length=ls.length/\s.2.2.1.length=ls.length/\s.2.2.2.length=ls.length/\∀ g∈s.2.2.2,g.length<=0) :
  bM (sm (nj ts ls) True) 0 (iE.f (ts,())).1 s/\(bO (sm (nj ts ls) True) 0 (iE.f (ts,())).1 s).2.2.1.length=ls.length/\(bO (sm (nj ts ls) True) 0 (iE.f (ts,())).1 s).2.2.2.length=ls.length/\∀ g∈(bO (sm (nj ts ls) True) 0 (iE.f (ts,())).1 s).2.2.2,g.length<=1000000:=by
 obtain⟨o1,o2⟩:=TB ts (by omega);have hx:=ew;have key:=dk (step:=sm (nj ts ls) True) (λi (s:pF)=>s.2.1.length=ls.length/\s.2.2.1.length=ls.length/\s.2.2.2.length=ls.length/\∀ g∈s.2.2.2,g.length<=i*2000) (iE.f (ts,())).1 (λi e s he hs=>by
  have hi:i<100:=by
   have:=eD he;omega
  have hin:=o2 e (ube he);have htl:∀ t kd rd,List.length rd=ls.length->(Lt (nj ts ls) i t kd rd s.2.2).satP (λ(s:pF)=>s.2.1.length=ls.length/\s.2.2.1.length=ls.length/\s.2.2.2.length=ls.length/\∀ g∈s.2.2.2,g.length<=(i+1)*2000):=λt kd rd hrd=>by
   have hbl:(om t rd).length<=ls.length:=by
    rcases zbs t rd (by omega) with h|h
    ·have:om t rd=[]:=h;rw[this];exact ufa _
    ·exact Nat.le_of_eq (h.trans hrd)
   obtain⟨k1,k2,k3,k4⟩:=quh (C4 (nj ts ls) i t kd rd) s.2.2 ls.length (i*2000) hbl (by omega) hs.2.1 hs.2.2.1 hs.2.2.2;refine⟨by omega,fz (A:=λ(r:la)=>r.1.length=ls.length/\r.2.length=ls.length/\∀ g∈r.2,g.length<=(i+1)*2000) (dI (by omega)) ⟨k1,k2,k3,λg hg=>?_⟩ (λr hr=>⟨hrd,hr⟩)⟩;have h5:=k4 g hg;have h6:List.length (C4 (nj ts ls) i t kd rd).2.1<=ls.length:=hbl;omega
  exact⟨uT,hin,λ_=>⟨by omega,by omega,htl _ _ _ hs.2.1⟩,λ_=>htl _ _ _ hs.1⟩) s ⟨hs.1,hs.2.1,hs.2.2.1,λg hg=>uek (hs.2.2.2 g hg) (ufa _)⟩
 obtain⟨k1,_,k3,k4,k5⟩:=key;exact⟨k1,k3,k4,λg hg=>uek (k5 g hg) (by omega)⟩
def quj (out:List (List dq.den)) (now:List ay.den) (s:List Int) (hs:s.length=now.length):bM (zm ((now.length:Int),out,now) True) 0 now s/\True:=
 ⟨(dk (step:=zm ((now.length:Int),out,now) True) (λ_ (s:List Int)=>s.length=now.length) now (λi e s he hs=>by
  obtain⟨h1,h2⟩:=lK (eD he) hs;obtain⟨h3,h4⟩:=lK (l:=now) (eD he) rfl;exact⟨uT,h4,h1,h2,(show(List.set _ _ _).length=_ by rw[udk]; exact hs)⟩) s hs).1,uT⟩
def Wc (ts:List ah.den) (ls:List ay.den):(BL (ts,ls,())).satP (λy=>y.1.length<=2000/\∀ g∈y.1,List.length (α:=dq.den) g<=1000000):=by
 unfold BL;refine⟨λ_=>⟨ufa _,λ_ h=>(nomatch h)⟩,λhe=>?_⟩;have he':(tF.f (ts,ls,())).1=0:=by simpa using he
 obtain⟨h1,h2⟩:=qtr ts ls he';have hx:=ew;have hl:ls.length<=1000000:=by omega
 have e0:Int.toNat (ls.length:Int)=ls.length:=ucy _;refine⟨by show ls.length<=maxLen; omega,by show ls.length*40<=_; omega,yl hl (by decide),by show ls.length<=maxLen; omega,by show ls.length*40<=_; omega,by show ts.length<=_; omega,fz (A:=λ(s:pF)=>s.2.2.1.length=ls.length/\s.2.2.2.length=ls.length/\∀ g∈s.2.2.2,g.length<=1000000) (dI ?_) (quk ts ls h1 h2 _ ⟨rfl,rfl,?_,λg hg=>?_⟩) (λs hs=>⟨yl hl (by decide),fz (A:=λ_=>True) (dI (by rw[hs.1]; omega)) (quj s.2.2.2 s.2.2.1 _ ?_) (λo _=>⟨by show s.2.2.2.length<=_; omega,hs.2.2⟩)⟩)⟩
 ·have:=(TB ts (by omega)).1;show(iE.f (ts,())).1.length<=_;omega
 ·show(List.replicate (Int.toNat (ls.length:Int)) _).length=ls.length;rw[List.length_replicate,e0]
 ·have hg':g∈List.replicate (Int.toNat (ls.length:Int)) ([]:List dq.den):=hg;rw[List.eq_of_mem_replicate hg'];exact ue4 _
 ·show(List.replicate (Int.toNat (ls.length:Int)) _).length=_;rw[List.length_replicate,e0];exact hs.1.symm
def tD:Ct:=⟨[.d (.sl ah),.d (.sl ay)],[.sl j8,aK,i64],λx=>(BL x).get,λ_=>[]⟩
def O6:af prog 44 tD:=bW qkf _ (λx _ _=>(cO (Wc x.1 x.2.1)).1)
def Wb (ts:List ah.den) (ls:List ay.den):(tD.f (ts,ls,())).1.length<=2000/\∀ g∈(tD.f (ts,ls,())).1,List.length (α:=dq.den) g<=1000000:=(cO (Wc ts ls)).2
noncomputable def YH:Cx:=cx [(218,A9),(219,qu)] []
def Mr:CxOK prog YH:=aP aG ⟨T8,OT,uT⟩ trivial
abbrev pq:Pt:=⟨32,0,⟨[(5,.d i64),(4,.d i64)],[.x 1 146 ar,.r 1 1 0,.x 3 146 ar,.r 3 3 0]⟩,⟨[(4,.d i64)],[]⟩,⟨[],[]⟩⟩
def qlt (x:pq.M.X):Fr pq.Out:=
 match x with
 |((k,e,_),f,y,_)=>
  Jb (bif decide (k<(List.length f.2.1:Int)) then e==0 else false)
   (Jd (0<=k/\k<(List.length f.2.1:Int)) (Jv (Rd.next ((I6.wrap (k+1),(qu.f (y,List.getD f.2.1 k.toNat bn.dflt,())).2.1,()),f,(qu.f (y,List.getD f.2.1 k.toNat bn.dflt,())).1,()))))
   (Jv (Rd.out ((e,()),())))
def qzg:ae prog (au f199 0) pq.M pq qlt:=dn Mr
def r7:List bn.den->ar.den->Int->Int
 |[],_,e=>e
 |a::r,y,e=>if e=0 then r7 r (qu.f (y,a,())).1 (qu.f (y,a,())).2.1 else e
def Z8 (x:pq.M.X):Fr pq.Out:=
 match x with
 |((k,e,_),f,y,_)=>Jd (0<=k/\k<=(List.length f.2.1:Int)/\List.length f.2.1<=maxLen) (Jv (Rd.out ((r7 (List.drop k.toNat f.2.1) y e,()),())))
def qtn {k:Int} {l:List bn.den} (h:0<=k/\k<=(l.length:Int)/\l.length<=maxLen) (hk:k<(l.length:Int)):I6.wrap (k+1)=k+1/\List.drop k.toNat l=l.getD k.toNat bn.dflt::List.drop (k+1).toNat l:=by
 have h3:maxLen<=9223372036854775807:=by decide
 have hn:k.toNat<l.length:=by omega
 refine⟨cz (by omega),?_⟩;rw[show(k+1).toNat=k.toNat+1 by omega,ual hn,uah,uap hn];rfl
def qtm {k:Int} (h:0<=k/\k<=(n:Int)/\n<=maxLen) (hk:k<(n:Int)):(0<=k+1/\k+1<=(n:Int)/\n<=maxLen)/\((n:Int)-(k+1)).toNat<((n:Int)-k).toNat:=by omega
def qtl {k:Int} (h:0<=k/\k<=(n:Int)/\n<=maxLen) (hk:¬ k<(n:Int)):n<=k.toNat:=by omega
def qsh:ae prog (.loop (au f199 0)) pq.M pq Z8:=
 ae.loop qzg (inv:=λx=>0<=x.1.1/\x.1.1<=(List.length x.2.1.2.1:Int)/\List.length x.2.1.2.1<=maxLen) (μ:=λx=>((List.length x.2.1.2.1:Int)-x.1.1).toNat)
  (by
   rintro⟨⟨k,e,_⟩,f,y,_⟩ hinv Q hq;have hq:Q (Rd.out ((r7 (List.drop k.toNat f.2.1) y e,()),())):=hq.2;have hinv:0<=k/\k<=(List.length f.2.1:Int)/\List.length f.2.1<=maxLen:=hinv;by_cases hk:k<(List.length f.2.1:Int)
   ·obtain⟨e1,e2⟩:=qtn hinv hk;obtain⟨i1,i2⟩:=qtm hinv hk;rw[e2] at hq;by_cases he:e=0
    ·rw[r7,if_pos he] at hq;refine⟨λ_=>⟨⟨hinv.1,hk⟩,?_⟩,λhb=>?_⟩
     ·rw[e1];exact⟨i1,i2,i1,hq⟩
     ·rw[ud6 hk,he] at hb;cases hb
    ·rw[r7,if_neg he] at hq;refine⟨λhb=>?_,λ_=>hq⟩;have hb:(bif decide (k<(List.length f.2.1:Int)) then e==0 else false)=true:=hb;rw[ud6 hk] at hb;exact absurd (by simpa using hb) he
   ·have:=qtl hinv hk;rw[ua1 this,r7] at hq;refine⟨λhb=>?_,λ_=>hq⟩;have hb:(bif decide (k<(List.length f.2.1:Int)) then e==0 else false)=true:=hb;rw[udr hk] at hb;cases hb)
  (λx Q h=>h.1)
def Qh (x:ag [.d ar]):Fr (aa [.bool]):=
 Jd (0<=(0:Int)/\(0:Int)<=(List.length x.1.2.1:Int)/\List.length x.1.2.1<=maxLen) (Jv (r7 (List.drop (Int.toNat 0) x.1.2.1) (A9.f (x.1.1,())).1 0==0,()))
def GJ:Ct:=⟨[.d ar],[.bool],λx=>(Qh x).get,λ_=>[]⟩
def qjj:af prog 199 (bg [.d ar] [.bool] Qh):=cS Mr qsh (fn:=f199)
def qcn:af prog 199 GJ:=bW qjj _ (λx hw _=>⟨⟨by decide,ub2 _,hw.1.2.1.1⟩,uT⟩)
noncomputable def YI:Cx:=cx [(125,ly),(53,wO),(199,GJ)] []
def Ms:CxOK prog YI:=aP aG ⟨Vw,Ot,qcn,uT⟩ trivial
def B5 (x:ag [.d ar]):Fr (aa [aJ]):=
 Jv ((if (ly.f (x.1,())).1.1<(ly.f (x.1,())).1.2.1 then (ly.f (x.1,())).1.2.1 else (ly.f (x.1,())).1.1,(ly.f (x.1,())).1.2),())
def qin:af prog 76 ⟨[.d ar],[aJ],λxs=>(B5 xs).get,λxs=>[(B5 xs).ok]⟩:=
 cf Ms (Λ:=bw) (fn:=f76) (aW [.d ar]) (by kernel_rfl) (λc E _=>aY c 0) (λx=>by kernel_rfl)
def GA:Ct:=⟨[.d ar],[aJ],λx=>(B5 x).get,λ_=>[]⟩
def qb4:af prog 76 GA:=bW qin _ (λx hw _=>uT)
def Bz (x:ag [.d ar,.ptr ak]):Fr (aa [.bool]):=
 Jv (bif bif !(wO.f (x.1.1,())).1 then true else x.1.1.2.2.1 != x.2.1.1 then true else !(GJ.f (x.1,())).1,())
def qh7:af prog 198 ⟨[.d ar,.ptr ak],[.bool],λxs=>(Bz xs).get,λxs=>[(Bz xs).ok]⟩:=
 cf Ms (Λ:=bw) (fn:=f198) (aW [.d ar,.ptr ak]) (by kernel_rfl) (λc E _=>aY c 0) (λx=>by kernel_rfl)
def AI:Ct:=⟨[.d ar,.ptr ak],[.bool],λx=>(Bz x).get,λ_=>[]⟩
def qb0:af prog 198 AI:=bW qh7 _ (λx hw _=>uT)
noncomputable def YJ:Cx:=cx [(126,j6),(200,fA ar),(198,AI)] []
def YK:CxOK prog YJ:=aP aG ⟨xn,NE,qb0,uT⟩ trivial
def By (x:ag [.d ak,.d (.sl ar)]):Fr (aa [.bool]):=
 let a:=j6.f (x.1,());Jd (a.1=true->∀ (x_1:aa [ar]),fi [ar] x_1->av (AI.ok (x_1.1,x.1,()))) (Jv (bif a.1 then !((fA ar).f (x.2.1,λx_1=>AI.f (x_1.1,x.1,()),())).1 else false,()))
def qh8:af prog 168 ⟨[.d ak,.d (.sl ar)],[.bool],λxs=>(By xs).get,λxs=>[(By xs).ok]⟩:=
 cf YK (Λ:=bw) (fn:=f168) (aW [.d ak,.d (.sl ar)]) (by kernel_rfl) (λc E _=>aY c 0) (λx=>by kernel_rfl)
def G9:Ct:=⟨[.d ak,.d (.sl ar)],[.bool],λx=>(By x).get,λ_=>[]⟩
def qb1:af prog 168 G9:=bW qh8 _ (λx hw _=>by unfold By; repeat' first|exact trivial|intro _|refine⟨?_,?_⟩|decide)
noncomputable def Mu:Cx:=cx [(168,G9)] []
def ES:CxOK prog Mu:=aP aG ⟨qb1,uT⟩ trivial
abbrev vg:Pt:=⟨31,0,⟨[(14,.d i64),(13,.d i64),(12,.d (.sl ar)),(5,.d i64),(1,.d (.sl ar))],[]⟩,⟨[(5,.d i64),(1,.d (.sl ar))],[]⟩,⟨[],[]⟩⟩
def DI (k:Int×(List ar.den)×(List ar.den)) (b:Prop) (i:Int) (e:ar.den) (s:Int):Fr (Int):=
 Jd b (Jv (I6.wrap (s+((List.length e.2.1):Int))))
def MR:vg.M.X->Fr vg.Out:=FG (λx=>(x.1.1,(x.1.2.1,x.1.2.2.1,x.1.2.2.2.2.1),x.1.2.2.2.1)) (λk=>k.1) (λk=>k.2.1) DI (λk s=>((s,k.2.2,()),()))
def qrr:ae prog (.loop (au f122 0)) vg.M vg MR:=
 cN ES (λi k s=>((i,k.1,k.2.1,s,k.2.2,()),())) ar.dflt
def QP:=λk s=>bO (DI k True) 0 k.2.1 s
def Tn:=λk s=>bM (DI k True) 0 k.2.1 s
def zdy (Γ:Gm):St->Option Tr:=vg.han Γ vg.M MR
def B3 (x:ag [.d ak,.d (.sl ar)]):Fr (aa [i64]):=
 Jb (!(G9.f x).1) (Jv (1,())) (cI (InK (((List.length x.2.1):Int)) 0 (List.length x.2.1)) (Tn (((List.length x.2.1):Int),x.2.1,x.2.1) 0) (QP (((List.length x.2.1):Int),x.2.1,x.2.1) 0) (λs0=>Jb (bif decide (((List.length x.2.1):Int)>2000) then true else decide (s0>2000)) (Jv (2,())) (Jv (0,()))))
def qia:af prog 122 ⟨[.d ak,.d (.sl ar)],[i64],λxs=>(B3 xs).get,λxs=>[(B3 xs).ok]⟩:=
 cf ES (Λ:=(λ_=>zdy Mu.Γ)) (fn:=f122) (aW [.d ak,.d (.sl ar)]) (by kernel_rfl) (λc E hc=>ea hc (by kernel_rfl) (b:=au f122 0) (by kernel_rfl) (ae.han ES rfl qrr)) (λx=>by kernel_rfl)
def ev (l:List ar.den):Prop:=l.length<=1000000/\∀ f∈l,List.length (α:=bn.den) f.2.1<=1000000
def ej (l:List ar.den):Nat:=(l.map (λf=>List.length (α:=bn.den) f.2.1)).sum
def V1:(l:List ar.den)->(∀ f∈l,List.length (α:=bn.den) f.2.1<=n)->ej l<=l.length*n
 |[],_=>ufa _
 |f::r,h=>by
  have h1:=h f uca;have h2:=V1 r (λf hf=>h f (ubh _ hf));show List.length (α:=bn.den) f.2.1+ej r<=(r.length+1)*n;rw[ue6];omega
def V2 {l:List ar.den} {e:ar.den} (he:l[i]? = some e):ej (l.take (i+1))=ej (l.take i)+List.length (α:=bn.den) e.2.1:=by
 unfold ej;rw[List.take_succ,he,uds,List.sum_append];rfl
def qda (l:List ar.den) (h:ev l):Tn ((l.length:Int),l,l) 0/\QP ((l.length:Int),l,l) 0=(ej l:Int):=by
 have key:=dk (step:=DI ((l.length:Int),l,l) True) (λi (s:Int)=>s=(ej (l.take i):Int)) l (λi e s he hs=>by
  refine⟨uT,?_⟩;have h1:=V1 (n:=1000000) (l.take (i+1)) (λf hf=>h.2 f (ubo hf));have h2:(l.take (i+1)).length<=1000000:=by
   rw[uc2];have:=h.1;omega
  have h3:=V2 he;show I6.wrap (s+(List.length (α:=bn.den) e.2.1:Int))=_;have h4:ej (l.take (i+1))<=1000000*1000000:=uek h1 (ubc _ h2);rw[h3,hs];rw[h3] at h4;rw[show((ej (List.take i l)+List.length (α:=bn.den) e.2.1:Nat):Int)=(ej (List.take i l):Int)+(List.length (α:=bn.den) e.2.1:Int) from rfl];exact cz (by omega)) 0 rfl
 rw[List.take_length] at key;exact key
def OG (c:ak.den) (l:List ar.den) (h:ev l):(B3 (c,l,())).satP (λy=>y.1=0->l.length<=2000/\ej l<=2000):=by
 refine⟨λ_ h=>(by cases h),λ_=>fz (A:=λs=>s=(ej l:Int)) (dI (uek h.1 (by decide))) (qda l h) (λs hs=>⟨λ_ h=>(by cases h),λhb _=>?_⟩)⟩;have hb:(bif decide ((l.length:Int)>2000) then true else decide (s>2000))=false:=hb;by_cases h1:(l.length:Int)>2000
 ·rw[ud6 h1] at hb;cases hb
 ·rw[udr h1] at hb;have h2:¬ s>2000:=ucf hb;rw[hs] at h2;omega
def qC:Ct:=⟨[.d ak,.d (.sl ar)],[i64],λx=>(B3 x).get,λx=>[ev x.2.1]⟩
def qb3:af prog 122 qC:=bW qia _ (λx _ hok=>(cO (OG x.1 x.2.1 hok)).1)
def qdb (c:ak.den) (l:List ar.den) (h:ev l) (h0:(qC.f (c,l,())).1=0):l.length<=2000/\ej l<=2000:=(cO (OG c l h)).2 h0
noncomputable def IW:Code:=((Go.Ab.loopB (au f201 0) 0).getD .skip)
def qzd:ae prog IW (eO 261 aw).M (eO 261 aw) (xI 261 aw):=
 dn aH
def qqz:ae prog (.loop IW) (eO 261 aw).M (eO 261 aw) (sG 261 aw):=S5 qzd
noncomputable def WO:Nat->St->Option Tr:=λ_=>(eO 261 aw).han dB.Γ (eO 261 aw).M (sG 261 aw)
def qpb {E:Env}:bP prog E WO (au f201 0) 0:=
 kP (b:=IW) (by kernel_rfl) (by kernel_rfl) (ae.han aH rfl qqz)
def qzf:ae prog (au f201 0) (eP 261 aw).M (eP 261 aw) (xJ 261 aw):=
 ae.of_run aH (bs:=0) (Λ:=WO) rfl rfl rfl (λE=>qpb) (λx=>by kernel_rfl)
def qq1:ae prog (.loop (au f201 0)) (eP 261 aw).M (eP 261 aw) (sH 261 aw):=S6 qzf
noncomputable def zdq:Nat->St->Option Tr:=λ_=>(eP 261 aw).han dB.Γ (eP 261 aw).M (sH 261 aw)
def qoc:SoundMt prog 201 (kQ 261 aw):=
 gW (iq aH (Λ:=zdq) (fn:=f201) (fr:=(xK 261 aw)) (e:=261) (T:=aw) (ps:=[.d i64,.d i64,(aV aw)]) (rs:=[]) (0,0,(λ_=>(0,()),λ_=>True),()) (by kernel_rfl) rfl rfl
  (λc E hc=>ea hc (by kernel_rfl) (b:=au f201 0) (by kernel_rfl) (ae.han aH rfl qq1)) (λl x=>by kernel_rfl)) _ _ λ_ _ l xs _ _ hlen _ hok=>RO l xs hlen hok
def qzz:ae prog (au f233 0) (eX 261 aw).M (eX 261 aw) (xU 261 aw):=
 dn aH
def qrn:ae prog (.loop (au f233 0)) (eX 261 aw).M (eX 261 aw) (sP 261 aw):=SE qzz
noncomputable def zdx:Nat->St->Option Tr:=λ_=>(eX 261 aw).han dB.Γ (eX 261 aw).M (sP 261 aw)
def zbd:SoundMt prog 233 (jL 261 aw):=
 gW (iq aH (Λ:=zdx) (fn:=f233) (fr:=(Ca 261 aw)) (e:=261) (T:=aw) (ps:=[.d i64,.d i64,.d i64,(aV aw)]) (rs:=[]) (0,0,0,(λ_=>(0,()),λ_=>True),()) (by kernel_rfl) rfl rfl
  (λc E hc=>ea hc (by kernel_rfl) (b:=au f233 0) (by kernel_rfl) (ae.han aH rfl qrn)) (λl x=>by kernel_rfl)) _ _ λ_ _ l xs _ _ hlen _ hok=>VE l xs hlen hok
noncomputable def LZ:Cx:=cW [] [] (fG (cx [] []).Γ 233 (jL 261 aw))
def EG:CxOK prog LZ:=cZ aG trivial trivial (gu aH.ct zbd)
def qzm:ae prog (au f221 0) (eR 261 aw).M (eR 261 aw) (xM 261 aw):=
 dn EG
def qra:ae prog (.loop (au f221 0)) (eR 261 aw).M (eR 261 aw) (sJ 261 aw):=S8 qzm
noncomputable def zdt:Nat->St->Option Tr:=λ_=>(eR 261 aw).han LZ.Γ (eR 261 aw).M (sJ 261 aw)
def qxy:SoundMt prog 221 (pb 261 aw):=
 gW (iq EG (Λ:=zdt) (fn:=f221) (fr:=(xN 261 aw)) (e:=261) (T:=aw) (ps:=[.d i64,.d i64,.d i64,(aV aw)]) (rs:=[]) (0,0,0,(λ_=>(0,()),λ_=>True),()) (by kernel_rfl) rfl rfl
  (λc E hc=>ea hc (by kernel_rfl) (b:=au f221 0) (by kernel_rfl) (ae.han EG rfl qra)) (λl x=>by kernel_rfl)) _ _ λ_ _ l xs _ _ hlen _ hok=>UB l xs hlen hok
def qzo:ae prog (au f202 0) (eS 261 aw).M (eS 261 aw) (xO 261 aw):=
 dn aH
def qrc:ae prog (.loop (au f202 0)) (eS 261 aw).M (eS 261 aw) (sK 261 aw):=S9 qzo
def qzs:ae prog (au f202 2) (eU 261 aw).M (eU 261 aw) (xQ 261 aw):=
 dn aH
def qrg:ae prog (.loop (au f202 2)) (eU 261 aw).M (eU 261 aw) (sM 261 aw):=SB qzs
def qzw:ae prog (au f202 4) (eW 261 aw).M (eW 261 aw) (xS 261 aw):=
 dn aH
def qrk:ae prog (.loop (au f202 4)) (eW 261 aw).M (eW 261 aw) (sO 261 aw):=SD qzw
def qzq:ae prog (au f202 1) (eT 261 aw).M (eT 261 aw) (xP 261 aw):=
 dn aH
def qre:ae prog (.loop (au f202 1)) (eT 261 aw).M (eT 261 aw) (sL 261 aw):=SA qzq
def qzu:ae prog (au f202 3) (eV 261 aw).M (eV 261 aw) (xR 261 aw):=
 dn aH
def qri:ae prog (.loop (au f202 3)) (eV 261 aw).M (eV 261 aw) (sN 261 aw):=SC qzu
noncomputable def Mb (n:Nat):Cx:=cW [] [] (iS (fG (cx [] []).Γ 221 (pb 261 aw)) (fG (cx [] []).Γ 202 ((iP 261 aw) n)))
def Xr (h:SoundMt prog 202 ((iP 261 aw) n)):CxOK prog (Mb n):=cZ aG trivial trivial (jN (gu aH.ct qxy) (gu aH.ct h))
noncomputable def LM:Nat->St->Option Tr
 |0=>(eS 261 aw).han dB.Γ (eS 261 aw).M (sK 261 aw)
 |1=>(eT 261 aw).han dB.Γ (eT 261 aw).M (sL 261 aw)
 |2=>(eU 261 aw).han dB.Γ (eU 261 aw).M (sM 261 aw)
 |3=>(eV 261 aw).han dB.Γ (eV 261 aw).M (sN 261 aw)
 |_=>(eW 261 aw).han dB.Γ (eW 261 aw).M (sO 261 aw)
def qpf {E:Env} {c:Code} (hc:f202.body=some c):bP prog E LM c 0:=by
 have hn:(f202.body.map ce)=some 5:=by kernel_rfl
 have b0:f202.body.bind (Go.Ab.loopB · 0)=some (au f202 0):=by kernel_rfl
 have b1:f202.body.bind (Go.Ab.loopB · 1)=some (au f202 1):=by kernel_rfl
 have b2:f202.body.bind (Go.Ab.loopB · 2)=some (au f202 2):=by kernel_rfl
 have b3:f202.body.bind (Go.Ab.loopB · 3)=some (au f202 3):=by kernel_rfl
 have b4:f202.body.bind (Go.Ab.loopB · 4)=some (au f202 4):=by kernel_rfl
 have hb:∀ i,i<5->f202.body.bind (Go.Ab.loopB · i)=some (au f202 i):=λi hi=>match i,hi with
  |0,_=>b0
  |1,_=>b1
  |2,_=>b2
  |3,_=>b3
  |4,_=>b4
 rw[hc] at hn hb;simp only[Option.map_some,ucj] at hn;simp only[uc7] at hb;refine jJ c 0 λi b' hb'=>?_;have hlt:=loopB_lt hb';rw[hn] at hlt;have e:=hb i hlt;rw[e] at hb';cases hb'
 match i,hlt with
 |0,_=>exact ae.han aH rfl qrc
 |1,_=>exact ae.han aH rfl qre
 |2,_=>exact ae.han aH rfl qrg
 |3,_=>exact ae.han aH rfl qri
 |4,_=>exact ae.han aH rfl qrk
def qyc (n:Nat) (l:List (aw).den) (x:ag [.d i64,.d i64,.d i64,(aV aw)]):yS prog (Mb n) LM f202 261 aw [.d i64,.d i64,.d i64,(aV aw)] [] l x=some ((qY 261 aw) n l x):=by kernel_rfl
def VG:(n:Nat)->SoundMt prog 202 ((iP 261 aw) n)
 |0=>by
  have hf:prog.funcs[202]? = some f202:=by kernel_rfl
  obtain⟨c,hb⟩:∃ c,f202.body=some c:=⟨_,rfl⟩;refine⟨by decide,rfl,rfl,enters hf hb (by kernel_rfl),λw F l xs v vs rows _ _ _ _ _ _ _ hok=>?_⟩;have h:SymOk 0 xs.1 xs.2.1 xs.2.2.1 xs.2.2.2.1 l:=hok;have h1:=h.am;have h2:=h.mb;have h3:=h.size;omega
 |n+1=>by
  refine gW (iq (Xr (VG n)) (Λ:=LM) (fn:=f202) (fr:=(qY 261 aw) n) (e:=261) (T:=aw) (ps:=[.d i64,.d i64,.d i64,(aV aw)]) (rs:=[]) (0,0,0,(λ_=>(0,()),λ_=>True),()) (by kernel_rfl) rfl rfl
   (λc E hc=>qpf hc) (qyc n)) _ _ λw F l xs vs _ _ _ hok=>?_
  obtain⟨a,m,b,g,rfl⟩:∃ (a m b:Int) (g:(aV aw).den),xs=(a,m,b,g,()):=⟨xs.1,xs.2.1,xs.2.2.1,xs.2.2.2.1,rfl⟩;have h:SymOk (n+1) a m b g l:=hok;have h0:=h.a0;have h1:=h.am;have h2:=h.mb;obtain⟨a',rfl⟩:∃ n:Nat,a=n:=⟨a.toNat,by omega⟩;obtain⟨m',rfl⟩:∃ n:Nat,m=n:=⟨m.toNat,by omega⟩;obtain⟨b',rfl⟩:∃ n:Nat,b=n:=⟨b.toNat,by omega⟩;exact VL n a' m' b' g l h
noncomputable def zM:Cx:=cW [] [] (iS (fG (cx [] []).Γ 201 (kQ 261 aw)) (fG (cx [] []).Γ 202 ((iP 261 aw) big)))
def qj:CxOK prog zM:=cZ aG trivial trivial (jN (gu aH.ct qoc) (gu aH.ct (VG big)))
def qy8:ae prog (au f169 0) (eN 261 aw).M (eN 261 aw) (xG 261 aw):=
 dn qj
def qqs:ae prog (.loop (au f169 0)) (eN 261 aw).M (eN 261 aw) (sF 261 aw):=S4 qy8
noncomputable def Kc:Code:=((Go.Ab.loopB (au f169 1) 0).getD .skip)
def qzk:ae prog Kc (eQ 261 aw).M (eQ 261 aw) (xL 261 aw):=
 dn qj
def qq6:ae prog (.loop Kc) (eQ 261 aw).M (eQ 261 aw) (sI 261 aw):=S7 qzk
noncomputable def WQ:Nat->St->Option Tr:=λ_=>(eQ 261 aw).han zM.Γ (eQ 261 aw).M (sI 261 aw)
def qpd {E:Env}:bP prog E WQ (au f169 1) 0:=
 kP (b:=Kc) (by kernel_rfl) (by kernel_rfl) (ae.han qj rfl qq6)
def qy6:ae prog (au f169 1) (eM 261 aw).M (eM 261 aw) (xF 261 aw):=
 ae.of_run qj (bs:=0) (Λ:=WQ) rfl rfl rfl (λE=>qpd) (λx=>by kernel_rfl)
def qqq:ae prog (.loop (au f169 1)) (eM 261 aw).M (eM 261 aw) (sE 261 aw):=S3 qy6
noncomputable def zdv:Nat->St->Option Tr
 |0=>(eN 261 aw).han zM.Γ (eN 261 aw).M (sF 261 aw)
 |_=>(eM 261 aw).han zM.Γ (eM 261 aw).M (sE 261 aw)
def zan:SoundMt prog 169 (nk 261 aw):=
 gW (iq qj (Λ:=zdv) (fn:=f169) (fr:=(xT 261 aw)) (e:=261) (T:=aw) (ps:=[.d i64,(aV aw)]) (rs:=[]) (0,(λ_=>(0,()),λ_=>True),()) (by kernel_rfl) rfl rfl
  (λc E hc=>C8 hc (by kernel_rfl) (b0:=au f169 0) (b1:=au f169 1) (by kernel_rfl) (by kernel_rfl) (ae.han qj rfl qqs) (ae.han qj rfl qqq)) (λl x=>by kernel_rfl)) _ _ λ_ _ l xs _ _ hlen _ hok=>Vu l xs hlen hok
noncomputable def Xu:Cx:=cW [] [] (fG (cx [] []).Γ 169 (nk 261 aw))
def Xv:CxOK prog Xu:=cZ aG trivial trivial (gu aH.ct zan)
def zac:SoundMt prog 123 (pd 261 aw):=
 gW (iq Xv (Λ:=bw) (fn:=f123) (fr:=(BZ 261 aw)) (e:=261) (T:=aw) (ps:=[(aV aw)]) (rs:=[]) ((λ_=>(0,()),λ_=>True),()) (by kernel_rfl) rfl rfl
  (λc E _=>aY c 0) (λl x=>by kernel_rfl)) _ _ λ_ _ l xs _ _ hlen _ hok=>Vo l xs hlen hok
noncomputable def Mv:Cx:=cx [(171,mC)] []
def ET:CxOK prog Mv:=aP aG ⟨Be,uT⟩ trivial
abbrev rM:Pt:=⟨18,0,⟨[(8,.d i64),(7,.d i64),(6,.d aK),(3,.d i64)],[]⟩,⟨[(3,.d i64)],[]⟩,⟨[(2,.d i64)],[]⟩⟩
def mn (k:Int×(List Int)×Int) (b:Prop) (i:Int) (e:i64.den) (s:Unit):Fr (Unit ⊕ rM.R.X):=
 Jd b (Jb (e != k.2.2) (Jv (.inr ((e,()),()))) (Jv (.inl ())))
def MS:rM.M.X->Fr rM.Out:=FK (λx=>(x.1.1,(x.1.2.1,x.1.2.2.1,x.1.2.2.2.1),())) (λk=>k.1) (λk=>k.2.1) mn (λk s=>((k.2.2,()),())) (λ_ y=>Rd.back y) () (aW _,bN _)
def qrx:ae prog (.loop (au f170 0)) rM.M rM MS:=
 lm ET (λi k s=>((i,k.1,k.2.1,k.2.2,()),())) i64.dflt
def qmg:=λk s=>da (mn k True) 0 k.2.1 s
def qun:=λk s=>eJ (mn k True) 0 k.2.1 s
def zdz (Γ:Gm):St->Option Tr:=rM.han Γ rM.M MS
def HJ (x:ag [.d aK]):Fr (aa [i64]):=
 iY (InK (((List.length x.1):Int)) 0 (List.length x.1)) (qun (((List.length x.1):Int),x.1,0) ()) (qmg (((List.length x.1):Int),x.1,0) ()) () (aW _,bN _) (λ_=>Jv (0,())) (λy0=>Jv (y0.1.1,()))
def qip:af prog 170 ⟨[.d aK],[i64],λxs=>(HJ xs).get,λxs=>[(HJ xs).ok]⟩:=
 cf ET (Λ:=(λ_=>zdz Mv.Γ)) (fn:=f170) (aW [.d aK]) (by kernel_rfl) (λc E hc=>ea hc (by kernel_rfl) (b:=au f170 0) (by kernel_rfl) (ae.han ET rfl qrx)) (λx=>by kernel_rfl)
def xc:Ct:=⟨[.d aK],[i64],λx=>(HJ x).get,λ_=>[]⟩
def qb6:af prog 170 xc:=bW qip _ (λx hw _=>ss (gt hw.1.1) (by refine JL (λ_ _ _=>?_) _ _ _; exact⟨uT,λ_=>uT,λ_=>uT⟩) (λ_=>uT) (λ_=>uT))
noncomputable def YL:Cx:=cx [(171,mC),(170,xc)] []
def YM:CxOK prog YL:=aP aG ⟨Be,qb6,uT⟩ trivial
def B0 (x:ag [.d aw,.d aw]):Fr (aa [i64]):=
 Jv ((xc.f ([(mC.f (x.1.2.1.1,x.2.1.2.1.1,())).1,(mC.f (x.1.1,x.2.1.1,())).1],())).1,())
def qh9:af prog 124 ⟨[.d aw,.d aw],[i64],λxs=>(B0 xs).get,λxs=>[(B0 xs).ok]⟩:=
 cf YM (Λ:=bw) (fn:=f124) (aW [.d aw,.d aw]) (by kernel_rfl) (λc E _=>aY c 0) (λx=>by kernel_rfl)
def qB:Ct:=⟨[.d aw,.d aw],[i64],λx=>(B0 x).get,λ_=>[]⟩
def qb2:af prog 124 qB:=bW qh9 _ (λx hw _=>uT)
def qvh (a b:Int):(xc.f ([a,b],())).1=if a≠0 then a else b:=by
 have hs:∀ (k:Int×List Int×Int) (i e:Int),k.2.2=0->(mn k True i e ()).get=if e≠0 then .inr ((e,()),()) else .inl ():=λk i e hk=>by
  show(if (e != k.2.2)=true then _ else _)=_;rw[hk];by_cases he:e=0
  ·rw[if_neg (by simp[he]),if_neg (by simp[he])]; rfl
  ·rw[if_pos (by simpa using he),if_pos he]; rfl
 show((iY _ _ (da (mn (2,[a,b],0) True) 0 [a,b] ()) () (aW _,bN _) _ _).get:aa [i64]).1=_;by_cases ha:a=0
 ·have e1:da (mn (2,[a,b],0) True) 0 [a,b] ()=da (mn (2,[a,b],0) True) 1 [b] ():=by
   rw[da,hs _ _ _ rfl,if_neg (by simp[ha])];rfl
  rw[e1,if_neg (by simp[ha])];by_cases hb:b=0
  ·have e2:da (mn (2,[a,b],0) True) 1 [b] () = .inl ():=by
    rw[da,hs _ _ _ rfl,if_neg (by simp[hb])];rfl
   rw[e2,hb];rfl
  ·have e2:da (mn (2,[a,b],0) True) 1 [b] () = .inr ((b,()),()):=by
    rw[da,hs _ _ _ rfl,if_pos hb]
   rw[e2];rfl
 ·have e1:da (mn (2,[a,b],0) True) 0 [a,b] () = .inr ((a,()),()):=by
   rw[da,hs _ _ _ rfl,if_pos ha]
  rw[e1,if_pos ha];rfl
def yg (x:aw.den):Int:=x.2.1.1*18446744073709551616+x.1
def qai {b f g:Int} (hf:0<=f/\f<18446744073709551616) (hg:0<=g/\g<18446744073709551616):(if l5 a b≠0 then l5 a b else l5 f g)<0↔a*18446744073709551616+f<b*18446744073709551616+g:=by
 unfold l5;split<;>split<;>(try split)<;>(try split)<;>(try split)<;>omega
def qah {x y:aw.den} (hx:0<=x.1/\x.1<18446744073709551616) (hy:0<=y.1/\y.1<18446744073709551616):(qB.f (x,y,())).1<0↔yg x<yg y:=by
 have e:(qB.f (x,y,())).1=(xc.f ([l5 x.2.1.1 y.2.1.1,l5 x.1 y.1],())).1:=rfl;rw[e,qvh];exact qai hx hy
def Ke (c:ak.den) (loss used:Int):Int:=
 bif bif bif !(j6.f (c,())).1 then true else decide (loss<0) then true else decide (used<0) then 0
 else (tA.f ((AK.f (c,(AJ.f (c,loss,())).1,())).1,[I6.wrap (c.2.2.1-used)],())).1
def wT:Ct:=⟨[.d ak,.d i64,.d i64],[i64],λx=>(Ke x.1 x.2.1 x.2.2.1,()),λ_=>[]⟩
def IZ {ps:List PT} {g:ag ps->aa [i64]} {ok:ag ps->List Prop} (h:af prog f ⟨ps,[i64],g,ok⟩) {xs:ag ps} (hb:∀ b,F b->b<w.heap.size) (hr:cJ prog w F ps xs vs) (hok:av (ok xs)) :
  Calls prog f vs.toArray w λe w'=>e = .returned (.int .i64 (g xs).1)/\Go.Ab.inR .i64 (g xs).1/\Below w.heap.size w w':=by
 refine(h.2 w F xs vs hb hr hok).mono ?_;rintro e w' ⟨v,F',rfl,hbel,_,_,hv⟩;have hv':aE prog w' F' (λ_ _=>True) (dE i64 (g xs).1) v:=fT hv;exact⟨by rw[hv'.2.1],hv'.2.2,hbel⟩
def W9 (n:Int):wrap64 n=I6.wrap n:=by unfold wrap64; rw[udc]
def qJ (c:ak.den):Value:=.agg #[.int .i64 c.1,.int .i64 c.2.1,.int .i64 c.2.2.1,.int .i64 c.2.2.2.1,.int .i64 c.2.2.2.2.1]
def qem {c:ak.den} (h:bu w F ak c v):v=qJ c:=by
 obtain⟨cs,rfl⟩:=h.2.1.1 rfl;have hs:cs.size=5:=h.1;obtain⟨h0,h1,h2,h3,h4,_⟩:=h.2.2;unfold qJ;congr 1;apply ufh
 ·exact hs
 ·intro i hi1 hi2
  match i,hi1,hi2 with
  |0,h,_=>exact udz ((uam h).symm.trans h0.1)
  |1,h,_=>exact udz ((uam h).symm.trans h1.1)
  |2,h,_=>exact udz ((uam h).symm.trans h2.1)
  |3,h,_=>exact udz ((uam h).symm.trans h3.1)
  |4,h,_=>exact udz ((uam h).symm.trans h4.1)
def qwb (c0 c1 c2 c3 c4 loss used:Int) (rt:Bool) (fC fS:Int->Int) (fL:Int->Int->Int)
  (hR:∀ W,Calls prog 126 #[.agg #[.int .i64 c0,.int .i64 c1,.int .i64 c2,.int .i64 c3,.int .i64 c4]] W λe w'=>e = .returned (.bool rt)/\Below W.heap.size W w')
  (hC:∀ W,Calls prog 127 #[.agg #[.int .i64 c0,.int .i64 c1,.int .i64 c2,.int .i64 c3,.int .i64 c4],.int .i64 loss] W λe w'=>e = .returned (.int .i64 (fC loss))/\Go.Ab.inR IntKind.i64 (fC loss)/\Below W.heap.size W w')
  (hS:∀ W,Go.Ab.inR IntKind.i64 (fC loss)->Calls prog 128 #[.agg #[.int .i64 c0,.int .i64 c1,.int .i64 c2,.int .i64 c3,.int .i64 c4],.int .i64 (fC loss)] W λe w'=>e = .returned (.int .i64 (fS (fC loss)))/\Go.Ab.inR IntKind.i64 (fS (fC loss))/\Below W.heap.size W w')
  (hL:∀ W b,Go.Ab.inR IntKind.i64 (fS (fC loss))->W.heap[b]? = some (.cells #[.int .i64 (wrap64 (c2-used))] 3 (0,0))->Calls prog 129 #[.int .i64 (fS (fC loss)),.slice (some ⟨b,0,none⟩) 1 1] W λe w'=>e = .returned (.int .i64 (fL (fS (fC loss)) (wrap64 (c2-used))))/\Go.Ab.inR IntKind.i64 (fL (fS (fC loss)) (wrap64 (c2-used)))/\Below W.heap.size W w')
  (w:World) :
  Calls prog 77 #[.agg #[.int .i64 c0,.int .i64 c1,.int .i64 c2,.int .i64 c3,.int .i64 c4],.int .i64 loss,.int .i64 used] w λe w'=>
   e = .returned (.int .i64 (bif bif bif !rt then true else decide (loss<0) then true else decide (used<0) then 0 else fL (fS (fC loss)) (wrap64 (c2-used))))/\Go.Ab.inR IntKind.i64 (bif bif bif !rt then true else decide (loss<0) then true else decide (used<0) then 0 else fL (fS (fC loss)) (wrap64 (c2-used)))/\Below w.heap.size w w':=by
 have hB0:=(ufd _ w).alloc (ue4 _) (.cells #[.int .i64 c0,.int .i64 c1,.int .i64 c2,.int .i64 c3,.int .i64 c4] 125);have hq0:=World.alloc_heap_new w (.cells #[.int .i64 c0,.int .i64 c1,.int .i64 c2,.int .i64 c3,.int .i64 c4] 125)
 go_enter func77,ntmps77
 have fin:=λw1 (h:Below _ _ w1)=>hB0.trans (h.mono hB0.size);cases rt
 ·go_wp2_with (first
   |(go_at_call 126; refine(hR _).mono ?_; rintro e w1 ⟨rfl,hb1⟩))
  go_ret
  exact⟨rfl,zF .i64,fin _ hb1⟩
 by_cases h1:loss<0
 ·go_wp2_with (first
   |(go_at_call 126; refine(hR _).mono ?_; rintro e w1 ⟨rfl,hb1⟩))
  go_ret
  have z:(bif bif bif !true then true else decide (loss<0) then true else decide (used<0) then 0 else fL (fS (fC loss)) (wrap64 (c2-used)))=0:=by simp[h1]
  rw[z];exact⟨rfl,zF .i64,fin _ hb1⟩
 by_cases h2:used<0
 ·go_wp2_with (first
   |(go_at_call 126; refine(hR _).mono ?_; rintro e w1 ⟨rfl,hb1⟩))
  go_ret
  have z:(bif bif bif !true then true else decide (loss<0) then true else decide (used<0) then 0 else fL (fS (fC loss)) (wrap64 (c2-used)))=0:=by simp[h2]
  rw[z];exact⟨rfl,zF .i64,fin _ hb1⟩
 have goal:(bif bif bif !true then true else decide (loss<0) then true else decide (used<0) then 0 else fL (fS (fC loss)) (wrap64 (c2-used)))=fL (fS (fC loss)) (wrap64 (c2-used)):=by simp[h1,h2]
 rw[goal]
 go_wp2_with (first
   |(go_at_call 126; refine(hR _).mono ?_; rintro e w1 ⟨rfl,hb1⟩
     have z1:=(hb1.block _ (by simp)).trans hq0;have k0:=aO z1 0; have k1:=aO z1 1; have k2:=aO z1 2; have k3:=aO z1 3; have k4:=aO z1 4;simp at k0 k1 k2 k3 k4))
 have b1:=λo=>(fin _ hb1).alloc (fin _ hb1).size o;have lt:=(uaf.1 z1).1;refine wp_loop_rounds 3 ?_;rw[rounds_succ]
 go_wp2_with (first
  |(go_at_call 127; refine(hC _).mono ?_; rintro e w2 ⟨rfl,n2,hb2⟩
    have y2:=(hb2.block w1.heap.size (by simp)).trans (World.alloc_heap_new w1 _);have x2:=(hb2.block w.heap.size (by simp; omega)).trans ((uc8 w1 _ _ lt).trans z1);have j0:=aO y2 0; have j1:=aO y2 1;simp at j0 j1))
 rw[rounds_succ]
 go_wp2_with (first
  |(go_at_call 128; refine(hS _ n2).mono ?_; rintro e w3 ⟨rfl,n3,hb3⟩
    have x3:=(hb3.block _ (uaf.1 x2).1).trans x2;have i2:=aO x3 2;simp at i2))
 rw[rounds_succ]
 go_wp2_with (first
  |(go_at_call 129; refine(hL _ _ n3 (World.alloc_heap_new _ _)).mono ?_; rintro e w4 ⟨rfl,n4,hb4⟩))
 go_ret
 have b2:=(b1 _).trans (hb2.mono (b1 _).size);have b3:=b2.trans (hb3.mono b2.size);have b4:=λo=>b3.alloc b3.size o;exact⟨rfl,n4,(b4 _).trans (hb4.mono (b4 _).size)⟩
def TY:af prog 77 wT:=by
 refine⟨enters_of func77 (by kernel_rfl) rfl,λw F xs vs hbd hr _=>?_⟩;obtain⟨c,loss,used,_⟩:=xs;obtain⟨v,vs',rfl,hv,hn⟩:=hr;obtain⟨rfl,hl,hu⟩:vs'=[.int .i64 loss,.int .i64 used]/\Go.Ab.inR IntKind.i64 loss/\Go.Ab.inR IntKind.i64 used:=by
  obtain⟨v1,vs1,rfl,h1,v2,vs2,rfl,h2,h3⟩:=hn;cases h3;obtain⟨e1,r1⟩:=oS (w:=w) (F:=F) (y:=(loss,())) ⟨v1,[],rfl,h1,rfl⟩;obtain⟨e2,r2⟩:=oS (w:=w) (F:=F) (y:=(used,())) ⟨v2,[],rfl,h2,rfl⟩;cases e1; cases e2;exact⟨rfl,r1,r2⟩
 obtain rfl:=qem hv;have hv:bu w F ak c (qJ c):=hv;have hz:∀ b,(λ_:Nat=>False) b->b<0:=λ_ h=>h.elim;have cv:∀ W:World,bu W (λ_=>False) ak c (qJ c):=λW=>hv;have nn:∀ (W:World) (n:Int),Go.Ab.inR IntKind.i64 n->bu W (λ_=>False) i64 n (.int .i64 n):=λW n hn=>⟨rfl,⟨λh=>(by cases h),λh=>(by obtain⟨_,h⟩:=h; cases h)⟩,rfl,hn⟩;have hR:=λW:World=>FM (w:=W) (F:=λ_=>False) (xs:=(c,())) (vs:=[qJ c]) xn (λ_ h=>h.elim) ⟨_,_,rfl,cv W,rfl⟩ trivial;have hC:=λW:World=>IZ (w:=W) (F:=λ_=>False) (xs:=(c,loss,())) (vs:=[qJ c,.int .i64 loss]) qb7 (λ_ h=>h.elim) ⟨_,_,rfl,cv W,_,_,rfl,nn W loss hl,rfl⟩ trivial;have hS:=λ(W:World) (n:Int) (hn:Go.Ab.inR IntKind.i64 n)=>IZ (w:=W) (F:=λ_=>False) (xs:=(c,n,())) (vs:=[qJ c,.int .i64 n]) qb8 (λ_ h=>h.elim) ⟨_,_,rfl,cv W,_,_,rfl,nn W n hn,rfl⟩ trivial;have hL:=λ(W:World) (b:Nat) (n:Int) (hn:Go.Ab.inR IntKind.i64 n) (m:Int) (hm:Go.Ab.inR IntKind.i64 m) (hb:W.heap[b]? = some (.cells #[.int .i64 m] 3 (0,0)))=>
  IZ (w:=W) (F:=λq=>q=b) (xs:=(n,[m],())) (vs:=[.int .i64 n,.slice (some ⟨b,0,none⟩) 1 1]) O1 (λq h=>by rw[h]; exact(uaf.1 hb).1)
   ⟨_,_,rfl,⟨rfl,⟨λh=>(by cases h),λh=>(by obtain⟨_,h⟩:=h; cases h)⟩,rfl,hn⟩,_,_,rfl,⟨rfl,⟨λh=>(by cases h),λh=>(by obtain⟨_,h⟩:=h; cases h)⟩,some ⟨b,0,none⟩,1,rfl,ue4 _,(by decide),λi x hx=>⟨⟨b,0,none⟩,rfl,rfl,(by
    cases i with
    |zero=>
     cases hx;exact⟨aO hb 0,hm⟩
    |succ i=>cases hx)⟩⟩,rfl⟩ trivial
 refine(qwb c.1 c.2.1 c.2.2.1 c.2.2.2.1 c.2.2.2.2.1 loss used (j6.f (c,())).1 (λn=>(AJ.f (c,n,())).1) (λn=>(AK.f (c,n,())).1) (λn m=>(tA.f (n,[m],())).1)
  hR hC (λW h=>hS W _ h) (λW b h hb=>hL W b _ h _ (by rw[W9]; exact gd _ _) hb) w).mono ?_
 rintro e w' ⟨rfl,hin,hbel⟩;have he:(wT.f (c,loss,used,())).1=(bif bif bif !(j6.f (c,())).1 then true else decide (loss<0) then true else decide (used<0) then 0 else (tA.f ((AK.f (c,(AJ.f (c,loss,())).1,())).1,[wrap64 (c.2.2.1-used)],())).1):=by
  rw[W9]; rfl
 exact⟨_,F,rfl,hbel,λ_ h=>h,λb hb=>⟨.inl hb,ub9 (hbd b hb) hbel.size⟩,rfl,⟨λh=>(by cases h),λh=>(by obtain⟨_,h⟩:=h; cases h)⟩,ufm (λn=>some (Value.int IntKind.i64 n)) he.symm,he ▸ hin⟩
noncomputable def Hl:List (FuncId×Ct):=[(124,qB),(122,qC),(77,wT)]
def OW:iz prog Hl:=⟨qb2,qb3,TY,uT⟩
noncomputable def Mw:Cx:=cW Hl [] (fG (cx Hl []).Γ 123 (pd 261 aw))
def w6:CxOK prog Mw:=cZ aG OW trivial (gu (aP (ps:=[]) aG OW trivial).ct zac)
abbrev vA:Pt:=⟨123,2,⟨[(35,.d i64),(34,.d i64),(33,.d (.sl bn)),(8,.d i64),(27,.d i64),(26,.d i64),(25,.d (.sl ar)),(1,.d (.sl ar))],[.x 2 125 ak,.r 2 2 0,.o 7 261 aw]⟩,⟨[(27,.d i64),(26,.d i64),(25,.d (.sl ar)),(1,.d (.sl ar))],[.x 2 125 ak,.r 2 2 0,.o 7 261 aw]⟩,⟨[],[]⟩⟩
def wc (k:Int×(List bn.den)×Int×Int×Int×(List ar.den)×(List ar.den)×ak.den) (b:Prop) (i:Int) (e:bn.den) (s:(List aw.den)):Fr ((List aw.den)):=
 let a:=(k.2.2.1,e,());Jd b (Jd (s.length + [a].length<=maxLen/\(s.length + [a].length)*32<=140737488355328) (Jv (s++[a])))
noncomputable def RF:Code:=((Go.Ab.loopB (au f75 0) 0).getD .skip)
def Nl:vA.M.X->Fr vA.Out:=FG (λx=>(x.1.1,(x.1.2.1,x.1.2.2.1,x.1.2.2.2.1,x.1.2.2.2.2.1,x.1.2.2.2.2.2.1,x.1.2.2.2.2.2.2.1,x.1.2.2.2.2.2.2.2.1,x.2.1),x.2.2.1)) (λk=>k.1) (λk=>k.2.1) wc (λk s=>((k.2.2.2.1,k.2.2.2.2.1,k.2.2.2.2.2.1,k.2.2.2.2.2.2.1,()),(k.2.2.2.2.2.2.2,s,())))
def qst:ae prog (.loop RF) vA.M vA Nl:=
 cN w6 (λi k s=>((i,k.1,k.2.1,k.2.2.1,k.2.2.2.1,k.2.2.2.2.1,k.2.2.2.2.2.1,k.2.2.2.2.2.2.1,()),k.2.2.2.2.2.2.2,s,())) bn.dflt
def zec (Γ:Gm):St->Option Tr:=vA.han Γ vA.M Nl
abbrev Dp:Pt:=⟨123,4,⟨[(57,.d i64),(56,.d i64),(14,.d i64)],[.x 2 125 ak,.r 2 2 0,.o 55 261 aw,.o 12 3 i64,.o 13 3 i64,.o 15 195 ep]⟩,⟨[],[.o 15 195 ep]⟩,⟨[],[]⟩⟩
def DZ (k:Int×ak.den×(List aw.den)) (b:Prop) (i:Int) (e:aw.den) (s:Int×(List Int)×(List Int)×(List ep.den)):Fr (Int×(List Int)×(List Int)×(List ep.den)):=
 let n:=(s.2.1.length:Int);let m:=s.2.2.2;let h:=s.2.2.1;let l:=(h.length:Int);let d:=Int.toNat e.1;let c:=I6.wrap (s.2.1.getD d i64.dflt+e.2.1.2.2.1);let o:=s.2.1.set d c;let a:=(wT.f (k.2.1,o.getD d i64.dflt,I6.wrap (s.1-h.getD d i64.dflt),())).1-h.getD d i64.dflt;let g:=(e.1,e.2.1.1,I6.wrap a,());Jd b (Jd (Int.toNat i<k.2.2.length) (Jb (e.2.1.2.1 != 2) (Jv (s.1,s.2.1,h,m)) (Jd (0<=e.1/\e.1<n) (Jd (Int.toNat e.1<s.2.1.length) (Jd (0<=e.1/\e.1<n) (Jd (Int.toNat e.1<s.2.1.length) (Jd (0<=e.1/\e.1<(o.length:Int)) (Jd (Int.toNat e.1<o.length) (Jd (0<=e.1/\e.1<l) (Jd (Int.toNat e.1<h.length) (Jd (0<=e.1/\e.1<l) (Jd (Int.toNat e.1<h.length) (Jb (decide (I6.wrap a<=0)) (Jv (s.1,s.2.1.set d c,h,m)) (Jd (0<=e.1/\e.1<l) (Jd (Int.toNat e.1<h.length) (Jd (0<=e.1/\e.1<l) (Jd (Int.toNat e.1<h.length) (Jd (m.length + [g].length<=maxLen/\(m.length + [g].length)*24<=140737488355328) (Jv (I6.wrap (s.1+I6.wrap a),s.2.1.set d c,h.set d (I6.wrap (h.getD d i64.dflt+I6.wrap a)),m++[g]))))))))))))))))))))
def ZG:Dp.M.X->Fr Dp.Out:=FG (λx=>(x.1.1,(x.1.2.1,x.2.1,x.2.2.1),(x.1.2.2.1,x.2.2.2.1,x.2.2.2.2.1,x.2.2.2.2.2.1))) (λk=>k.1) (λk=>k.2.2) DZ (λk s=>((),s.2.2.2,()))
def qsv:ae prog (.loop (au f75 1)) Dp.M Dp ZG:=
 cN w6 (λi k s=>((i,k.1,s.1,()),k.2.1,k.2.2,s.2.1,s.2.2.1,s.2.2.2,())) aw.dflt
def Ra:=λk s=>bO (DZ k True) 0 k.2.2 s
def T4:=λk s=>bM (DZ k True) 0 k.2.2 s
abbrev Do:Pt:=⟨123,0,⟨[(27,.d i64),(26,.d i64),(25,.d (.sl ar)),(1,.d (.sl ar))],[.x 2 125 ak,.r 2 2 0,.o 7 261 aw]⟩,⟨[(1,.d (.sl ar))],[.x 2 125 ak,.r 2 2 0,.o 7 261 aw]⟩,⟨[],[]⟩⟩
def DY (k:Int×(List ar.den)×(List ar.den)×ak.den) (b:Prop) (i:Int) (e:ar.den) (s:(List aw.den)):Fr ((List aw.den)):=
 let d:=List.length e.2.1;let c:=List.drop (Int.toNat 0) e.2.1;let a:=wc ((d:Int),e.2.1,i,i,k.1,k.2.1,k.2.2.1,k.2.2.2) True;Jd b (Jd (InK ((d:Int)) 0 d) (Jd (bM a 0 c s) (Jv (bO a 0 c s))))
def ZF:Do.M.X->Fr Do.Out:=FG (λx=>(x.1.1,(x.1.2.1,x.1.2.2.1,x.1.2.2.2.1,x.2.1),x.2.2.1)) (λk=>k.1) (λk=>k.2.1) DY (λk s=>((k.2.2.1,()),(k.2.2.2,s,())))
def qsu:ae prog (.loop (au f75 0)) Do.M Do ZF:=
 cN w6 (λi k s=>((i,k.1,k.2.1,k.2.2.1,()),k.2.2.2,s,())) ar.dflt (Λ:=(λ_=>zec Mw.Γ)) (hΛ:=λ_=>kP (by kernel_rfl) (b:=RF) (by kernel_rfl) (ae.han w6 rfl qst))
def IF:=λk s=>bO (DY k True) 0 k.2.1 s
def T3:=λk s=>bM (DY k True) 0 k.2.1 s
def Fp:(aV aw).den:=(λx=>qB.f x,λx=>av (qB.ok x))
def jZ (s:List aw.den):List aw.den:=cM (aM Fp) s
def E6 (n:Nat):List Int:=List.replicate (Int.toNat (n:Int)) 0
def Bw (x:ag [.d ak,.d (.sl ar)]):Fr (aa [.sl ep,i64]):=
 Jd (ev x.2.1) (Jb ((qC.f x).1 != 0) (Jv ([],(qC.f x).1,()))
  (cI (InK ((List.length x.2.1):Int) 0 (List.length x.2.1)) (T3 (((List.length x.2.1):Int),x.2.1,x.2.1,x.1) []) (IF (((List.length x.2.1):Int),x.2.1,x.2.1,x.1) []) (λs0=>
   Jd ((s0.length:Int)<=4611686018427387903) (Jd (gR Fp s0) (Jd (uI (List.length x.2.1) 8) (Jd (uI (List.length x.2.1) 8)
    (cI (InK ((jZ s0).length:Int) 0 (jZ s0).length) (T4 (((jZ s0).length:Int),x.1,jZ s0) (0,E6 (List.length x.2.1),E6 (List.length x.2.1),[])) (Ra (((jZ s0).length:Int),x.1,jZ s0) (0,E6 (List.length x.2.1),E6 (List.length x.2.1),[])) (λr=>Jv (r.2.2.2,0,())))))))))
def qh6:af prog 75 (bg [.d ak,.d (.sl ar)] [.sl ep,i64] Bw):=
 oP w6 qsu qsv (fn:=f75)
def nE (n:Nat) (s:List aw.den):Prop:=∀ x∈s,0<=x.1/\x.1<(n:Int)
def qv2 (k:Int×(List bn.den)×Int×Int×Int×(List ar.den)×(List ar.den)×ak.den) (n:Nat) (hk:0<=k.2.2.1/\k.2.2.1<(n:Int)) (s:List aw.den) (hs:nE n s) (hb:s.length+k.2.1.length<=4000) :
  bM (wc k True) 0 k.2.1 s/\(bO (wc k True) 0 k.2.1 s).length=s.length+k.2.1.length/\nE n (bO (wc k True) 0 k.2.1 s):=
 dk (step:=wc k True) (λj (r:List aw.den)=>r.length=s.length+j/\nE n r) k.2.1 (λj e r he hr=>by
  have hj:=eD he;have hx:=ew;have hr1:=hr.1;refine⟨uT,?_,?_,λx hxm=>?_⟩
  ·show r.length+1<=maxLen/\(r.length+1)*32<=140737488355328;omega
  ·rw[ub4];show r.length+1=_;omega
  ·rcases udo.1 hxm with h|h
   ·exact hr.2 x h
   ·rw[ucd.1 h]; exact hk) s ⟨rfl,hs⟩
def zay {l:List ar.den} (i:Nat):ej (l.take i)<=ej l:=by
 have:ej l=ej (l.take i)+ej (l.drop i):=by
  conv=>lhs; rw[<- ua9 i l]
  unfold ej;rw[uds,List.sum_append]
 omega
def qv3 (c:ak.den) (l:List ar.den) (hl:l.length<=2000) (hs:ej l<=2000) :
  T3 ((l.length:Int),l,l,c) []/\(IF ((l.length:Int),l,l,c) []).length=ej l/\nE l.length (IF ((l.length:Int),l,l,c) []):=by
 have key:=dk (step:=DY ((l.length:Int),l,l,c) True) (λi (s:List aw.den)=>s.length=ej (l.take i)/\nE l.length s) l (λi e s he hh=>by
  have hi:=eD he;have h1:=V2 he;have h2:=zay (l:=l) (i+1);have h3:=hh.1;have hb:s.length+List.length (α:=bn.den) e.2.1<=4000:=by omega
  obtain⟨k1,k2,k3⟩:=qv2 ((List.length (α:=bn.den) e.2.1:Int),e.2.1,(i:Int),(i:Int),(l.length:Int),l,l,c) l.length ⟨ub2 _,Int.ofNat_lt.2 hi⟩ s hh.2 hb;refine⟨uT,dI (show List.length (α:=bn.den) e.2.1<=1000000000 by omega),k1,k2.trans ?_,k3⟩;rw[h1,h3]) [] ⟨rfl,λ_ h=>(nomatch h)⟩
 rw[List.take_length] at key;exact key
def toNat_lt (h:0<=a/\a<(n:Int)):Int.toNat a<n:=by omega
structure PdI (n i:Nat) (s:Int×(List Int)×(List Int)×(List ep.den)):Prop where
 a:s.2.1.length=n
 b:s.2.2.1.length=n
 len:s.2.2.2.length<=i
 at_:∀ x∈s.2.2.2,0<=x.1/\x.1<(n:Int)
def qv4 (k:Int×ak.den×(List aw.den)) (n:Nat) (hk:nE n k.2.2) (hl:k.2.2.length<=4000) (s:Int×(List Int)×(List Int)×(List ep.den)) (h0:PdI n 0 s) :
  T4 k s/\PdI n k.2.2.length (Ra k s):=
 dk (step:=DZ k True) (PdI n) k.2.2 (λi e s he h=>by
  have hi:=eD he;have hx:=ew;have hin:=hk e (ube he);have hn:Int.toNat e.1<n:=toNat_lt hin;have ra:0<=e.1/\e.1<(s.2.1.length:Int):=by rw[h.a]; exact hin
  have rb:0<=e.1/\e.1<(s.2.2.1.length:Int):=by rw[h.b]; exact hin
  have na:Int.toNat e.1<s.2.1.length:=by rw[h.a]; exact hn
  have nb:Int.toNat e.1<s.2.2.1.length:=by rw[h.b]; exact hn
  have sa:∀ v,(s.2.1.set (Int.toNat e.1) v).length=n:=λv=>by rw[udk]; exact h.a
  have sb:∀ v,(s.2.2.1.set (Int.toNat e.1) v).length=n:=λv=>by rw[udk]; exact h.b
  have hlen:=h.len;refine⟨uT,(lK hi rfl).2,λ_=>⟨h.a,h.b,Nat.le_succ_of_le h.len,h.at_⟩,λ_=>⟨ra,na,ra,na,by rw[sa]; exact hin,by rw[sa]; exact hn,rb,nb,rb,nb,λ_=>⟨sa _,h.b,Nat.le_succ_of_le h.len,h.at_⟩,λ_=>⟨rb,nb,rb,nb,?_,?_⟩⟩⟩
  ·show s.2.2.2.length+1<=maxLen/\(s.2.2.2.length+1)*24<=140737488355328;omega
  ·refine⟨sa _,sb _,?_,λx hxm=>?_⟩
   ·show(_++[_]).length<=i+1;rw[ub4];exact Nat.succ_le_succ h.len
   ·rcases udo.1 hxm with hm|hm
    ·exact h.at_ x hm
    ·rw[ucd.1 hm]; exact hin) s h0
def Si (hn:n<=1000000) (h:0<=a/\a<(n:Int)):0<=a/\a<18446744073709551616:=by omega
def qvi (hn:n<=1000000) {s:List aw.den} (h:nE n s):gR Fp s:=by
 refine⟨λ_ _ _ _=>uT,yg,λx hx y hy=>?_⟩;have h1:=h x hx;have h2:=h y hy;show decide ((qB.f (x,y,())).1<0)=decide (yg x<yg y);exact ude.2 (qah (Si hn h1) (Si hn h2))
def WJ (n:Nat):(E6 n).length=n:=by
 unfold E6;rw[List.length_replicate,ucy]
def N2 (l:List ar.den) (y:aa [.sl ep,i64]):Prop:=List.length (α:=ep.den) y.1<=4000/\(∀ x:ep.den,x∈(y.1:List ep.den)->0<=x.1/\x.1<(l.length:Int))/\(y.2.1=0->l.length<=2000)
def TQ (c:ak.den) (l:List ar.den) (h:ev l):(Bw (c,l,())).satP (N2 l):=by
 unfold Bw;refine⟨h,λhe=>⟨ufa _,λ_ h=>(nomatch h),λh0=>?_⟩,λhe=>?_⟩
 ·have he':((qC.f (c,l,())).1 != 0)=true:=he;have h0':(qC.f (c,l,())).1=0:=h0;rw[h0'] at he';cases he'
 ·have he':(qC.f (c,l,())).1=0:=by simpa using he
  obtain⟨h1,h2⟩:=qdb c l h he';have h3:l.length<=1000000:=uek h1 (by decide);refine fz (A:=λ(s:List aw.den)=>s.length=ej l/\nE l.length s) (dI (uek h1 (by decide))) (qv3 c l h1 h2) (λs hs=>?_);have hl:(jZ s).length<=4000:=by
   unfold jZ;rw[mj,hs.1];omega
  have hin:nE l.length (jZ s):=λx hx=>hs.2 x (yZ.1 hx);have hlen:=hs.1;refine⟨by omega,qvi h3 hs.2,yl h3 (by decide),yl h3 (by decide),fz (A:=PdI l.length (jZ s).length) (dI (uek hl (by decide))) (qv4 (((jZ s).length:Int),c,jZ s) l.length hin hl _ ⟨WJ _,WJ _,ue4 _,λ_ h=>(nomatch h)⟩) (λr hr=>⟨uek hr.len hl,hr.at_,λ_=>h1⟩)⟩
def oz:Ct:=⟨[.d ak,.d (.sl ar)],[.sl ep,i64],λx=>(Bw x).get,λx=>[ev x.2.1]⟩
def qbz:af prog 75 oz:=bW qh6 _ (λx _ hok=>(cO (TQ x.1 x.2.1 hok)).1)
def qv5 (c:ak.den) (l:List ar.den) (h:ev l):N2 l (oz.f (c,l,())):=(cO (TQ c l h)).2
noncomputable def YN:Cx:=cx [(75,oz),(77,wT),(76,GA)] []
def zQ:CxOK prog YN:=aP aG ⟨qbz,TY,qb4,uT⟩ trivial
abbrev De:Pt:=⟨92,0,⟨[(28,.d i64),(27,.d i64),(26,.d (.sl ar)),(6,.d (.sl ep))],[.x 2 125 ak,.r 2 2 0,.o 8 97 aJ]⟩,⟨[(6,.d (.sl ep))],[.x 2 125 ak,.r 2 2 0,.o 8 97 aJ]⟩,⟨[],[]⟩⟩
def DJ (k:Int×(List ar.den)×(List ep.den)×ak.den) (b:Prop) (i:Int) (e:ar.den) (s:(List aJ.den)):Fr ((List aJ.den)):=
 let a:=GA.f (e,());Jd b (Jd (s.length + [a.1].length<=maxLen/\(s.length + [a.1].length)*48<=140737488355328) (Jv (s++[a.1])))
def Zz:De.M.X->Fr De.Out:=FG (λx=>(x.1.1,(x.1.2.1,x.1.2.2.1,x.1.2.2.2.1,x.2.1),x.2.2.1)) (λk=>k.1) (λk=>k.2.1) DJ (λk s=>((k.2.2.1,()),(k.2.2.2,s,())))
def qrt:ae prog (.loop (au f47 0)) De.M De Zz:=
 cN zQ (λi k s=>((i,k.1,k.2.1,k.2.2.1,()),k.2.2.2,s,())) ar.dflt
def QQ:=λk s=>bO (DJ k True) 0 k.2.1 s
def To:=λk s=>bM (DJ k True) 0 k.2.1 s
abbrev Df:Pt:=⟨92,2,⟨[(40,.d i64),(39,.d i64),(38,.d (.sl ep)),(11,.d i64)],[.x 2 125 ak,.r 2 2 0,.o 8 97 aJ]⟩,⟨[(11,.d i64)],[.x 2 125 ak,.r 2 2 0,.o 8 97 aJ]⟩,⟨[],[]⟩⟩
def DK (k:Int×(List ep.den)×ak.den) (b:Prop) (i:Int) (e:ep.den) (s:Int×(List aJ.den)):Fr (Int×(List aJ.den)):=
 let l:=Int.toNat 2;let h:=(s.2.length:Int);let g:=e.2.2.1;let d:=Int.toNat 0;let a:=[e.1,e.2.1,g].getD d 0;let c:=s.2.getD a.toNat aJ.dflt;Jd b (Jd ((0:Int)<=0/\0<(3:Int)) (Jd (0<=[e.1,e.2.1,g].getD d 0/\[e.1,e.2.1,g].getD d 0<h) (Jd (a.toNat<s.2.length) (Jd ((0:Int)<=2/\2<(3:Int)) (Jd (0<=[e.1,e.2.1,g].getD d 0/\[e.1,e.2.1,g].getD d 0<h) (Jd (a.toNat<s.2.length) (Jd ((0:Int)<=2/\2<(3:Int)) (Jv (I6.wrap (s.1 + [e.1,e.2.1,g].getD l 0),s.2.set a.toNat (c.1,c.2.1,I6.wrap (c.2.2.1 + [e.1,e.2.1,g].getD l 0),c.2.2.2))))))))))
def Z0:Df.M.X->Fr Df.Out:=FG (λx=>(x.1.1,(x.1.2.1,x.1.2.2.1,x.2.1),(x.1.2.2.2.1,x.2.2.1))) (λk=>k.1) (λk=>k.2.1) DK (λk s=>((s.1,()),(k.2.2,s.2,())))
def qru:ae prog (.loop (au f47 1)) Df.M Df Z0:=
 cN zQ (λi k s=>((i,k.1,k.2.1,s.1,()),k.2.2,s.2,())) ep.dflt
def QR:=λk s=>bO (DK k True) 0 k.2.1 s
def Tp:=λk s=>bM (DK k True) 0 k.2.1 s
abbrev Dg:Pt:=⟨92,4,⟨[(62,.d i64),(61,.d i64),(11,.d i64)],[.al 60 8,.x 2 125 ak,.r 2 2 0,.o 8 97 aJ]⟩,⟨[],[.o 8 97 aJ]⟩,⟨[],[]⟩⟩
def Rv (c:ak.den) (p:aJ.den) (used:Int):Int:=
 if 0<I6.wrap (Ke c p.1 (I6.wrap (used-p.2.2.1))-p.2.2.1) then I6.wrap (Ke c p.1 (I6.wrap (used-p.2.2.1))-p.2.2.1) else 0
def vW (k:Int×ak.den) (_b:Prop) (i:Int) (_e:Unit) (s:Int×List aJ.den):Fr (Int×List aJ.den):=
 let b:=(s.2.length:Int);let a:=s.2.getD i.toNat aJ.dflt;Jd (0<=i/\i<b) (Jd (i.toNat<s.2.length) (Jb (!a.2.2.2.2.2.1) (Jv s)
  (Jd (0<=i/\i<b) (Jd (i.toNat<s.2.length) (Jv (I6.wrap (s.1+Rv k.2 a s.1),
   s.2.set i.toNat (a.1,a.2.1,a.2.2.1,a.2.2.2.1,Rv k.2 a s.1,a.2.2.2.2.2.1,())))))))
def Z1:Dg.M.X->Fr Dg.Out:=FG (λx=>(x.1.1,(x.1.2.1,x.2.1),(x.1.2.2.1,x.2.2.1))) (λk=>k.1) (λk=>List.replicate k.1.toNat ()) vW (λ_ s=>((),s.2,()))
def qrv:ae prog (.loop (au f47 2)) Dg.M Dg Z1:=
 cN zQ (λi k s=>((i,k.1,s.1,()),k.2,s.2,())) ()
def Bv (x:ag [.d ak,.d (.sl ar)]):Fr (aa [.sl aJ,i64]):=
 Jd (ev x.2.1) (Jb ((oz.f x).2.1 != 0) (Jv ([],(oz.f x).2.1,()))
  (cI (InK ((List.length x.2.1):Int) 0 (List.length x.2.1)) (To (((List.length x.2.1):Int),x.2.1,(oz.f x).1,x.1) []) (QQ (((List.length x.2.1):Int),x.2.1,(oz.f x).1,x.1) []) (λs0=>
   cI (InK ((List.length (oz.f x).1):Int) 0 (List.length (oz.f x).1)) (Tp ((List.length (oz.f x).1:Int),(oz.f x).1,x.1) (0,s0)) (QR ((List.length (oz.f x).1:Int),(oz.f x).1,x.1) (0,s0)) (λs1=>
    cI (InK (s1.2.length:Int) 0 (List.replicate (Int.toNat (s1.2.length:Int)) ()).length) (bM (vW ((s1.2.length:Int),x.1) True) 0 (List.replicate (Int.toNat (s1.2.length:Int)) ()) s1) (bO (vW ((s1.2.length:Int),x.1) True) 0 (List.replicate (Int.toNat (s1.2.length:Int)) ()) s1) (λs2=>Jv (s2.2,0,()))))))
def qh5:af prog 47 (bg [.d ak,.d (.sl ar)] [.sl aJ,i64] Bv):=
 Qy zQ qrt qru qrv (fn:=f47)
def qar (c:ak.den) (l:List ar.den) (r:List ep.den) (hl:l.length<=2000):To ((l.length:Int),l,r,c) []/\(QQ ((l.length:Int),l,r,c) []).length=l.length:=
 dk (step:=DJ ((l.length:Int),l,r,c) True) (λi (s:List aJ.den)=>s.length=i) l (λi e s he hs=>by
  have hi:=eD he;have hx:=ew;refine⟨uT,?_,?_⟩
  ·show s.length+1<=maxLen/\(s.length+1)*48<=140737488355328;omega
  ·show(s++[_]).length=i+1;rw[ub4,hs];rfl) [] rfl
def qas (c:ak.den) (r:List ep.den) (n:Nat) (hr:∀ x:ep.den,x∈r->0<=x.1/\x.1<(n:Int)) (s:Int×List aJ.den) (hs:s.2.length=n):Tp ((r.length:Int),r,c) s/\(QR ((r.length:Int),r,c) s).2.length=n:=
 dk (step:=DK ((r.length:Int),r,c) True) (λ_ (s:Int×List aJ.den)=>s.2.length=n) r (λi e s he hs=>by
  have hin:=hr e (ube he);have hn:=toNat_lt hin;have ha:0<=e.1/\e.1<(s.2.length:Int):=by rw[hs]; exact hin
  have hb:Int.toNat e.1<s.2.length:=by rw[hs]; exact hn
  refine⟨uT,by decide,ha,hb,by decide,ha,hb,by decide,?_⟩;show(List.set _ _ _).length=n;rw[udk];exact hs) s hs
def qat (c:ak.den) (n:Nat) (s:Int×List aJ.den) (hs:s.2.length=n):bM (vW ((n:Int),c) True) 0 (List.replicate (Int.toNat (n:Int)) ()) s/\(bO (vW ((n:Int),c) True) 0 (List.replicate (Int.toNat (n:Int)) ()) s).2.length=n:=
 dk (step:=vW ((n:Int),c) True) (λ_ (s:Int×List aJ.den)=>s.2.length=n) (List.replicate (Int.toNat (n:Int)) ()) (λi e s he hs=>by
  have hi:=eD he;rw[List.length_replicate,ucy] at hi;obtain⟨h1,h2⟩:=lK hi hs;refine⟨h1,h2,λ_=>hs,λ_=>⟨h1,h2,?_⟩⟩;show(List.set _ _ _).length=n;rw[udk];exact hs) s hs
def NG (c:ak.den) (l:List ar.den) (h:ev l):(Bv (c,l,())).satP (λy=>y.2.1=0->List.length (α:=aJ.den) y.1=l.length):=by
 unfold Bv;obtain⟨p1,p2,p3⟩:=qv5 c l h;refine⟨h,λhe h0=>?_,λhe=>?_⟩
 ·have he':((oz.f (c,l,())).2.1 != 0)=true:=he;have h0':(oz.f (c,l,())).2.1=0:=h0;rw[h0'] at he';cases he'
 ·have he':(oz.f (c,l,())).2.1=0:=by simpa using he
  have hl:=p3 he';have hi:List.length (oz.f (c,l,())).1<=1000000000:=uek p1 (by decide);refine fz (A:=λ(s:List aJ.den)=>s.length=l.length) (dI (uek hl (by decide))) (qar c l _ hl) (λs0 h0=>?_);refine fz (A:=λ(s:Int×List aJ.den)=>s.2.length=l.length) (dI hi) (qas c _ l.length p2 (0,s0) h0) (λs1 h1=>?_);refine fz (A:=λ(s:Int×List aJ.den)=>s.2.length=s1.2.length) ?_ (qat c s1.2.length s1 rfl) (λs2 h2 _=>h2.trans h1);rw[List.length_replicate,ucy];refine dI ?_;rw[h1];exact uek hl (by decide)
def xa:Ct:=⟨[.d ak,.d (.sl ar)],[.sl aJ,i64],λx=>(Bv x).get,λx=>[ev x.2.1]⟩
def qby:af prog 47 xa:=bW qh5 _ (λx _ hok=>(cO (NG x.1 x.2.1 hok)).1)
def qag (c:ak.den) (l:List ar.den) (h:ev l) (h0:(xa.f (c,l,())).2.1=0):List.length (α:=aJ.den) (xa.f (c,l,())).1=l.length:=(cO (NG c l h)).2 h0
def BF (x:ag [.d bi,.ptr ar,.ptr ak]):Fr (aa [.bool]):=
 let b:=x.2.2.1;let a:=x.1.2.1;Jv (bif x.1.1==x.2.1.1.2.1 then a.1==b.1&&(a.2.1==b.2.1&&(a.2.2.1==b.2.2.1&&(a.2.2.2.1==b.2.2.2.1&&(a.2.2.2.2.1==b.2.2.2.2.1&&true)))) else false,())
def qjg:af prog 74 ⟨[.d bi,.ptr ar,.ptr ak],[.bool],λxs=>(BF xs).get,λxs=>[(BF xs).ok]⟩:=
 cf aH (Λ:=bw) (fn:=f74) (aW [.d bi,.ptr ar,.ptr ak]) (by kernel_rfl) (λc E _=>aY c 0) (λx=>by kernel_rfl)
def AQ:Ct:=⟨[.d bi,.ptr ar,.ptr ak],[.bool],λx=>(BF x).get,λ_=>[]⟩
def qck:af prog 74 AQ:=bW qjg _ (λx hw _=>uT)
noncomputable def Hm:List (FuncId×Ct):=[(71,wN),(72,Ax),(74,AQ),(73,eE bi)]
def qet:iz prog Hm:=⟨NA,OR,qck,qng,uT⟩
noncomputable def UF:List (FuncId×Row):=[(1000000000000+143,.rw 6 3)]
noncomputable def Mx:Cx:=l8 Hm [] UF (λ_ _ _ _=>none)
def EU:CxOK prog Mx:=mI (cs:=Hm) (ps:=[]) (rs:=UF) aG qet trivial ⟨uT,uT⟩ (λ_ _ _ _ _ h=>(nomatch h))
abbrev lU:Pt:=⟨70,0,⟨[(15,.d i64),(14,.d i64),(13,.d (.sl ar))],[.x 1 82 aq,.r 1 1 0,.o 4 (ed 143 6 3) bi]⟩,⟨[],[.o 4 (ed 143 6 3) bi]⟩,⟨[(2,.d (.sl bi)),(3,.d i64)],[]⟩⟩
def Hj (st:aq.den) (f:ar.den):aa [ak,i64]:=Ax.f ((wN.f (st,f.1.2.1,())).1.1,st.1,f.1,())
def Ja (st:aq.den) (f:ar.den) (s:List bi.den):Int:=((eE bi).f (s,λx=>AQ.f (x.1,f,(Hj st f).1,()),())).1
def SY (st:aq.den) (f:ar.den):bi.den:=(f.1.2.1,(Hj st f).1,[],())
def qwt (s:List bi.den) (j i:Int):List bi.den:=s.set j.toNat ((s.getD j.toNat bi.dflt).1,(s.getD j.toNat bi.dflt).2.1,(s.getD j.toNat bi.dflt).2.2.1++[i],())
def Ls (s:List bi.den) (j i:Int):Fr (List bi.den ⊕ ρ):=
 Jd (0<=j/\j<(s.length:Int)) (Jd (j.toNat<s.length) (Jd (List.length (α:=Int) (s.getD j.toNat bi.dflt).2.2.1+1<=maxLen/\(List.length (α:=Int) (s.getD j.toNat bi.dflt).2.2.1+1)*8<=140737488355328)
  (Jd (0<=j/\j<(s.length:Int)) (Jd (j.toNat<s.length/\j.toNat=j.toNat) (Jv (.inl (qwt s j i)))))))
def DV (k:Int×(List ar.den)×aq.den) (b:Prop) (i:Int) (e:ar.den) (s:List bi.den):Fr ((List bi.den) ⊕ lU.R.X):=
 let a:=Hj k.2.2 e;Jd b (Jd (bL (wN.f (k.2.2,e.1.2.1,())).1.1) (Jd (bJ k.2.2.1) (Jb (a.2.1 != 0) (Jv (.inr (([],a.2.1,()),())))
  (Jd (∀ (x:aa [bi]),fi [bi] x->av (AQ.ok (x.1,e,a.1,()))) (Jb (decide (Ja k.2.2 e s<0))
   (Jd (s.length+1<=maxLen/\(s.length+1)*72<=140737488355328) (Ls (s++[SY k.2.2 e]) (s.length:Int) i)) (Ls s (Ja k.2.2 e s) i))))))
def Nb:lU.M.X->Fr lU.Out:=FK (λx=>(x.1.1,(x.1.2.1,x.1.2.2.1,x.2.1),x.2.2.1)) (λk=>k.1) (λk=>k.2.1) DV (λk s=>((),s,())) (λ_ y=>Rd.back y) ([]) (aW _,bN _)
def qsc:ae prog (.loop (au f46 0)) lU.M lU Nb:=
 lm EU (λi k s=>((i,k.1,k.2.1,()),k.2.2,s,())) ar.dflt
def QY:=λk s=>da (DV k True) 0 k.2.1 s
def Tx:=λk s=>eJ (DV k True) 0 k.2.1 s
def zd7 (Γ:Gm):St->Option Tr:=lU.han Γ lU.M Nb
def BE (x:ag [.d aq]):Fr (aa [.sl bi,i64]):=
 iY (InK (((List.length x.1.2.2.1):Int)) 0 (List.length x.1.2.2.1)) (Tx (((List.length x.1.2.2.1):Int),x.1.2.2.1,x.1) []) (QY (((List.length x.1.2.2.1):Int),x.1.2.2.1,x.1) []) ([]) (aW _,bN _) (λs0=>Jv (s0,0,())) (λy0=>Jv y0.1)
def qjh:af prog 46 ⟨[.d aq],[.sl bi,i64],λxs=>(BE xs).get,λxs=>[(BE xs).ok]⟩:=
 cf EU (Λ:=(λ_=>zd7 Mx.Γ)) (fn:=f46) (aW [.d aq]) (by kernel_rfl) (λc E hc=>ea hc (by kernel_rfl) (b:=au f46 0) (by kernel_rfl) (ae.han EU rfl qsc)) (λx=>by kernel_rfl)
structure GrI (n i:Nat) (s:List bi.den):Prop where
 len:s.length<=i
 at_:∀ g:bi.den,g∈s->List.length (α:=Int) g.2.2.1<=i/\∀ k:Int,k∈(g.2.2.1:List Int)->0<=k/\k<(n:Int)
def GrI.up {s:List bi.den} (h:GrI n i s):GrI n (i+1) s:=⟨Nat.le_succ_of_le h.len,λg hg=>⟨Nat.le_succ_of_le (h.at_ g hg).1,(h.at_ g hg).2⟩⟩
def VT {B:ρ->Prop} {s:List bi.den} {j:Int} (hi:i<n) (hn:n<=1000000) (hm:s.length<=m) (hj:0<=j/\j<(s.length:Int)) (hs:∀ g:bi.den,g∈s->List.length (α:=Int) g.2.2.1<=i/\∀ k:Int,k∈(g.2.2.1:List Int)->0<=k/\k<(n:Int)) :
  (Ls (ρ:=ρ) s j i).satP (my (λr=>r.length<=m/\∀ g:bi.den,g∈r->List.length (α:=Int) g.2.2.1<=i+1/\∀ k:Int,k∈(g.2.2.1:List Int)->0<=k/\k<(n:Int)) B):=by
 have hjn:=toNat_lt hj;have hg:s.getD j.toNat bi.dflt∈s:=by
  rw[uah,uap hjn];exact udf _
 have h1:=hs _ hg;have h2:=h1.1;have hx:=ew;refine⟨hj,hjn,⟨by omega,by omega⟩,hj,⟨hjn,rfl⟩,?_,λg hgm=>?_⟩
 ·show(List.set _ _ _).length<=m;rw[udk];exact hm
 ·rcases uao hgm with h|h
  ·exact⟨Nat.le_succ_of_le (hs g h).1,(hs g h).2⟩
  ·rw[h];refine⟨?_,λk hk=>?_⟩
   ·show((s.getD j.toNat bi.dflt).2.2.1++[(i:Int)]).length<=i+1;rw[ub4];exact Nat.succ_le_succ h2
   ·rcases udo.1 hk with h4|h4
    ·exact h1.2 k h4
    ·rw[ucd.1 h4];omega
def qmw (st:aq.den) (hf:bD st):Tx ((List.length (α:=ar.den) (bq st):Int),bq st,st) []/\my (GrI (List.length (α:=ar.den) (bq st)) (List.length (α:=ar.den) (bq st))) (λy=>y.1.1=[]) (QY ((List.length (α:=ar.den) (bq st):Int),bq st,st) []):=
 nm (step:=DV ((List.length (α:=ar.den) (bq st):Int),bq st,st) True) (GrI (List.length (α:=ar.den) (bq st))) (λ(y:lU.R.X)=>y.1.1=[]) (bq st) (λi e s he hs=>by
  have hi:=eD he;have hn:List.length (α:=ar.den) (bq st)<=100000:=hf.2.2.1;have hx:=ew;have hl:=hs.len;refine⟨uT,N9 hf _,hf.1,λ_=>rfl,λ_=>⟨λ_ _=>uT,λ_=>⟨⟨by omega,by omega⟩,?_⟩,λh=>?_⟩⟩
  ·refine Fr.satP_mono (λr hr=>?_) (VT (ρ:=lU.R.X) (B:=λy=>y.1.1=[]) (m:=i+1) (s:=s++[SY st e]) (j:=(s.length:Int)) hi (by omega) ?_ ?_ (λg hg=>?_))
   ·cases r with
    |inl r=>exact⟨hr.1,hr.2⟩
    |inr y=>exact hr
   ·rw[ub4];exact Nat.succ_le_succ hl
   ·rw[ub4];show 0<=(s.length:Int)/\(s.length:Int)<((s.length+1:Nat):Int);omega
   ·rcases udo.1 hg with h|h
    ·exact hs.at_ g h
    ·rw[ucd.1 h];exact⟨ufa _,λ_ h=>(nomatch h)⟩
  ·have h0:0<=Ja st e s:=by
    have:=ucf h;exact ufe.1 this
   have h1:=(xZ h0).1;refine Fr.satP_mono (λr hr=>?_) (VT (ρ:=lU.R.X) (B:=λy=>y.1.1=[]) (m:=i+1) hi (by omega) (Nat.le_succ_of_le hl) ⟨h0,h1⟩ hs.at_);cases r with
   |inl r=>exact⟨hr.1,hr.2⟩
   |inr y=>exact hr) [] ⟨ufa _,λ_ h=>(nomatch h)⟩
def Nu (n:Nat) (y:aa [.sl bi,i64]):Prop:=List.length (α:=bi.den) y.1<=n/\∀ g:bi.den,g∈(y.1:List bi.den)->List.length (α:=Int) g.2.2.1<=n/\∀ k:Int,k∈(g.2.2.1:List Int)->0<=k/\k<(n:Int)
def Rn (st:aq.den) (hf:bD st):(BE (st,())).satP (Nu (List.length (α:=ar.den) (bq st))):=by
 have hn:List.length (α:=ar.den) (bq st)<=100000:=hf.2.2.1;refine E3 (dI (uek hn (by decide))) (qmw st hf) (λs hs=>⟨hs.len,hs.at_⟩) (λy hy=>?_);have hy:y.1.1=[]:=hy;refine⟨?_,λg hg=>?_⟩
 ·show List.length y.1.1<=_;rw[hy];exact ufa _
 ·have hg:g∈y.1.1:=hg;rw[hy] at hg;cases hg
def AP:Ct:=⟨[.d aq],[.sl bi,i64],λx=>(BE x).get,λx=>[bD x.1]⟩
def qcl:af prog 46 AP:=bW qjh _ (λx _ hok=>(cO (Rn x.1 hok)).1)
def qmv (st:aq.den) (hf:bD st):Nu (List.length (α:=ar.den) (bq st)) (AP.f (st,())):=(cO (Rn st hf)).2
noncomputable def EV:Cx:=cx [(46,AP),(47,xa)] []
def s9:CxOK prog EV:=aP aG ⟨qcl,qby,uT⟩ trivial
abbrev vo:Pt:=⟨78,2,⟨[(37,.d i64),(36,.d i64),(35,.d aK),(30,.d i64),(29,.d i64),(28,.d (.sl bi))],[.x 1 82 aq,.r 1 1 0,.x 8 143 bi,.r 8 8 0,.o 6 97 aJ,.o 9 146 ar]⟩,⟨[(30,.d i64),(29,.d i64),(28,.d (.sl bi))],[.x 1 82 aq,.r 1 1 0,.x 8 143 bi,.r 8 8 0,.o 6 97 aJ,.o 9 146 ar]⟩,⟨[],[]⟩⟩
def DT (k:Int×(List Int)×Int×Int×(List bi.den)×aq.den×bi.den×(List aJ.den)) (b:Prop) (i:Int) (e:i64.den) (s:(List ar.den)):Fr ((List ar.den)):=
 let a:=List.getD k.2.2.2.2.2.1.2.2.1 (Int.toNat e) ar.dflt;Jd b (Jd (0<=e/\e<((List.length k.2.2.2.2.2.1.2.2.1):Int)) (Jd (s.length + [a].length<=maxLen/\(s.length + [a].length)*72<=140737488355328) (Jv (s++[a]))))
noncomputable def RB:Code:=((Go.Ab.loopB (au f25 0) 0).getD .skip)
def MZ:vo.M.X->Fr vo.Out:=FG (λx=>(x.1.1,(x.1.2.1,x.1.2.2.1,x.1.2.2.2.1,x.1.2.2.2.2.1,x.1.2.2.2.2.2.1,x.2.1,x.2.2.1,x.2.2.2.1),x.2.2.2.2.1)) (λk=>k.1) (λk=>k.2.1) DT (λk s=>((k.2.2.1,k.2.2.2.1,k.2.2.2.2.1,()),(k.2.2.2.2.2.1,k.2.2.2.2.2.2.1,k.2.2.2.2.2.2.2,s,())))
def qr9:ae prog (.loop RB) vo.M vo MZ:=
 cN s9 (λi k s=>((i,k.1,k.2.1,k.2.2.1,k.2.2.2.1,k.2.2.2.2.1,()),k.2.2.2.2.2.1,k.2.2.2.2.2.2.1,k.2.2.2.2.2.2.2,s,())) i64.dflt
def IE:=λk s=>bO (DT k True) 0 k.2.1 s
def Tv:=λk s=>bM (DT k True) 0 k.2.1 s
def zd5 (Γ:Gm):St->Option Tr:=vo.han Γ vo.M MZ
abbrev vq:Pt:=⟨78,4,⟨[(63,.d i64),(62,.d i64),(61,.d aK),(12,.d (.sl aJ)),(30,.d i64),(29,.d i64),(28,.d (.sl bi))],[.x 1 82 aq,.r 1 1 0,.o 6 97 aJ]⟩,⟨[(30,.d i64),(29,.d i64),(28,.d (.sl bi))],[.x 1 82 aq,.r 1 1 0,.o 6 97 aJ]⟩,⟨[],[]⟩⟩
def DU (k:Int×(List Int)×(List aJ.den)×Int×Int×(List bi.den)×aq.den) (b:Prop) (i:Int) (e:i64.den) (s:(List aJ.den)):Fr ((List aJ.den)):=
 Jd b (Jd (0<=i/\i<((List.length k.2.2.1):Int)) (Jd (0<=e/\e<(s.length:Int)) (Jd (Int.toNat e<s.length) (Jv (s.set (Int.toNat e) (List.getD k.2.2.1 (Int.toNat i) aJ.dflt))))))
noncomputable def RC:Code:=((Go.Ab.loopB (au f25 0) 1).getD .skip)
def Na:vq.M.X->Fr vq.Out:=FG (λx=>(x.1.1,(x.1.2.1,x.1.2.2.1,x.1.2.2.2.1,x.1.2.2.2.2.1,x.1.2.2.2.2.2.1,x.1.2.2.2.2.2.2.1,x.2.1),x.2.2.1)) (λk=>k.1) (λk=>k.2.1) DU (λk s=>((k.2.2.2.1,k.2.2.2.2.1,k.2.2.2.2.2.1,()),(k.2.2.2.2.2.2,s,())))
def qsa:ae prog (.loop RC) vq.M vq Na:=
 cN s9 (λi k s=>((i,k.1,k.2.1,k.2.2.1,k.2.2.2.1,k.2.2.2.2.1,k.2.2.2.2.2.1,()),k.2.2.2.2.2.2,s,())) i64.dflt
def QX:=λk s=>bO (DU k True) 0 k.2.1 s
def Tw:=λk s=>bM (DU k True) 0 k.2.1 s
def zd6 (Γ:Gm):St->Option Tr:=vq.han Γ vq.M Na
abbrev rN:Pt:=⟨78,0,⟨[(30,.d i64),(29,.d i64),(28,.d (.sl bi))],[.x 1 82 aq,.r 1 1 0,.o 6 97 aJ]⟩,⟨[],[.o 6 97 aJ]⟩,⟨[(2,.d (.sl aJ)),(3,.d i64)],[]⟩⟩
abbrev yb:Type:=Int×List bi.den×aq.den
def nZ (g:bi.den):List Int:=g.2.2.1
def RZ (k:yb) (i:Int) (g:bi.den) (s:List aJ.den):Int×(List Int)×Int×Int×(List bi.den)×aq.den×bi.den×(List aJ.den):=(((nZ g).length:Int),nZ g,i,k.1,k.2.1,k.2.2,g,s)
def zj (g:bi.den) (l:List ar.den):aa [.sl aJ,i64]:=xa.f (g.2.1,l,())
def Ji (k:yb) (i:Int) (g:bi.den) (l:List ar.den):Int×(List Int)×(List aJ.den)×Int×Int×(List bi.den)×aq.den:=(((nZ g).length:Int),nZ g,(zj g l).1,i,k.1,k.2.1,k.2.2)
def KZ (k:yb) (b:Prop) (i:Int) (e:bi.den) (s:List aJ.den):Fr (List aJ.den ⊕ rN.R.X):=
 Jd b (cI (InK ((nZ e).length:Int) 0 (nZ e).length) (Tv (RZ k i e s) []) (IE (RZ k i e s) []) (λl=>
  Jd (ev l) (Jb ((zj e l).2.1 != 0) (Jv (.inr (([],(zj e l).2.1,()),())))
   (cI (InK ((nZ e).length:Int) 0 (nZ e).length) (Tw (Ji k i e l) s) (QX (Ji k i e l) s) (λo=>Jv (.inl o))))))
def Z7:rN.M.X->Fr rN.Out:=FK (λx=>(x.1.1,((x.1.2.1,x.1.2.2.1,x.2.1):yb),x.2.2.1)) (λk=>k.1) (λk=>k.2.1) KZ (λ_ s=>((),s,())) (λ_ y=>Rd.back y) [] (aW _,bN _)
def qsb:ae prog (.loop (au f25 0)) rN.M rN Z7:=
 lm s9 (λi k s=>((i,k.1,k.2.1,()),k.2.2,s,())) bi.dflt (Λ:=(λk=>if k=0 then zd5 EV.Γ else zd6 EV.Γ)) (hΛ:=λ_=>Sm (by kernel_rfl) (b0:=RB) (b1:=RC) (by kernel_rfl) (by kernel_rfl) (ae.han s9 rfl qr9) (ae.han s9 rfl qsa))
def kK (st:aq.den):aa [.sl bi,i64]:=AP.f (st,())
def Cz (st:aq.den):yb:=((List.length (α:=bi.den) (kK st).1:Int),(kK st).1,st)
def zjy (x:ag [.d aq]):Fr (aa [.sl aJ,i64]):=
 Jd (bD x.1) (Jb ((kK x.1).2.1 != 0) (Jv ([],(kK x.1).2.1,()))
  (Jd (uI (List.length x.1.2.2.1) 48)
   (iY (InK (List.length (kK x.1).1:Int) 0 (List.length (kK x.1).1)) (eJ (KZ (Cz x.1) True) 0 (kK x.1).1 (List.replicate (Int.toNat (List.length x.1.2.2.1:Int)) aJ.dflt)) (da (KZ (Cz x.1) True) 0 (kK x.1).1 (List.replicate (Int.toNat (List.length x.1.2.2.1:Int)) aJ.dflt)) [] (aW _,bN _)
    (λs=>Jv (s,0,())) (λy=>Jv y.1))))
def qja:af prog 25 (bg [.d aq] [.sl aJ,i64] zjy):=
 cS s9 qsb (fn:=f25)
def qkr (k:Int×(List Int)×Int×Int×(List bi.den)×aq.den×bi.den×(List aJ.den)) (hl:k.2.1.length<=100000) (hk:∀ x∈k.2.1,0<=x/\x<(List.length (α:=ar.den) (bq k.2.2.2.2.2.1):Int)) :
  Tv k []/\(IE k []).length=k.2.1.length/\∀ f∈IE k [],f∈bq k.2.2.2.2.2.1:=
 dk (step:=DT k True) (λj (r:List ar.den)=>r.length=j/\∀ f∈r,f∈bq k.2.2.2.2.2.1) k.2.1 (λj e r he hr=>by
  have hj:=eD he;have hin:=hk e (ube he);have hn:=toNat_lt hin;have hx:=ew;have h1:=hr.1;refine⟨uT,hin,?_,?_,λf hf=>?_⟩
  ·show r.length+1<=maxLen/\(r.length+1)*72<=140737488355328;omega
  ·rw[ub4];exact ufm (· + 1) h1
  ·rcases udo.1 hf with h|h
   ·exact hr.2 f h
   ·rw[ucd.1 h];exact fo hin) [] ⟨rfl,λ_ h=>(nomatch h)⟩
def qks (k:Int×(List Int)×(List aJ.den)×Int×Int×(List bi.den)×aq.den) (n:Nat) (hl:k.2.1.length=k.2.2.1.length) (hk:∀ x∈k.2.1,0<=x/\x<(n:Int)) (s:List aJ.den) (hs:s.length=n) :
  Tw k s/\(QX k s).length=n:=
 dk (step:=DU k True) (λ_ (r:List aJ.den)=>r.length=n) k.2.1 (λj e r he hr=>by
  have hj:=eD he;rw[hl] at hj;have hin:=hk e (ube he);have hn:=toNat_lt hin;refine⟨uT,(lK hj rfl).1,by rw[hr]; exact hin,by rw[hr]; exact hn,?_⟩;show(List.set _ _ _).length=n;rw[udk];exact hr) s hs
def Qr (st:aq.den) (hf:bD st) (hl:ev (bq st)):(zjy (st,())).satP (λy=>y.2.1=0->List.length (α:=aJ.den) y.1=List.length (α:=ar.den) (bq st)):=by
 obtain⟨g1,g2⟩:=qmv st hf;have hn:List.length (α:=ar.den) (bq st)<=100000:=hf.2.2.1;refine⟨hf,λhe h0=>?_,λhe=>⟨yl (uek hn (by decide)) (by decide),E3 (A:=λ(s:List aJ.den)=>s.length=List.length (α:=ar.den) (bq st)) (B:=λ(y:rN.R.X)=>y.1.2.1≠0) (dI (uek g1 (uek hn (by decide)))) ?_ (λs hs _=>hs) (λy hy h0=>absurd h0 hy)⟩⟩
 ·have he':((kK st).2.1 != 0)=true:=he;have h0':(kK st).2.1=0:=h0;rw[h0'] at he';cases he'
 ·refine nm (step:=KZ (Cz st) True) (λ_ (s:List aJ.den)=>s.length=List.length (α:=ar.den) (bq st)) (λ(y:rN.R.X)=>y.1.2.1≠0) (kK st).1 (λi e s he hs=>?_) _ ?_
  ·obtain⟨a1,a2⟩:=g2 e (ube he);have a3:(nZ e).length<=100000:=uek a1 hn;refine⟨uT,fz (A:=λ(l:List ar.den)=>l.length=(nZ e).length/\∀ f∈l,f∈bq st) (dI (uek a3 (by decide))) (qkr (RZ (Cz st) i e s) a3 a2) (λl hl2=>?_)⟩;have hfl:ev l:=⟨by rw[hl2.1]; exact uek a3 (by decide),λf hfm=>hl.2 f (hl2.2 f hfm)⟩;refine⟨hfl,λh=>?_,λh=>?_⟩
   ·show(zj e l).2.1≠0;simpa using h
   ·have h0:(zj e l).2.1=0:=by simpa using h
    have h5:=qag e.2.1 l hfl h0;exact fz (A:=λ(o:List aJ.den)=>o.length=List.length (α:=ar.den) (bq st)) (dI (uek a3 (by decide))) (qks (Ji (Cz st) i e l) _ (hl2.1.symm.trans h5.symm) a2 s hs) (λo ho=>ho)
  ·show(List.replicate (Int.toNat (List.length (α:=ar.den) (bq st):Int)) _).length=_;rw[List.length_replicate,ucy]
def tC:Ct:=⟨[.d aq],[.sl aJ,i64],λx=>(zjy x).get,λx=>[bD x.1,ev (bq x.1)]⟩
def O4:af prog 25 tC:=bW qja _ (λx _ hok=>(cO (Qr x.1 hok.1 hok.2)).1)
def qkt (st:aq.den) (hf:bD st) (hl:ev (bq st)) (h0:(tC.f (st,())).2.1=0):List.length (α:=aJ.den) (tC.f (st,())).1=List.length (α:=ar.den) (bq st):=(cO (Qr st hf hl)).2 h0
noncomputable def Fl:FuncId->Option (Func×(Nat->St->Option Tr)):=cu [(43,(f43,bw))]
noncomputable def OX:List (FuncId×Ct):=[(42,A5),(25,tC),(44,tD)]
def qeu:iz prog OX:=⟨Pz,O4,O6,uT⟩
noncomputable def My:Cx:=cW OX [] (fU prog (cx [] []) Fl)
def w7:CxOK prog My:=cZ aG qeu trivial (gG kq (lk (by kernel_rfl) qe))
abbrev yG:Pt:=⟨105,0,⟨[(22,.d i64),(21,.d i64),(20,.d (.sl zjz))],[.x 1 82 aq,.r 1 1 0,.x 4 127 cK,.r 4 4 0,.x 2 85 bS,.r 2 2 0]⟩,⟨[],[.x 1 82 aq,.r 1 1 0,.x 4 127 cK,.r 4 4 0,.x 2 85 bS,.r 2 2 0]⟩,⟨[(3,.d i64)],[.x 2 85 bS,.r 2 2 0]⟩⟩
def nJ (k:α->Fr β):Fr α->Fr β
 |.val x=>k x
 |.br b x y=>.br b (nJ k x) (nJ k y)
 |.need p x=>.need p (nJ k x)
def qg {k:α->Fr β} {Q:β->Prop}:{f:Fr α}->f.satP (λa=>(k a).satP Q)->(nJ k f).satP Q
 |.val _,h=>h
 |.br _ _ _,h=>⟨λhb=>qg (h.1 hb),λhb=>qg (h.2 hb)⟩
 |.need _ _,h=>⟨h.1,qg h.2⟩
def uG (a:bS.den):List Int:=[a.1,a.2.1,a.2.2.1,a.2.2.2.1,a.2.2.2.2.1,a.2.2.2.2.2.1]
def Vg (a:bS.den) (w x:Int):bS.den:=(bif w==0 then x else a.1,bif w==0+1 then x else a.2.1,bif w==0+1+1 then x else a.2.2.1,bif w==0+1+1+1 then x else a.2.2.2.1,bif w==0+1+1+1+1 then x else a.2.2.2.2.1,bif w==0+1+1+1+1+1 then x else a.2.2.2.2.2.1,())
def JY (s:cK.den) (w m:Int):Bool:=bif s.2.1 then true else decide (m>I6.wrap (4000000000000000000-(uG s.1).getD (Int.toNat w) 0))
def nX (w m:Int) (s:cK.den):Fr cK.den:=
 Jd (s.2.1=false->0<=w/\w<(6:Int)) (Jb (!JY s w m)
  (Jd (0<=w/\w<(6:Int)) (Jd (0<=w/\w<(6:Int)) (Jv (Vg s.1 w (I6.wrap ((uG s.1).getD (Int.toNat w) 0+m)),JY s w m,()))))
  (Jv (s.1,JY s w m,())))
def qo {w m:Int} {s:cK.den} (hw:0<=w/\w<6):(nX w m s).satP λ_=>True:=⟨λ_=>hw,λ_=>⟨hw,hw,uT⟩,λ_=>uT⟩
def Ec (k:Int×(List zjz.den)×aq.den×bS.den) (b:Prop) (_i:Int) (e:zjz.den) (s:cK.den):Fr (cK.den ⊕ yG.R.X):=
 let a:=A5.f (e.1,k.2.2.1.1,());Jd b (Jd (bL e.1) (Jd (bJ k.2.2.1.1) (Jb (a.2.1 != 0) (Jv (.inr ((a.2.1,()),(0,0,0,0,0,0,()),())))
  (nJ (λs1=>nJ (λs2=>Jv (.inl s2)) (nX 1 e.2.1 s1)) (nX 0 a.1 s)))))
def ZH:yG.M.X->Fr yG.Out:=FK (λx=>(x.1.1,(x.1.2.1,x.1.2.2.1,x.2.1,x.2.2.2.1),x.2.2.1)) (λk=>k.1) (λk=>k.2.1) Ec (λk s=>((),(k.2.2.1,s,k.2.2.2,()))) (λ_ y=>Rd.back y) cK.dflt (aW _,bN _)
def qs6:ae prog (.loop (au f24 0)) yG.M yG ZH:=
 lm w7 (λi k s=>((i,k.1,k.2.1,()),k.2.2.1,s,k.2.2.2,())) zjz.dflt
abbrev zw:List MI:=[.x 4 127 cK,.r 4 4 0,.x 2 85 bS,.r 2 2 0]
abbrev Vt:List MI:=.x 1 82 aq :: .r 1 1 0::zw
abbrev Dq:Pt:=⟨105,2,⟨[(55,.d i64),(54,.d i64),(53,.d (.sl aJ)),(9,.d (.sl aJ))],Vt⟩,⟨[(9,.d (.sl aJ))],Vt⟩,⟨[],[]⟩⟩
def Ed (_k:Int×(List aJ.den)×(List aJ.den)×aq.den×bS.den) (b:Prop) (_i:Int) (e:aJ.den) (s:cK.den):Fr cK.den:=
 Jd b (nJ (λs1=>nJ (λs2=>nX 4 e.2.2.2.2.1 s2) (nX 3 e.2.2.2.1 s1)) (nX 2 e.2.2.1 s))
def ZI:Dq.M.X->Fr Dq.Out:=FG (λx=>(x.1.1,(x.1.2.1,x.1.2.2.1,x.1.2.2.2.1,x.2.1,x.2.2.2.1),x.2.2.1)) (λk=>k.1) (λk=>k.2.1) Ed (λk s=>((k.2.2.1,()),k.2.2.2.1,s,k.2.2.2.2,()))
def qs7:ae prog (.loop (au f24 1)) Dq.M Dq ZI:=
 cN w7 (λi k s=>((i,k.1,k.2.1,k.2.2.1,()),k.2.2.2.1,s,k.2.2.2.2,())) aJ.dflt
abbrev vC:Pt:=⟨105,6,⟨[(91,.d i64),(90,.d i64),(89,.d j8),(85,.d i64),(84,.d i64),(83,.d (.sl j8))],zw⟩,⟨[(85,.d i64),(84,.d i64),(83,.d (.sl j8))],zw⟩,⟨[],[]⟩⟩
def Eg (_k:Int×(List dq.den)×Int×Int×(List (List dq.den))×bS.den) (b:Prop) (_i:Int) (e:dq.den) (s:cK.den):Fr cK.den:=Jd b (nX 5 e.2.1 s)
def Nq:vC.M.X->Fr vC.Out:=FG (λx=>(x.1.1,(x.1.2.1,x.1.2.2.1,x.1.2.2.2.1,x.1.2.2.2.2.1,x.1.2.2.2.2.2.1,x.2.2.1),x.2.1)) (λk=>k.1) (λk=>k.2.1) Eg (λk s=>((k.2.2.1,k.2.2.2.1,k.2.2.2.2.1,()),s,k.2.2.2.2.2,()))
noncomputable def RH:Code:=(Go.Ab.loopB (au f24 2) 0).getD .skip
def qs9:ae prog (.loop RH) vC.M vC Nq:=
 cN w7 (λi k s=>((i,k.1,k.2.1,k.2.2.1,k.2.2.2.1,k.2.2.2.2.1,()),s,k.2.2.2.2.2,())) dq.dflt
abbrev Dr:Pt:=⟨105,4,⟨[(85,.d i64),(84,.d i64),(83,.d (.sl j8))],zw⟩,⟨[],zw⟩,⟨[],[]⟩⟩
def qow (k:Int×(List (List dq.den))×bS.den) (i:Int) (e:List dq.den):Int×(List dq.den)×Int×Int×(List (List dq.den))×bS.den:=((e.length:Int),e,i,k.1,k.2.1,k.2.2)
def Ee (k:Int×(List (List dq.den))×bS.den) (b:Prop) (i:Int) (e:List dq.den) (s:cK.den):Fr cK.den:=
 Jd b (cI (InK (e.length:Int) 0 e.length) (bM (Eg (qow k i e) True) 0 e s) (bO (Eg (qow k i e) True) 0 e s) (λs=>Jv s))
def ZJ:Dr.M.X->Fr Dr.Out:=FG (λx=>(x.1.1,(x.1.2.1,x.1.2.2.1,x.2.2.1),x.2.1)) (λk=>k.1) (λk=>k.2.1) Ee (λk s=>((),s,k.2.2,()))
def qs8:ae prog (.loop (au f24 2)) Dr.M Dr ZJ:=
 cN w7 (λi k s=>((i,k.1,k.2.1,()),s,k.2.2,())) j8.dflt (Λ:=λ_=>vC.han My.Γ vC.M Nq) (hΛ:=λ_=>kP (by kernel_rfl) (b:=RH) (by kernel_rfl) (ae.han w7 rfl qs9))
abbrev vu:Pt:=⟨41,0,⟨[(11,.d i64),(10,.d i64),(9,.d (.sl aJ))],[.x 2 82 aq,.r 2 2 0,.o 5 99 ay]⟩,⟨[],[.o 5 99 ay]⟩,⟨[],[]⟩⟩
def DX (k:Int×(List aJ.den)×aq.den) (b:Prop) (i:Int) (e:aJ.den) (s:(List ay.den)):Fr ((List ay.den)):=
 let a:=List.getD k.2.2.2.2.1 (Int.toNat i) ar.dflt;let c:=(a.1.1,a.1.2.2.2.2.2.1,a.1.2.2.2.1,a.1.2.2.1,e.2.2.1,());Jd b (Jd (0<=i/\i<((List.length k.2.2.2.2.1):Int)) (Jb (decide (e.2.2.1>0)) (Jd (s.length + [c].length<=maxLen/\(s.length + [c].length)*40<=140737488355328) (Jv (s++[c]))) (Jv s)))
def Ng:vu.M.X->Fr vu.Out:=FG (λx=>(x.1.1,(x.1.2.1,x.1.2.2.1,x.2.1),x.2.2.1)) (λk=>k.1) (λk=>k.2.1) DX (λk s=>((),s,()))
def qsg:ae prog (.loop (au f45 0)) vu.M vu Ng:=
 cN aH (λi k s=>((i,k.1,k.2.1,()),k.2.2,s,())) aJ.dflt
def qmk:=λk s=>bO (DX k True) 0 k.2.1 s
def T0:=λk s=>bM (DX k True) 0 k.2.1 s
def zd9 (Γ:Gm):St->Option Tr:=vu.han Γ vu.M Ng
def HW (x:ag [.d aq,.d (.sl aJ)]):Fr (aa [.sl ay]):=
 cI (InK (((List.length x.2.1):Int)) 0 (List.length x.2.1)) (T0 (((List.length x.2.1):Int),x.2.1,x.1) []) (qmk (((List.length x.2.1):Int),x.2.1,x.1) []) (λs0=>Jv (s0,()))
def qji:af prog 45 ⟨[.d aq,.d (.sl aJ)],[.sl ay],λxs=>(HW xs).get,λxs=>[(HW xs).ok]⟩:=
 cf aH (Λ:=(λ_=>zd9 dB.Γ)) (fn:=f45) (aW [.d aq,.d (.sl aJ)]) (by kernel_rfl) (λc E hc=>ea hc (by kernel_rfl) (b:=au f45 0) (by kernel_rfl) (ae.han aH rfl qsg)) (λx=>by kernel_rfl)
def qtf (st:aq.den) (l:List aJ.den) (h:l.length<=List.length (α:=ar.den) (bq st)) (hn:l.length<=1000000):T0 ((l.length:Int),l,st) []:=
 (dk (step:=DX ((l.length:Int),l,st) True) (λi (s:List ay.den)=>s.length<=i) l (λi e s he hs=>by
  have hi:=eD he;have hx:=ew;have hr:0<=(i:Int)/\(i:Int)<(List.length (α:=ar.den) (bq st):Int):=by omega
  refine⟨uT,hr,λ_=>⟨?_,?_⟩,λ_=>Nat.le_succ_of_le hs⟩
  ·show s.length+1<=maxLen/\(s.length+1)*40<=140737488355328;omega
  ·show(s++[_]).length<=i+1;rw[ub4];exact Nat.succ_le_succ hs) [] (ue4 _)).1
def GI:Ct:=⟨[.d aq,.d (.sl aJ)],[.sl ay],λx=>(HW x).get,λx=>[List.length (α:=aJ.den) x.2.1<=List.length (α:=ar.den) (bq x.1),List.length (α:=aJ.den) x.2.1<=1000000]⟩
def qcm:af prog 45 GI:=bW qji _ (λx hw hok=>nK (gt hw.2.1.1) (qtf x.1 x.2.1 hok.1 hok.2) (λ_=>uT))
noncomputable def OY:List (FuncId×Ct):=[(25,tC),(44,tD),(45,GI)]
def qev:iz prog OY:=⟨O4,O6,qcm,uT⟩
noncomputable def YP:Cx:=cW OY [] (fU prog (cx [] []) Fl)
def YQ:CxOK prog YP:=cZ aG qev trivial (gG kq (lk (by kernel_rfl) qe))
abbrev z6:bS.den:=(0,0,0,0,0,0,())
def gE (st:aq.den):aa [.sl aJ,i64]:=tC.f (st,())
def J2 (st:aq.den):List ay.den:=(GI.f (st,(gE st).1,())).1
def lh (st:aq.den):aa [.sl j8,aK,i64]:=tD.f (st.2.2.2.1,J2 st,())
def Jk (st:aq.den):Int×(List zjz.den)×aq.den×bS.den:=((List.length (α:=zjz.den) st.2.1:Int),st.2.1,st,z6)
def Jl (st:aq.den):Int×(List aJ.den)×(List aJ.den)×aq.den×bS.den:=((List.length (α:=aJ.den) (gE st).1:Int),(gE st).1,(gE st).1,st,z6)
def Jm (st:aq.den):Int×(List (List dq.den))×bS.den:=((List.length (α:=List dq.den) (lh st).1:Int),(lh st).1,z6)
def HT (x:ag [.d aq]):Fr (aa [bS,i64]):=
 iY (InK (List.length (α:=zjz.den) x.1.2.1:Int) 0 (List.length (α:=zjz.den) x.1.2.1)) (eJ (Ec (Jk x.1) True) 0 x.1.2.1 cK.dflt) (da (Ec (Jk x.1) True) 0 x.1.2.1 cK.dflt) cK.dflt (aW _,bN _)
  (λs0=>Jd (bD x.1) (Jd (ev (bq x.1)) (Jb ((gE x.1).2.1 != 0) (Jv (z6,(gE x.1).2.1,()))
   (cI (InK (List.length (α:=aJ.den) (gE x.1).1:Int) 0 (List.length (α:=aJ.den) (gE x.1).1)) (bM (Ed (Jl x.1) True) 0 (gE x.1).1 s0) (bO (Ed (Jl x.1) True) 0 (gE x.1).1 s0) (λs1=>
    Jd (List.length (α:=aJ.den) (gE x.1).1<=List.length (α:=ar.den) (bq x.1)) (Jd (List.length (α:=aJ.den) (gE x.1).1<=1000000) (Jb ((lh x.1).2.2.1 != 0) (Jv (z6,(lh x.1).2.2.1,()))
     (cI (InK (List.length (α:=List dq.den) (lh x.1).1:Int) 0 (List.length (α:=List dq.den) (lh x.1).1)) (bM (Ee (Jm x.1) True) 0 (lh x.1).1 s1) (bO (Ee (Jm x.1) True) 0 (lh x.1).1 s1) (λs2=>
      Jb s2.2.1 (Jv (z6,5,())) (Jv (s2.1,0,())))))))))))
  (λy=>Jv (y.2.1,y.1.1,()))
def qjd:af prog 24 (bg [.d aq] [bS,i64] HT):=
 Qy YQ qs6 qs7 qs8 (fn:=f24)
def za8 (st:aq.den) (hf:bD st):eJ (Ec (Jk st) True) 0 st.2.1 cK.dflt:=
 (nm (step:=Ec (Jk st) True) (λ_ _=>True) (λ_=>True) st.2.1 (λi e s he _=>by
  have hm:bL e.1:=hf.2.2.2 e (ube he);refine⟨uT,hm,hf.1,λ_=>uT,λ_=>qg (Fr.satP_mono (λs1 _=>?_) (qo (by decide)))⟩;exact qg (Fr.satP_mono (λs2 _=>uT) (qo (by decide)))) cK.dflt trivial).1
def za9 (st:aq.den) (s0:cK.den):bM (Ed (Jl st) True) 0 (gE st).1 s0:=
 (dk (step:=Ed (Jl st) True) (λ_ _=>True) (gE st).1 (λi e s he _=>by
  refine⟨uT,qg (Fr.satP_mono (λs1 _=>?_) (qo (by decide)))⟩;exact qg (Fr.satP_mono (λs2 _=>qo (by decide)) (qo (by decide)))) s0 trivial).1
def zbb (k:Int×(List dq.den)×Int×Int×(List (List dq.den))×bS.den) (e:List dq.den) (s:cK.den):bM (Eg k True) 0 e s:=
 (dk (step:=Eg k True) (λ_ _=>True) e (λi e s he _=>⟨uT,qo (by decide)⟩) s trivial).1
def zba (st:aq.den) (s1:cK.den):bM (Ee (Jm st) True) 0 (lh st).1 s1:=
 (dk (step:=Ee (Jm st) True) (λ_ _=>True) (lh st).1 (λi e s he _=>
  ⟨uT,dI (uek ((Wb st.2.2.2.1 (J2 st)).2 e (ube he)) (by decide)),zbb _ _ _,uT⟩) s1 trivial).1
def zbc (st:aq.den) (hf:bD st) (hl:ev (bq st)):(HT (st,())).ok:=by
 have ha:List.length (α:=zjz.den) (db st)<=100000:=hf.2.1;have hn:List.length (α:=ar.den) (bq st)<=100000:=hf.2.2.1;refine ss (dI (uek ha (by decide))) (za8 st hf) (λs0=>⟨hf,hl,λ_=>uT,λhe=>?_⟩) (λ_=>uT);have h0:(gE st).2.1=0:=by simpa using he
 have h1:List.length (α:=aJ.den) (gE st).1=List.length (α:=ar.den) (bq st):=qkt st hf hl h0;have h2:List.length (α:=List dq.den) (lh st).1<=2000:=(Wb st.2.2.2.1 (J2 st)).1;refine nK (dI (by rw[h1]; exact uek hn (by decide))) (za9 st s0) (λs1=>⟨Nat.le_of_eq h1,by rw[h1]; exact uek hn (by decide),λ_=>uT,λ_=>?_⟩);exact nK (dI (uek h2 (by decide))) (zba st s1) (λs2=>⟨λ_=>uT,λ_=>uT⟩)
def GG:Ct:=⟨[.d aq],[bS,i64],λx=>(HT x).get,λx=>[bD x.1,ev (bq x.1)]⟩
def qch:af prog 24 GG:=bW qjd _ (λx _ hok=>zbc x.1 hok.1 hok.2)
def BD (x:ag [.d bR]):Fr (aa [.bool]):=
 Jv (bif decide (x.1.2.1>1000000000000000) then true else decide (x.1.2.1 < -1000000000000000),())
def qjb:af prog 35 ⟨[.d bR],[.bool],λxs=>(BD xs).get,λxs=>[(BD xs).ok]⟩:=
 cf aH (Λ:=bw) (fn:=f35) (aW [.d bR]) (by kernel_rfl) (λc E _=>aY c 0) (λx=>by kernel_rfl)
def GF:Ct:=⟨[.d bR],[.bool],λx=>(BD x).get,λ_=>[]⟩
def qcf:af prog 35 GF:=bW qjb _ (λx hw _=>uT)
abbrev P3:List MI:=[.y 8 60 [(none,i64),(none,i64),(some 108,bR)],.r 8 8 0,.x 6 60 bp,.r 6 6 0]
abbrev Dh:Pt:=⟨78,0,⟨[(58,.d i64)],.x 7 62 dw :: .r 7 7 0::P3⟩,⟨[],P3⟩,⟨[],[]⟩⟩
def rx (a:dw.den):List Int:=[a.1,a.2.1,a.2.2.1,a.2.2.2.1,a.2.2.2.2.1,a.2.2.2.2.2.1,a.2.2.2.2.2.2.1,a.2.2.2.2.2.2.2.1,a.2.2.2.2.2.2.2.2.1,a.2.2.2.2.2.2.2.2.2.1]
def DN (k:dw.den×Int×Int×bp.den) (_b:Prop) (i:Int) (_e:Unit) (s:List bR.den):Fr (List bR.den):=
 let a:=I6.wrap (i+1);Jd (0<=I6.wrap (i+1)/\I6.wrap (i+1)<(10:Int)) (Jb ((rx k.1).getD a.toNat 0 != 0)
  (Jd (s.length+1<=maxLen/\(s.length+1)*16<=140737488355328) (Jv (s++[(I6.wrap (i+1),(rx k.1).getD a.toNat 0,())]))) (Jv s))
def Z4:Dh.M.X->Fr Dh.Out:=FG (λx=>(x.1.1,(x.2.1,x.2.2.1.1,x.2.2.1.2.1,x.2.2.2.1),x.2.2.1.2.2.1)) (λ_=>9) (λ_=>List.replicate 9 ()) DN (λk s=>((),(k.2.1,k.2.2.1,s,()),k.2.2.2,()))
def qr2:ae prog (.loop (au f33 0)) Dh.M Dh Z4:=
 cN aH (λi k s=>((i,()),k.1,(k.2.1,k.2.2.1,s,()),k.2.2.2,())) ()
def qmi:=λk s=>bO (DN k True) 0 (List.replicate 9 ()) s
def quq:=λk s=>bM (DN k True) 0 (List.replicate 9 ()) s
abbrev rP:Pt:=⟨71,0,⟨[(11,.d i64),(10,.d i64),(9,.d (.sl bR)),(4,.d i64),(5,.d i64)],[.x 1 60 bp,.r 1 1 0]⟩,⟨[(4,.d i64)],[.x 1 60 bp,.r 1 1 0]⟩,⟨[(2,.d i64),(3,.d .bool)],[]⟩⟩
def Ld (k:Int×(List bR.den)×bp.den) (b:Prop) (i:Int) (e:bR.den) (s:Int×Int):Fr ((Int×Int) ⊕ rP.R.X):=
 Jd b (Jb (bif bif bif bif decide (e.1<=s.2) then true else decide (e.1>9) then true else e.2.1==0 then true else decide (e.2.1 < -1000000000000000) then true else decide (e.2.1>1000000000000000)) (Jv (.inr ((0,false,()),()))) (Jv (.inl (I6.wrap (s.1+e.2.1),e.1))))
def Nm:rP.M.X->Fr rP.Out:=FK (λx=>(x.1.1,(x.1.2.1,x.1.2.2.1,x.2.1),(x.1.2.2.2.1,x.1.2.2.2.2.1))) (λk=>k.1) (λk=>k.2.1) Ld (λk s=>((s.1,()),k.2.2,())) (λ_ y=>Rd.back y) (0,0) (aW _,bN _)
def qsw:ae prog (.loop (au f38 0)) rP.M rP Nm:=
 lm aH (λi k s=>((i,k.1,k.2.1,s.1,s.2,()),k.2.2,())) bR.dflt
def qmn:=λk s=>da (Ld k True) 0 k.2.1 s
def quu:=λk s=>eJ (Ld k True) 0 k.2.1 s
def zed (Γ:Gm):St->Option Tr:=rP.han Γ rP.M Nm
def HX (x:ag [.d bp]):Fr (aa [i64,.bool]):=
 iY (InK (((List.length x.1.2.2.1):Int)) 0 (List.length x.1.2.2.1)) (quu (((List.length x.1.2.2.1):Int),x.1.2.2.1,x.1) (0,0)) (qmn (((List.length x.1.2.2.1):Int),x.1.2.2.1,x.1) (0,0)) (0,0) (aW _,bN _) (λs0=>Jv (s0.1,bif bif bif bif decide (x.1.1>=1) then decide (x.1.1<=292194) else false then decide (x.1.2.1>=0) else false then decide (x.1.2.1<=1000000000) else false then decide (((List.length x.1.2.2.1):Int)>=2) else false,())) (λy0=>Jv y0.1)
def qju:af prog 38 ⟨[.d bp],[i64,.bool],λxs=>(HX xs).get,λxs=>[(HX xs).ok]⟩:=
 cf aH (Λ:=(λ_=>zed dB.Γ)) (fn:=f38) (aW [.d bp]) (by kernel_rfl) (λc E hc=>ea hc (by kernel_rfl) (b:=au f38 0) (by kernel_rfl) (ae.han aH rfl qsw)) (λx=>by kernel_rfl)
def AS:Ct:=⟨[.d bp],[i64,.bool],λx=>(HX x).get,λ_=>[]⟩
def qct:af prog 38 AS:=bW qju _ (λx hw _=>ss (gt hw.1.2.2.1.1) (by refine JL (λ_ _ _=>?_) _ _ _; exact⟨uT,λ_=>uT,λ_=>uT⟩) (λ_=>by repeat' first|exact trivial|intro _|refine⟨?_,?_⟩|decide) (λ_=>uT))
noncomputable def UG:List (FuncId×Row):=[(60,.clone 108 bR 16)]
noncomputable def YS:Cx:=l8 [(38,AS)] [] UG (λ_ _ _ _=>none)
def YT:CxOK prog YS:=mI (cs:=[(38,AS)]) (ps:=[]) (rs:=UG) aG ⟨qct,uT⟩ trivial ⟨qdt,uT⟩ (λ_ _ _ _ _ h=>(nomatch h))
def BI (x:ag [.d bV,.d bp]):Fr (aa [bV,i64]):=
 let h:=AS.f (x.2.1,());let b:=(none:Option Int);let c:=List.drop (b.getD 0).toNat x.1.1;let a:=((List.length x.1.1):Int);let g:=List.take (a-b.getD 0).toNat c;Jb (!h.2.1) (Jv (([],()),1,())) (Jb (h.1 != 0) (Jv (([],()),13,())) (Jb (decide (a>=2000)) (Jv (([],()),2,())) (Jd (decide (a>0)=true->0<=I6.wrap (a-1)/\I6.wrap (a-1)<a) (Jb (bif decide (a>0) then decide (x.2.1.1<(List.getD x.1.1 (I6.wrap (a-1)).toNat bp.dflt).1) else false) (Jv (([],()),4,())) (Jd (List.length x.2.1.2.2.1<=maxLen) (Jd (List.length x.2.1.2.2.1*16<=140737488355328) (Jd (0<=b.getD 0/\b.getD 0<=a/\a<=a/\a=a) (Jd (0 < [x.2.1].length/\g.length + [x.2.1].length<=maxLen/\(g.length + [x.2.1].length)*40<=140737488355328) (Jv ((List.take (a-b.getD 0).toNat c++[x.2.1],()),0,()))))))))))
def qjr:af prog 36 ⟨[.d bV,.d bp],[bV,i64],λxs=>(BI xs).get,λxs=>[(BI xs).ok]⟩:=
 cf YT (Λ:=bw) (fn:=f36) (aW [.d bV,.d bp]) (by kernel_rfl) (λc E _=>aY c 0) (λx=>by kernel_rfl)
def qwp (b:bV.den) (e:bp.den) (h:List.length (α:=bR.den) e.2.2.1<=1000000):(BI (b,e,())).ok:=by
 have hx:=ew;refine⟨λ_=>uT,λ_=>⟨λ_=>uT,λ_=>⟨λ_=>uT,λhb=>⟨λh2=>?_,λ_=>uT,λ_=>⟨?_,?_,?_,?_,uT⟩⟩⟩⟩⟩
 ·have h3:(List.length (α:=bp.den) b.1:Int)>0:=ucv h2;have h4:¬ (List.length (α:=bp.den) b.1:Int)>=2000:=ucf hb;rw[show I6.wrap ((List.length (α:=bp.den) b.1:Int)-1)=(List.length (α:=bp.den) b.1:Int)-1 from cz (by omega)];show 0<=(List.length (α:=bp.den) b.1:Int)-1/\(List.length (α:=bp.den) b.1:Int)-1<(List.length (α:=bp.den) b.1:Int);omega
 ·show List.length (α:=bR.den) e.2.2.1<=maxLen;omega
 ·show List.length (α:=bR.den) e.2.2.1*16<=_;omega
 ·exact⟨ue5 _,ub2 _,ue5 _,rfl⟩
 ·have h4:¬ (List.length (α:=bp.den) b.1:Int)>=2000:=ucf hb;have h5:(List.take ((List.length (α:=bp.den) b.1:Int)-(none:Option Int).getD 0).toNat (List.drop ((none:Option Int).getD 0).toNat (b.1:List bp.den))).length<=2000:=by
   rw[uc2];show min _ (List.length (α:=bp.den) b.1)<=_;omega
  refine⟨udq,?_,?_⟩
  ·exact uek (Nat.succ_le_succ h5) (uek (show 2001<=1000000 by decide) hx)
  ·exact uek (ubc 40 (Nat.succ_le_succ h5)) (by decide)
def GL:Ct:=⟨[.d bV,.d bp],[bV,i64],λx=>(BI x).get,λx=>[List.length (α:=bR.den) x.2.1.2.2.1<=1000000]⟩
def qcq:af prog 36 GL:=bW qjr _ (λx _ hok=>qwp x.1 x.2.1 hok)
def BG (x:ag [.d i64,.ptr i64]):Fr (aa [.bool]):=
 Jv (decide (x.1<=x.2.1),())
def qjp:af prog 62 ⟨[.d i64,.ptr i64],[.bool],λxs=>(BG xs).get,λxs=>[(BG xs).ok]⟩:=
 cf aH (Λ:=bw) (fn:=f62) (aW [.d i64,.ptr i64]) (by kernel_rfl) (λc E _=>aY c 0) (λx=>by kernel_rfl)
def AR:Ct:=⟨[.d i64,.ptr i64],[.bool],λx=>(BG x).get,λ_=>[]⟩
def qco:af prog 62 AR:=bW qjp _ (λx hw _=>uT)
abbrev mY:PT:=.fn [i64] [.bool]
abbrev ve:Pt:=⟨42,2,⟨[(27,.d i64),(26,.d i64),(25,.d (.sl bR)),(7,.d i64),(1,.d i64),(2,mY),(15,.d i64),(14,.d i64),(13,.d (.sl bp))],[]⟩,⟨[(7,.d i64),(1,.d i64),(2,mY),(15,.d i64),(14,.d i64),(13,.d (.sl bp))],[]⟩,⟨[],[]⟩⟩
abbrev Jc:Type:=Int×List bR.den×Int×mY.den×Int×Int×List bp.den
def V0 (k:Jc) (b:Prop) (_i:Int) (e:bR.den) (s:Int):Fr Int:=Jd b (Jb (e.1==k.2.2.1) (Jv (I6.wrap (s+e.2.1))) (Jv s))
def MP:ve.M.X->Fr ve.Out:=FG (λx=>(x.1.1,((x.1.2.1,x.1.2.2.1,x.1.2.2.2.2.1,x.1.2.2.2.2.2.1,x.1.2.2.2.2.2.2.1,x.1.2.2.2.2.2.2.2.1,x.1.2.2.2.2.2.2.2.2.1):Jc),(x.1.2.2.2.1:Int))) (λk=>k.1) (λk=>k.2.1) V0 (λk s=>((s,k.2.2.1,k.2.2.2.1,k.2.2.2.2.1,k.2.2.2.2.2.1,k.2.2.2.2.2.2,()),()))
noncomputable def R7:Code:=(Go.Ab.loopB (au f61 0) 0).getD .skip
def qrq:ae prog (.loop R7) ve.M ve MP:=
 cN aH (λi k s=>((i,k.1,k.2.1,s,k.2.2.1,k.2.2.2.1,k.2.2.2.2.1,k.2.2.2.2.2.1,k.2.2.2.2.2.2,()),())) bR.dflt
abbrev Dd:Pt:=⟨42,0,⟨[(15,.d i64),(14,.d i64),(13,.d (.sl bp)),(1,.d i64),(2,mY),(7,.d i64)],[]⟩,⟨[(7,.d i64)],[]⟩,⟨[],[]⟩⟩
abbrev Cw:Type:=Int×List bp.den×Int×mY.den
def uC (e:bp.den):List bR.den:=e.2.2.1
def kIn (k:Cw) (i:Int) (e:bp.den):Jc:=(((uC e).length:Int),uC e,k.2.2.1,k.2.2.2,i,k.1,k.2.1)
def KX (k:Cw) (b:Prop) (i:Int) (e:bp.den) (s:Int):Fr Int:=
 Jd b (Jb (!(k.2.2.2 (e.1,())).1) (Jv s) (cI (InK ((uC e).length:Int) 0 (uC e).length) (bM (V0 (kIn k i e) True) 0 (uC e) s) (bO (V0 (kIn k i e) True) 0 (uC e) s) (λs=>Jv s)))
def Zy:Dd.M.X->Fr Dd.Out:=FG (λx=>(x.1.1,((x.1.2.1,x.1.2.2.1,x.1.2.2.2.1,x.1.2.2.2.2.1):Cw),(x.1.2.2.2.2.2.1:Int))) (λk=>k.1) (λk=>k.2.1) KX (λ_ s=>((s,()),()))
def qrp:ae prog (.loop (au f61 0)) Dd.M Dd Zy:=
 cN aH (λi k s=>((i,k.1,k.2.1,k.2.2.1,k.2.2.2,s,()),())) bp.dflt (Λ:=λ_=>ve.han dB.Γ ve.M MP) (hΛ:=λ_=>kP (by kernel_rfl) (b:=R7) (by kernel_rfl) (ae.han aH rfl qrq))
def RX (x:ag [.d bV,.d i64,mY]):Cw:=((List.length (α:=bp.den) x.1.1:Int),x.1.1,x.2.1,x.2.2.1)
def Qn (x:ag [.d bV,.d i64,mY]):Fr (aa [i64]):=
 cI (InK (List.length (α:=bp.den) x.1.1:Int) 0 (List.length (α:=bp.den) x.1.1)) (bM (KX (RX x) True) 0 x.1.1 0) (bO (KX (RX x) True) 0 x.1.1 0) (λs=>Jv (s,()))
def qjt:af prog 61 (bg [.d bV,.d i64,mY] [i64] Qn):=cS aH qrp (fn:=f61)
def GN:Ct:=⟨[.d bV,.d i64,mY],[i64],λx=>(Qn x).get,λ_=>[]⟩
def qcs:af prog 61 GN:=bW qjt _ (λx hw _=>by
 have hw1:=hw.1.1;refine nK (gt hw1.1) (dk (step:=KX (RX x) True) (λ_ _=>True) x.1.1 (λi e s he _=>?_) 0 trivial).1 (λ_=>uT);have hwe:=hw1.2 i e he;refine⟨uT,λ_=>uT,λ_=>⟨gt hwe.2.2.1.1,?_,uT⟩⟩;refine uP (λ_ _ _=>?_) _ _ _;exact⟨uT,λ_=>uT,λ_=>uT⟩)
noncomputable def YU:Cx:=cx [(61,GN),(62,AR)] []
def YV:CxOK prog YU:=aP aG ⟨qcs,qco,uT⟩ trivial
def BH (x:ag [.d bV,.d i64,.d i64]):Fr (aa [i64]):=
 Jd (∀ (x_1:aa [i64]),fi [i64] x_1->av (AR.ok (x_1.1,x.2.2.1,()))) (Jv ((GN.f ((x.1.1,()),x.2.1,λx_1=>AR.f (x_1.1,x.2.2.1,()),())).1,()))
def qjq:af prog 37 ⟨[.d bV,.d i64,.d i64],[i64],λxs=>(BH xs).get,λxs=>[(BH xs).ok]⟩:=
 cf YV (Λ:=bw) (fn:=f37) (aW [.d bV,.d i64,.d i64]) (by kernel_rfl) (λc E _=>aY c 0) (λx=>by kernel_rfl)
def GK:Ct:=⟨[.d bV,.d i64,.d i64],[i64],λx=>(BH x).get,λ_=>[]⟩
def qcp:af prog 37 GK:=bW qjq _ (λx hw _=>⟨λ_ _=>uT,uT⟩)
noncomputable def YW:Cx:=cx [(37,GK)] []
def M0:CxOK prog YW:=aP aG ⟨qcp,uT⟩ trivial
def DC (a:dw.den) (w x:Int):dw.den:=(bif w==0 then x else a.1,bif w==0+1 then x else a.2.1,bif w==0+1+1 then x else a.2.2.1,bif w==0+1+1+1 then x else a.2.2.2.1,bif w==0+1+1+1+1 then x else a.2.2.2.2.1,bif w==0+1+1+1+1+1 then x else a.2.2.2.2.2.1,bif w==0+1+1+1+1+1+1 then x else a.2.2.2.2.2.2.1,bif w==0+1+1+1+1+1+1+1 then x else a.2.2.2.2.2.2.2.1,bif w==0+1+1+1+1+1+1+1+1 then x else a.2.2.2.2.2.2.2.2.1,bif w==0+1+1+1+1+1+1+1+1+1 then x else a.2.2.2.2.2.2.2.2.2.1,())
abbrev trM:List MI:=[.x 2 52 bV,.r 2 2 0,.x 4 62 dw,.r 4 4 0,.x 5 62 dw,.r 5 5 0]
abbrev Ds:Pt:=⟨20,0,⟨[(7,.d i64),(1,.d i64)],trM⟩,⟨[],[.x 4 62 dw,.r 4 4 0,.x 5 62 dw,.r 5 5 0]⟩,⟨[],[]⟩⟩
def Lg (k:Int×bV.den×dw.den) (_b:Prop) (i:Int) (_e:Unit) (s:dw.den):Fr dw.den:=
 Jd (0<=I6.wrap (i+1)/\I6.wrap (i+1)<(10:Int)) (Jv (DC s (I6.wrap (i+1)) (GK.f (k.2.1,I6.wrap (i+1),k.1,())).1))
def ZK:Ds.M.X->Fr Ds.Out:=FG (λx=>(x.1.1,(x.1.2.1,x.2.1,x.2.2.1),x.2.2.2.1)) (λ_=>9) (λ_=>List.replicate 9 ()) Lg (λk s=>((),k.2.2,s,()))
def qte:ae prog (.loop (au f14 0)) Ds.M Ds ZK:=
 cN M0 (λi k s=>((i,k.1,()),k.2.1,k.2.2,s,())) ()
def Qm (x:ag [.d bV,.d i64]):Fr (aa [dw]):=
 cI (InK 9 0 (List.replicate 9 ()).length) (bM (Lg (x.2.1,x.1,dw.dflt) True) 0 (List.replicate 9 ()) dw.dflt) (bO (Lg (x.2.1,x.1,dw.dflt) True) 0 (List.replicate 9 ()) dw.dflt) (λs=>Jv (s,()))
def qjs:af prog 14 (bg [.d bV,.d i64] [dw] Qm):=cS M0 qte (fn:=f14)
def Te {e:Unit} (h:(List.replicate 9 ())[i]? = some e):i<9:=by
 have:=eD h
 rwa [List.length_replicate] at this
def WB (h:i<9):0<=I6.wrap ((i:Int)+1)/\I6.wrap ((i:Int)+1)<(10:Int):=by
 rw[show I6.wrap ((i:Int)+1)=(i:Int)+1 from cz (by omega)];omega
def GM:Ct:=⟨[.d bV,.d i64],[dw],λx=>(Qm x).get,λ_=>[]⟩
def qcr:af prog 14 GM:=bW qjs _ (λx _ _=>nK ⟨rfl,by decide,by decide,by decide⟩ (dk (step:=Lg (x.2.1,x.1,dw.dflt) True) (λ_ _=>True) (List.replicate 9 ()) (λi e s he _=>⟨WB (Te he),uT⟩) dw.dflt trivial).1 (λ_=>uT))
def fE (s:aq.den):Prop:=∀ f∈bq s,List.length (α:=bn.den) f.2.1<=2000
def qeo (g:ar.den) (a:bn.den) (h:List.length (α:=bn.den) g.2.1<=2000):List.length (α:=bn.den) (o8 g a).1.2.1<=2000:=by
 unfold o8;cases !(qz a)
 ·cases h2:decide (((List.length (α:=bn.den) g.2.1:Nat):Int)>=2000)
  ·have:=ucf h2;cases decide (a.1<uz g)
   ·cases (nD g).2.2.2.2.2.1==(a.2.1==5)
    ·cases G2 g a
     ·show(g.2.1++[a]).length<=2000;rw[ub4,ua6];omega
     ·exact ufa _
    ·exact ufa _
   ·exact ufa _
  ·exact ufa _
 ·exact ufa _
def qhk (t:b8.den):fE (ym t):=λf hf=>by cases hf
def qhg {s:aq.den} (f:factT.den) (h:fE s):fE (kx s f).1:=by
 unfold kx;cases decide (aI s f>=0)
 ·cases decide (((List.length (db s):Nat):Int)>=2000)
  ·exact h
  ·exact h
 ·exact h
def qhf {s:aq.den} (f:factT.den) (h:fE s):fE (kw s f).1:=by
 unfold kw;cases decide (aI s f<0)
 ·cases (bq s).any (qq f)
  ·exact h
  ·exact h
 ·exact h
def qhl {s:aq.den} (f:factT.den) (h:fE s):fE (kB s f).1:=by
 unfold kB;cases decide (aI s f<0)
 ·cases decide (hH f>I6.wrap (4000000000000000000-(j5 s (aI s f)).2.1))
  ·exact h
  ·exact h
 ·exact h
def qhj {s:aq.den} (f:factT.den) (h:fE s):fE (kz s f).1:=by
 unfold kz;cases decide (jH s (fB f).1>=0)
 ·cases decide (((List.length (bq s):Nat):Int)>=2000)
  ·cases !(lA s f).2
   ·intro g hg;rcases Ub hg with hg|hg
    ·exact h g hg
    ·rw[hg]; exact ufa _
   ·exact h
  ·exact h
 ·exact h
def qhe {s:aq.den} (f:factT.den) (h:fE s):fE (kv s f).1:=by
 unfold kv;cases h1:decide (gI s f<0)
 ·intro g hg;rcases SS hg with hg|hg
  ·exact h g hg
  ·rw[hg]; exact qeo _ _ (h _ (fo (If (ucf h1))))
 ·exact h
def qhm {s:aq.den} (f:factT.den) (h:fE s):fE (kC s f).1:=by
 unfold kC;cases z9 s (fD f)
 ·cases decide (((List.length (jW s):Nat):Int)>=100)
  ·cases pi (jW s) (fD f)
   ·exact h
   ·exact h
  ·exact h
 ·exact h
def qhh {s:aq.den} (f:factT.den) (h:fE s):fE (ky s f).1:=by
 unfold ky;cases decide (hN f<=mg s)
 ·exact h
 ·exact h
def qhi {s:aq.den} (f:factT.den) (h:fE s):fE (lD s f).1:=by
 show fE (mL s f).1;unfold mL;cases aU f==1
 ·cases aU f==2
  ·cases aU f==3
   ·cases aU f==4
    ·cases aU f==5
     ·cases aU f==6
      ·exact qhh f h
      ·exact qhm f h
     ·exact qhe f h
    ·exact qhj f h
   ·exact qhl f h
  ·exact qhf f h
 ·exact qhg f h
def oO (s:aq.den):Prop:=bD s/\fE s
def qhs {t:b8.den} (h:bJ t):oO (ym t):=⟨qh0 h,qhk t⟩
def qht {s:aq.den} (f:factT.den) (h:oO s) (h0:(jY s f).2=0):oO (jY s f).1:=by
 rw[(zar h0).2.2];exact⟨qhy f h.1,qhi f h.2⟩
def qhr {s:aq.den} (h:oO s):ev (bq s):=⟨uek h.1.2.2.1 (by decide),λf hf=>uek (h.2 f hf) (by decide)⟩
section
open Go.Shelf
attribute [local go_sem] Oper.semAt_some
def qba (n:Nat) (hn:1<=n) (l Bs n₀ b off len cap:Nat) (c:Nat->Int) (hreach:len<=1000000) (A:Option Addr) (hA:0<len->A=some ⟨b,off,none⟩/\b<n₀) (J Jx:List (Fin len)->World->Prop)
  (hY:∀ pre (k:Fin len) W,J pre W->pre.length<len->YieldAt Fence.wide (n-1) prog l #[.int .i64 ((k.1:Nat):Int),.int .i64 (c k.1)] W λe W'=>
   (e = .returned (.bool true)/\J (pre++[k]) W'/\cw n₀ Bs Bs W W')\/(e = .returned (.bool false)/\Jx (pre++[k]) W'))
  (W:World) (hBs:W.heap[Bs]? = some (.cells #[.slice A len cap] 120 (0,0))) (hc:∀ k,k<len->W.cell? ⟨b,off+k,none⟩=some (.int .i64 (c k))) (h0:J [] W) :
  CallsIn Fence.wide n prog 181 #[.func (.yield l) #[] #[],.pointer (some ⟨Bs,0,none⟩)] W λe W'=>(∃ v,e = .returned v) /\
   ((∃ ys:List (Fin len),ys.map Fin.val=hP (λj=>len-1-j) len/\J ys W')\/(∃ pre:List (Fin len),(∃ k,k<=len/\pre.map Fin.val=hP (λj=>len-1-j) k)/\Jx pre W')):=by
 have hro:Fence.wide.round=none:=rfl;refine callsIn_of_wp func181 rfl trivial ?_ hro;simp only[ntmps181,uco,uc6,udh,Nat.reduceAdd,Nat.reduceSub,ubl,ubm,ucw,ubv,udi,uc1];have c0:=aO hBs 0
 gi_wp2
 gi_loopw [3] (λi wr=>∃ (k:Nat) (pre:List (Fin len)),k<=len/\i = .int .i64 ((len:Int)-1-k)/\pre.map Fin.val=hP (λj=>len-1-j) k/\J pre wr/\cw n₀ Bs Bs W wr)
  (λi _=>(intOf i+1).toNat)
 case atStart=>exact⟨0,[],ufa _,by simp,rfl,h0,cw.refl _ _ _ _⟩
 case round=>
  obtain⟨k,pre,hk,rfl,hpre,hJs,hnx⟩:=hrel;have e0:=aO (hnx.2.1.trans hBs) 0;by_cases hlt:k<len
  ·obtain⟨rfl,hb⟩:=hA (by omega);obtain⟨fn,tmps,assign,body,hy,hR⟩:=hY pre ⟨len-1-k,by omega⟩ wr hJs (by have:=ufm List.length hpre; rw[BQ,udy] at this; omega);have x0:wr.cell? ⟨b,off+(len-1-k),none⟩=some (.int .i64 (c (len-1-k))):=(hnx.1.cell hb).trans (hc _ (by omega));have ek:((len-1-k:Nat):Int)=(len:Int)-1-k:=by omega
   rw[ek] at hy
   gi_wp2
   refine hR.mono ?_;rintro e W3 (⟨rfl,hJ3,hk3⟩|⟨rfl,hJx3⟩)
   ·gi_wp2
    go_roundw
    case rel=>exact⟨k+1,pre++[⟨len-1-k,by omega⟩],by omega,by simp; omega,by rw[tX,uds,hpre]; rfl,hJ3,hnx.trans hk3⟩
    case measure=>simp[intOf]; omega
   ·gi_wp2
    refine uex (uey rfl _ _ _) rfl ?_;exact⟨⟨_,rfl⟩,.inr ⟨_,⟨k+1,by omega,by rw[tX,uds,hpre]; rfl⟩,hJx3⟩⟩
  ·obtain rfl:k=len:=by omega
   gi_wp2
   go_end0
   exact⟨⟨_,rfl⟩,.inl ⟨_,hpre,hJs⟩⟩
def qbc (n:Nat) (A:Option Addr) (len cap:Nat) (w:World) :
  CallsIn Fence.wide n prog 133 #[.slice A len cap] w λe w'=>e = .returned (.func (.func 181) #[] #[.pointer (some ⟨w.heap.size,0,none⟩)])/\w'=w.alloc (.cells #[.slice A len cap] 120):=by
 refine callsIn_of_wp func133 rfl trivial ?_ rfl;simp only[ntmps133,uco,uc6,udh,Nat.reduceAdd,Nat.reduceSub,ubl,ubm,ucw,ubv,udi,uc1]
 gi_wp2
 go_ret
 exact⟨rfl,rfl⟩
structure TuI (w:World) (hc:Array Value) (day:Int) (Bs:Nat) (sv:Value) (is:Nat->Bool) (pre:List (Fin len)) (W:World):Prop where
 h0:W.heap[w.heap.size]? = some (.cells hc 118 (0,0))
 d:Boxed W (w.heap.size+1) 3 (.int .i64 day)
 r:Boxed W (w.heap.size+1+1) 4 (.bool false)
 s:Boxed W Bs 120 sv
 bel:Below w.heap.size w W
 sz:Bs+1<=W.heap.size
 no:∀ k∈pre,is k.1=false
structure TuX (w:World) (is dy:Nat->Bool) (c:Code) (pre:List (Fin len)) (W:World):Prop where
 ret:c = .ret
 res:∃ ini k,pre=ini++[k]/\(∀ k∈ini,is k.1=false)/\is k.1=true/\Boxed W (w.heap.size+1+1) 4 (.bool (dy k.1))
 bel:Below w.heap.size w W
def zca {hc:Array Value} {Bs:Nat} {sv:Value} {is:Nat->Bool} (hB:w.heap.size<=B):OwnFrom B (λ(pre:List (Fin len)) W=>TuI w hc day Bs sv is pre W):=λpre X Y row h hg hr=>
 ⟨qs h.h0 hg hr,iB h.d hg hr,iB h.r hg hr,iB h.s hg hr,h.bel.grown hg h.bel.size (λk e=>uek hB (hr k e).1),uek h.sz hg.size,h.no⟩
def zcb {is dy:Nat->Bool} (hB:w.heap.size<=B) (c:Code):OwnFrom B (λ(pre:List (Fin len)) W=>TuX w is dy c pre W):=λpre X Y row h hg hr=>by
 obtain⟨ini,k,e1,e2,e3,e4⟩:=h.res;exact⟨h.ret,⟨ini,k,e1,e2,e3,iB e4 hg hr⟩,h.bel.grown hg h.bel.size (λk e=>uek hB (hr k e).1)⟩
def ZN (is dy:Nat->Bool) (len:Nat) (e:Ending):Prop:=
 (e = .returned (.bool false)/\∀ k,k<len->is k=false) \/ ∃ k,k<len/\is k=true/\(∀ j,k<j->j<len->is j=false)/\e = .returned (.bool (dy k))
abbrev du (g:Nat->Int) (A1:Option Addr) (l1 c1:Nat) (A2:Option Addr) (l2 c2:Nat):Array Value:=#[.int .i64 (g 0),.int .i64 (g 1),.int .i64 (g 2),.int .i64 (g 3),.int .i64 (g 4),.int .i64 (g 5),.int .i64 (g 6),.int .i64 (g 7),.slice A1 l1 c1,.slice A2 l2 c2]
def Wh {R:Ending->World->Prop} {D z:Nat} {a0 a1 a2 a3 a5 a6 a7 a8 a9 a10 a11 a12 a13 a14 a15 a16 a17 a18 a19 a20 a21 a22 a23 a24 a25 a26 a27 a28 a29:Value} (z2:Boxed W (z+1+1) 4 v) (hK:W.heap[D]? = some (.deferred (some []))) (hD:z+3<=D) (hR:R (.returned v) (W.putObj D (.deferred none))) :
  bodyPostM Fence.wide 8 prog f79 R .ret { tmps:=#[a0,a1,a2,a3,.pointer (some ⟨z+1+1,0,none⟩),a5,a6,a7,a8,a9,a10,a11,a12,a13,a14,a15,a16,a17,a18,a19,a20,a21,a22,a23,a24,a25,a26,a27,a28,a29],defers:=[{ target:=.collected D,args:=#[] }] } W:=by
 have k2:Boxed (W.putObj D (.deferred none)) (z+1+1) 4 v:=(World.putObj_heap_other (r:=D) (o:=.deferred none) (by omega)).trans z2;have g2:=k2.cell;refine⟨by simp,.inl ⟨_,_,rfl,run_takeDeferred hK,?_⟩⟩;refine⟨v,?_,hR⟩;simp[results,results79,go_sem,g2]
def zce (g:Nat->Int) (A1:Option Addr) (l1 c1:Nat) (A2:Option Addr) (l2 c2 b2 off2:Nat) (c:Nat->ChC) (day:Int) (w:World) (hl2:l2<=1000000) (hA2:0<l2->A2=some ⟨b2,off2,none⟩/\b2<w.heap.size)
  (hc2:∀ k j u,k<l2->(de (c k))[j]? = some u->w.cell? ⟨b2,off2+(k*9+j),none⟩=some u)
  (ol:Nat->Nat) (len:Nat) (hlen:len<=1000000) (hol:∀ k,k<len->ol k<l2)
  (hO:∀ W,Below w.heap.size w W->Calls prog 134 #[.agg (du g A1 l1 c1 A2 l2 c2)] W λe w'=>∃ (A:Option Addr) (cap b off:Nat),e = .returned (.slice A len cap)/\Below W.heap.size W w' /\
   (0<len->A=some ⟨b,off,none⟩/\b<w'.heap.size)/\∀ k,k<len->w'.cell? ⟨b,off+k,none⟩=some (.int .i64 (ol k:Int))) :
  CallsIn Fence.wide 8 prog 79 #[.agg (du g A1 l1 c1 A2 l2 c2),.int .i64 day] w λe w'=>
   ZN (λk=>(c (ol k)).p 2==3 || (c (ol k)).p 2==4) (λk=>decide ((c (ol k)).p 1<=day)) len e/\Below w.heap.size w w':=by
 refine callsIn_of_wp_marks func79 rfl trivial ?_ rfl;simp only[ntmps79,uco,uc6,udh,Nat.reduceAdd,Nat.reduceSub,ubl,ubm,ucw,ubv,udi,uc1];obtain⟨hbel,hsz,hq⟩:=zjx [.cells (du g A1 l1 c1 A2 l2 c2) 118,.cells #[.int .i64 day] 3,.cells #[.bool false] 4] w;have HO:=Lib.hid (hO _ hbel);have HB:=Lib.hid hbel;replace hsz:_=w.heap.size+3:=hsz;have HZ:=Lib.hid hsz;have HQ:=Lib.hid hq;have HC:=Lib.hid hc2;clear hc2 hO hq hbel hsz;unfold du
 gi_wp2_with (first
  |(refine⟨uT,?_⟩; gi_at_call 134; refine(callsIn_wide.2 HO.out).mono ?_; rintro e w1 ⟨A,cap,b,off,rfl,hb1,hA,hcl⟩)
  |(refine⟨uT,?_⟩; gi_at_call 133; refine(qbc _ _ _ _ _).mono ?_; rintro e w' ⟨rfl,rfl⟩))
 have hw1:Below w.heap.size w w1:=HB.out.trans (hb1.mono HB.out.size);have hz1:w.heap.size+3<=w1.heap.size:=by have:=hb1.size; have:=HZ.out; omega
 have hbb:Below w1.heap.size w1 (w1.alloc (.cells #[.slice A len cap] 120)):=(ufd _ w1).alloc (ue4 _) _;have hbs:=World.alloc_heap_new w1 (.cells #[.slice A len cap] 120);have hsz0:(w1.alloc (.cells #[.slice A len cap] 120)).heap.size=w1.heap.size+1:=by simp
 generalize w1.alloc (.cells #[.slice A len cap] 120)=W0 at *;have hb0:=hw1.trans (hbb.mono hw1.size);have ee:∀ i o,i<3->_->W0.heap[w.heap.size+i]? = some o:=λi o hi h=>(hbb.block _ (by omega)).trans ((hb1.block _ (by have:=HZ.out; omega)).trans (HQ.out i o h));have hI0:TuI w (du g A1 l1 c1 A2 l2 c2) day w1.heap.size (.slice A len cap) (λk=>(c (ol k)).p 2==3 || (c (ol k)).p 2==4) ([]:List (Fin len)) W0:=⟨ee 0 _ (by decide) rfl,ee 1 _ (by decide) rfl,ee 2 _ (by decide) rfl,hbs,hb0,by omega,λk hk=>by cases hk⟩;refine wpIn_rangeFunc_ownH rfl (by omega) (gf:=181) (lb:=#[.pointer (some ⟨w1.heap.size,0,none⟩)]) rfl trivial (enters_of func181 (by kernel_rfl) rfl)
  (α:=Fin len) (encs:=λ(k:Fin len)=>#[.int .i64 ((k.1:Nat):Int),.int .i64 (ol k.1:Int)]) (Kp:=cw w1.heap.size w1.heap.size w1.heap.size) (S:=λys=>ys.map Fin.val=hP (λj=>len-1-j) len) (Sp:=λpre=>∃ k,k<=len/\pre.map Fin.val=hP (λj=>len-1-j) k) (N:=len) (w0:=W0)
  (λl J Jx W hW _ _ hY h0=>qba 7 (by omega) l w1.heap.size w1.heap.size b off len cap (λk=>(ol k:Int)) hlen A hA J Jx hY W ((hW.block _ (by omega)).trans hbs) (λk hk=>((hbb.trans (hW.mono (by omega))).cell (p:=⟨b,off+k,none⟩) (hA (by omega)).2).trans (hcl k hk)) h0)
  (λh k=>h.trans k) (λW l o o' hl ho hoc how=>⟨belowK_b (w:=w1) (ue4 _) W l o o' (by omega) ho hoc how,World.putObj_heap_other (by omega),World.putObj_heap_other (by omega)⟩) (ufd _ _)
  (by intro _; rfl)
  (λpre W=>TuI w (du g A1 l1 c1 A2 l2 c2) day w1.heap.size (.slice A len cap) (λk=>(c (ol k)).p 2==3 || (c (ol k)).p 2==4) pre W)
  (λcd pre W=>TuX w (λk=>(c (ol k)).p 2==3 || (c (ol k)).p 2==4) (λk=>decide ((c (ol k)).p 1<=day)) cd pre W)
  (zca (by omega)) (zcb (by omega)) hI0
  (λk a' _=>a' = { tmps:=#[.agg #[.int .i64 (g 0),.int .i64 (g 1),.int .i64 (g 2),.int .i64 (g 3),.int .i64 (g 4),.int .i64 (g 5),.int .i64 (g 6),.int .i64 (g 7),.slice A1 l1 c1,.slice A2 l2 c2],.int .i64 day,.pointer (some ⟨w.heap.size,0,none⟩),.pointer (some ⟨w.heap.size+1,0,none⟩),.pointer (some ⟨w.heap.size+1+1,0,none⟩),undef,.int .i64 (ol k.1:Int),undef,.agg #[.int .i64 (g 0),.int .i64 (g 1),.int .i64 (g 2),.int .i64 (g 3),.int .i64 (g 4),.int .i64 (g 5),.int .i64 (g 6),.int .i64 (g 7),.slice A1 l1 c1,.slice A2 l2 c2],.slice A len cap,.func (.func 181) #[] #[.pointer (some ⟨w1.heap.size,0,none⟩)],.int .i64 (k.1:Int),.int .i64 (ol k.1:Int),undef,undef,undef,undef,undef,undef,undef,undef,undef,undef,undef,undef,undef,undef,undef,undef,undef],defers:=[] })
  (λk a'=>λ_ X Y row h _ _=>h) ?assign ?body ?done ?stop
 case assign=>
  rintro l pre ⟨k,hkl⟩ W K hi hK
  gi_wp2
  exact hK _ _ (KeepsFrom.refl _ _) (cw.refl _ _ _ _) hi rfl
 case body=>
  rintro l pre ⟨k,hkl⟩ a' W hl ⟨r,hr⟩ hi rfl hlt;have hk2:=hol k hkl;obtain⟨rfl,hb2⟩:=hA2 (by omega);have hcx:∀ j,j<9->W.cell? ⟨b2,off2+ol k*9+j,none⟩=some ((de (c (ol k))).getD j undef):=λj hj=>by
   rw[ued];exact(hi.bel.cell (p:=⟨b2,off2+(ol k*9+j),none⟩) hb2).trans (HC.out (ol k) j _ hk2 (by match j,hj with|0,_|1,_|2,_|3,_|4,_|5,_|6,_|7,_|8,_=>rfl))
  obtain⟨x0,x1,x2,x3,x4,x5,x6,x7,x8⟩:=zjw hcx;rw[ueu] at x0;simp[de] at x0 x1 x2 x3 x4 x5 x6 x7 x8;have z0:=aO hi.h0 9;simp at z0;have zd:=hi.d.cell;have zr:=hi.r.cell;have zf:=hi.r.frozen;have hsz1:=hi.sz;have n1:w.heap.size+1≠W.heap.size:=by omega
  have n2:w.heap.size+1+1≠W.heap.size:=by omega
  have za:∀ o,(W.alloc o).cell? ⟨w.heap.size+1,0,none⟩=some (.int .i64 day):=λo=>(((ufd _ W).alloc (ue4 _) o).cell (p:=⟨w.heap.size+1,0,none⟩) (by show w.heap.size+1<W.heap.size; omega)).trans zd;have zb:∀ o,(W.alloc o).heap[w.heap.size+1+1]? = some (.cells #[.bool false] 4 (0,0)):=λo=>(uc8 W o (w.heap.size+1+1) (by omega)).trans hi.r;have zc:∀ o,(W.alloc o).cell? ⟨w.heap.size+1+1,0,none⟩=some (.bool false):=λo=>aO (zb o) 0;have zg:∀ o,(W.alloc o).frozen? ⟨w.heap.size+1+1,0,none⟩=false:=λo=>by simp[World.frozen?,zb]
  clear hcx hr
  gi_wp2
  ·refine⟨((KeepsOthers.alloc _ _).trans (KeepsOthers.setCell _ _ _)).from _,rfl,⟨pre,⟨k,hkl⟩,rfl,hi.no,?_,(show Boxed (W.alloc _) _ _ _ from zb _).set _⟩,(hi.bel.alloc hi.bel.size _).setCell (by show w.heap.size<=w.heap.size+1+1; omega) _⟩
   simp_all
  ·refine⟨((KeepsOthers.alloc _ _).trans (KeepsOthers.setCell _ _ _)).from _,rfl,⟨pre,⟨k,hkl⟩,rfl,hi.no,?_,(show Boxed (W.alloc _) _ _ _ from zb _).set _⟩,(hi.bel.alloc hi.bel.size _).setCell (by show w.heap.size<=w.heap.size+1+1; omega) _⟩
   simp_all
  ·refine⟨(KeepsOthers.alloc _ _).from _,cw.below ((ufd _ W).alloc (ue4 _) _) (by omega) (by omega) (by omega),(uc8 _ _ _ (by omega)).trans hi.h0,hi.d.alloc _,hi.r.alloc _,hi.s.alloc _,hi.bel.alloc hi.bel.size _,by simp; omega,λq hq=>?_⟩;refine(udo.1 hq).elim (hi.no q) (λe=>?_);have e2:=ucd.1 e;subst e2
   simp_all
 case done=>
  rintro D zs W hD hzs hi hK;have zr:=hi.r.cell;have zf:=hi.r.frozen
  gi_wp2
  refine Wh (z:=w.heap.size) (hi.r.set (.bool false)) ((KeepsOthers.setCell W _ _).same D _ hK rfl) (by omega) ⟨.inl ⟨rfl,λk hk=>?_⟩,?_⟩
  ·have hm:k∈zs.map Fin.val:=by
    rw[hzs];exact ue1.2 ⟨len-1-k,ud5.2 (by omega),by show len-1-(len-1-k)=k; omega⟩
   obtain⟨q,hq,rfl⟩:=ue1.1 hm;exact hi.no q hq
  ·have hb:=hi.bel.setCell (p:=⟨w.heap.size+1+1,0,none⟩) (by show w.heap.size<=w.heap.size+1+1; omega) (.bool false);exact hb.trans (belowK_b (w:=w) (ue4 _) _ D _ _ (by omega) ((KeepsOthers.setCell W _ _).same D _ hK rfl) rfl rfl)
 case stop=>
  rintro D cd pre W hD ⟨m,hm,hpre⟩ h hK;obtain rfl:=h.ret
  gi_wp2
  obtain⟨ini,k,e1,e2,e3,e4⟩:=h.res;refine Wh (z:=w.heap.size) e4 hK (by omega) ⟨.inr ⟨k.1,k.2,e3,λj hj1 hj2=>?_,rfl⟩,h.bel.trans (belowK_b (w:=w) (ue4 _) _ D _ _ (by omega) hK rfl rfl)⟩;subst e1;have hl:=ufm List.length hpre;rw[BQ,udy,ub4] at hl;obtain rfl:m=ini.length+1:=by simpa using hl.symm
  rw[tX,uds] at hpre;obtain⟨h2,h3⟩:=List.append_inj' hpre rfl;have hlast:k.1=len-1-ini.length:=by simpa using h3
  have hin:j∈(ini.map Fin.val):=by
   rw[h2];exact ue1.2 ⟨len-1-j,ud5.2 (by omega),by show len-1-(len-1-j)=j; omega⟩
  obtain⟨q,hq,rfl⟩:=ue1.1 hin;exact e2 q hq
end
def Lw (h:aC.den) (day:Int):Bool:=match gM h (bE h) (bE h).length with
 |some k=>decide ((bZ h k).2.1<=day)
 |none=>false
def G8:Ct:=⟨[.d aC,.d i64],[.bool],λx=>(Lw x.1 x.2.1,()),λx=>[((aL x.1).length:Int)<=1000000]⟩
def Wj {h:aC.den}:(n:Nat)->(∀ k,k<n->kM (bZ h (l.getD k 0))=false)->gM h l n=none
 |0,_=>rfl
 |n+1,hn=>by
  unfold gM;rw[if_neg (by rw[hn n (Nat.lt_succ_self n)]; decide)];exact Wj n λk hk=>hn k (Nat.lt_succ_of_lt hk)
def Wk {h:aC.den} {k:Nat} (hk:kM (bZ h (l.getD k 0))=true):(n:Nat)->k<n->(∀ j,k<j->j<n->kM (bZ h (l.getD j 0))=false)->gM h l n=some (l.getD k 0)
 |0,h0,_=>absurd h0 (Nat.not_lt_zero _)
 |n+1,hlt,hn=>by
  unfold gM;by_cases e:k=n
  ·subst e;rw[if_pos hk]
  ·rw[if_neg (by rw[hn n (by omega) (Nat.lt_succ_self n)]; decide)];exact Wk hk n (by omega) λj h1 h2=>hn j h1 (Nat.lt_succ_of_lt h2)
def zcf:af prog 79 G8:=by
 refine⟨enters_of func79 (by kernel_rfl) rfl,λw F xs vs hbd hr hok=>?_⟩;obtain⟨h,day,_⟩:=xs;obtain⟨v,vs',rfl,hv,hn⟩:=hr;obtain⟨rfl,hd⟩:=Ry hn;have hv:bu w F aC h v:=hv;have hvO:=hv;obtain⟨cs,rfl⟩:=hv.2.1.1 rfl;have hs:cs.size=10:=hv.1;obtain⟨h0,h1,⟨⟨s0,s1,_⟩,⟨r0,r1,r2,r3,_⟩,⟨A1,c1,hA1,_⟩,_⟩,⟨A2,c2,hA2,hrest⟩,_⟩:=hv.2.2;obtain⟨A,cap,b,off,c,e1,hA,hc,hx⟩:=OI (w:=w) (F:=F) (l:=aL h) (v:=.slice A2 (aL h).length c2) ⟨A2,c2,rfl,hrest⟩;cases e1;have hok:((aL h).length:Int)<=1000000:=hok;have hcs:cs=du (λj=>match j with|0=>h.1|1=>h.2.1|2=>h.2.2.1.1.1|3=>h.2.2.1.1.2.1|4=>h.2.2.1.2.1.1|5=>h.2.2.1.2.1.2.1|6=>h.2.2.1.2.1.2.2.1|_=>h.2.2.1.2.1.2.2.2.1) A1 (List.length (α:=ak.den) h.2.2.1.2.2.1) c1 A2 (aL h).length c2:=by
  apply ufh
  ·exact hs
  ·intro i hi1 hi2
   match i,hi1,hi2 with
   |0,h,_=>exact udz ((uam h).symm.trans h0.1)
   |1,h,_=>exact udz ((uam h).symm.trans h1.1)
   |2,h,_=>exact udz ((uam h).symm.trans s0.1)
   |3,h,_=>exact udz ((uam h).symm.trans s1.1)
   |4,h,_=>exact udz ((uam h).symm.trans r0.1)
   |5,h,_=>exact udz ((uam h).symm.trans r1.1)
   |6,h,_=>exact udz ((uam h).symm.trans r2.1)
   |7,h,_=>exact udz ((uam h).symm.trans r3.1)
   |8,h,_=>exact udz ((uam h).symm.trans hA1)
   |9,h,_=>exact udz ((uam h).symm.trans hA2)
 subst hcs;have hlen:(bE h).length=(aL h).length:=CO h;have hel:∀ k,k<(bE h).length->((((bE h).getD k 0).toNat:Nat):Int)=(bE h).getD k 0/\((bE h).getD k 0).toNat<(aL h).length/\(bE h)[k]? = some ((bE h).getD k 0):=λk hk=>by
  have e:(bE h).getD k 0=(bE h)[k]:=by rw[uah,uap hk]; rfl
  have hm:=CR (h:=h) (x:=(bE h).getD k 0) (by rw[e]; exact udf hk);exact⟨by omega,by omega,by rw[e]; exact uap hk⟩
 have hpq:∀ k,k<(bE h).length->(c ((bE h).getD k 0).toNat).p 1=(bZ h ((bE h).getD k 0)).2.1/\(c ((bE h).getD k 0).toNat).p 2=(bZ h ((bE h).getD k 0)).2.2.1:=λk hk=>by
  have hk2:=(hel k hk).2.1;obtain⟨_,hsl,hrep⟩:=hx _ _ (uap hk2);have e:bZ h ((bE h).getD k 0)=(aL h)[((bE h).getD k 0).toNat]:=by
   show(aL h).getD _ _=_;rw[uah,uap hk2];rfl
  obtain⟨_,_,_,q1,q2,_⟩:=hrep (_,_,_) w F hsl;have q1':some (Value.int .i64 ((c ((bE h).getD k 0).toNat).p 1))=some (.int .i64 _):=q1.1;have q2':some (Value.int .i64 ((c ((bE h).getD k 0).toNat).p 2))=some (.int .i64 _):=q2.1;rw[e];exact⟨(Value.int.inj (udz q1')).2,(Value.int.inj (udz q2')).2⟩
 have key:=zce _ A1 _ c1 A2 (aL h).length c2 b off c day w (by omega) (λhp=>⟨(hA hp).1,hbd b (hA hp).2⟩) hc (λk=>((bE h).getD k 0).toNat) (bE h).length (by omega) (λk hk=>(hel k hk).2.1) (λW hW=>by
  have hx':=hvO.mono (λ_ h=>h) (λb hb=>hW.block b (hbd b hb));refine(JX.2 W F (h,()) [_] (λb hb=>ub9 (hbd b hb) hW.size) ⟨_,[],rfl,hx',rfl⟩ hok).mono ?_;rintro e w' ⟨u,F',rfl,hbel,g1,g2,g3⟩;have g4:aE prog w' F' (λ_ _=>True) (dE aK (bE h)) u:=fT g3;obtain⟨A3,c3,rfl,g5⟩:=g4.2;obtain⟨A4,c4,e4,_,_,g6⟩:=KN (w:=w') (F:=F') (l:=bE h) (v:=.slice A3 (bE h).length c3) ⟨A3,c3,rfl,g5⟩;cases e4;by_cases hp:0<(bE h).length
  ·obtain⟨b3,off3,rfl,hf3,hc3⟩:=g6 hp;exact⟨_,c3,b3,off3,rfl,hbel,λ_=>⟨rfl,(g2 b3 hf3).2⟩,λk hk=>by rw[(hel k hk).1]; exact(hc3 k _ (hel k hk).2.2).1⟩
  ·exact⟨A3,c3,0,0,rfl,hbel,λh=>absurd h hp,λk hk=>absurd hk (by omega)⟩)
 refine(callsIn_wide.1 key).mono ?_;rintro e w' ⟨he,hbel⟩;have hres:e = .returned (.bool (Lw h day)):=by
  have hb:∀ k,k<(bE h).length->((c ((bE h).getD k 0).toNat).p 2==3 || (c ((bE h).getD k 0).toNat).p 2==4)=kM (bZ h ((bE h).getD k 0)):=λk hk=>by rw[(hpq k hk).2]; rfl
  unfold Lw;rcases he with ⟨rfl,hno⟩|⟨k,hk,hk1,hk2,rfl⟩
  ·rw[Wj _ λk hk=>(hb k hk).symm.trans (hno k hk)]
  ·rw[Wk ((hb k hk).symm.trans hk1) _ hk λj h1 h2=>(hb j h2).symm.trans (hk2 j h1 h2)];show Ending.returned (.bool (decide ((c ((bE h).getD k 0).toNat).p 1<=day)))=_;rw[(hpq k hk).1]
 subst hres;exact⟨_,F,rfl,hbel,λ_ h=>h,λb hb=>⟨.inl hb,ub9 (hbd b hb) hbel.size⟩,rfl,⟨λh=>(by cases h),λh=>(by obtain⟨_,h⟩:=h; cases h)⟩,rfl⟩
abbrev p7:Pt:=⟨73,0,⟨[(3,.d i64)],[.x 1 123 aQ,.r 1 1 0]⟩,⟨[],[.x 1 123 aQ,.r 1 1 0]⟩,⟨[(2,.d .bool)],[]⟩⟩
def F4 (v:aQ.den):List Int:=[v.2.1.1,v.2.1.2.1,v.2.1.2.2.1,v.2.1.2.2.2.1]
def f7 (x:p7.M.X):Fr p7.Out:=
 let k:Int:=x.1.1; let v:aQ.den:=x.2.1
 Jb (decide (k<4))
  (Jd (0<=k/\k<((4:Nat):Int)) (Jd (decide ((F4 v).getD k.toNat 0<0)=false->0<=k/\k<((4:Nat):Int))
   (Jb (bif decide ((F4 v).getD k.toNat 0<0) then true else decide ((F4 v).getD k.toNat 0>100000)) (Jv (Rd.back ((false,()),()))) (Jv (Rd.next ((I6.wrap (k+1),()),(v,())))))))
  (Jv (Rd.out ((),(v,()))))
abbrev p9:Pt:=⟨85,0,⟨[(10,.d i64),(8,.d aK),(9,.d i64)],[.x 3 123 aQ,.r 3 3 0]⟩,⟨[(9,.d i64)],[.x 3 123 aQ,.r 3 3 0]⟩,⟨[(6,.d i64),(7,.d i64)],[]⟩⟩
def f9 (x:p9.M.X):Fr p9.Out:=
 let k:Int:=x.1.1; let l:List Int:=x.1.2.1; let m:Int:=x.1.2.2.1; let v:aQ.den:=x.2.1
 Jb (decide (k<(l.length:Int)))
  (Jd (0<=k/\k<(l.length:Int))
   (Jb ((iC.f (m,l.getD k.toNat 0,())).2.1 != 0) (Jv (Rd.back ((0,(iC.f (m,l.getD k.toNat 0,())).2.1,()),())))
    (Jv (Rd.next ((I6.wrap (k+1),l,(iC.f (m,l.getD k.toNat 0,())).1,()),(v,()))))))
  (Jv (Rd.out ((m,()),(v,()))))
noncomputable def YX:Cx:=cx [(65,fN),(78,mE),(64,ow),(79,G8)] []
def YY:CxOK prog YX:=aP aG ⟨CN,N4,Sh,zcf,uT⟩ trivial
def HU (x:ag [.d aC,.d b8,.d i64]):Fr (aa [i64,i64]):=
 Jd (bL x.1) (Jd (bJ (x.2.1.1,())) (Jb ((fN.f (x.1,(x.2.1.1,()),())).2.1 != 0) (Jv (0,(fN.f (x.1,(x.2.1.1,()),())).2.1,())) (Jb ((mE.f ((fN.f (x.1,(x.2.1.1,()),())).1,I6.wrap ((if 292194<x.2.2.1 then 292194 else x.2.2.1)+1),())).2.1 != 0) (Jv (0,(mE.f ((fN.f (x.1,(x.2.1.1,()),())).1,I6.wrap ((if 292194<x.2.2.1 then 292194 else x.2.2.1)+1),())).2.1,())) (Jd (bL x.1) (Jd (bJ (x.2.1.1,())) (Jb ((ow.f (x.1,(x.2.1.1,()),())).2.1 != 0) (Jv (0,(ow.f (x.1,(x.2.1.1,()),())).2.1,())) (Jd (((aL x.1).length:Int)<=1000000) (Jb (G8.f (x.1,x.2.2.1,())).1 (Jv (I6.wrap ((mE.f ((fN.f (x.1,(x.2.1.1,()),())).1,I6.wrap ((if 292194<x.2.2.1 then 292194 else x.2.2.1)+1),())).1+(ow.f (x.1,(x.2.1.1,()),())).1),0,())) (Jv ((mE.f ((fN.f (x.1,(x.2.1.1,()),())).1,I6.wrap ((if 292194<x.2.2.1 then 292194 else x.2.2.1)+1),())).1,0,()))))))))))
def qje:af prog 48 ⟨[.d aC,.d b8,.d i64],[i64,i64],λxs=>(HU xs).get,λxs=>[(HU xs).ok]⟩:=
 cf YY (Λ:=bw) (fn:=f48) (aW [.d aC,.d b8,.d i64]) (by kernel_rfl) (λc E _=>aY c 0) (λx=>by kernel_rfl)
def GH:Ct:=⟨[.d aC,.d b8,.d i64],[i64,i64],λx=>(HU x).get,λx=>[bL x.1,bJ x.2.1]⟩
def qci:af prog 48 GH:=bW qje _ (λx hw hok=>by
 have h1:bL x.1:=hok.1;have h2:bJ x.2.1:=hok.2;have h3:((aL x.1).length:Int)<=1000000:=by have:=h1.1; omega
 exact⟨h1,h2,λ_=>uT,λ_=>⟨λ_=>uT,λ_=>⟨h1,h2,λ_=>uT,λ_=>⟨h3,λ_=>uT,λ_=>uT⟩⟩⟩⟩)
def Lq (d:bS.den) (e:Int):dw.den:=
 let g:=λ(k:Int)=>(uG d).getD (Int.toNat k) 0
 let W:=I6.wrap
 (0,W (W (g 1-g 2)+g 3),W (g 0-g 1),W (e-g 0),W (0-e),W (g 2-g 3),W (0-g 4),g 4,g 5,W (0-g 5),())
def H7 (f:factT.den) (d:bS.den) (e i:Int):Fr (aa [bp]):=
 cI (InK 9 0 9) (quq (Lq d e,f.1,i,bp.dflt) []) (qmi (Lq d e,f.1,i,bp.dflt) []) (λs=>Jv ((f.1,i,s,()),()))
def LG (t:Fr α):List Int->Fr α
 |[]=>t
 |k::l=>Jd (0<=k/\k<6) (LG t l)
def WE {Q:α->Prop} {t:Fr α} (h:t.satP Q):(l:List Int)->(∀ k∈l,0<=k/\k<6)->(LG t l).satP Q
 |[],_=>h
 |k::l,hl=>⟨hl k uca,WE h l λx hx=>hl x (ubh _ hx)⟩
def HV (x:ag [.d factT,.d bS,.d i64]):Fr (aa [bp]):=
 LG (Jb (x.1.2.1==6) (H7 x.1 x.2.1 x.2.2.1 x.1.2.2.2.2.2.2.2.2.2.1.1) (H7 x.1 x.2.1 x.2.2.1 x.1.2.2.1)) [1,2,3,0,1,0,2,3,4,4,5,5]
def qjf:af prog 33 (bg [.d factT,.d bS,.d i64] [bp] HV):=
 cS aH qr2 (fn:=f33)
def PW (y:aa [bp]):Prop:=List.length (α:=bR.den) y.1.2.2.1<=9
def PA (f:factT.den) (d:bS.den) (e i:Int):(H7 f d e i).satP PW:=
 fz (A:=λ(s:List bR.den)=>s.length<=9) ⟨rfl,by decide,by decide,by decide⟩
  (dk (step:=DN (Lq d e,f.1,i,bp.dflt) True) (λj (s:List bR.den)=>s.length<=j) (List.replicate 9 ()) (λj e s he hs=>by
   have hj:=Te he;have hx:=ew;refine⟨WB hj,λ_=>⟨?_,?_⟩,λ_=>Nat.le_succ_of_le hs⟩
   ·show s.length+1<=maxLen/\(s.length+1)*16<=140737488355328;omega
   ·show(s++[_]).length<=j+1;rw[ub4];exact Nat.succ_le_succ hs) [] (ue4 _)) (λ_ hs=>hs)
def PC (x:ag [.d factT,.d bS,.d i64]):(HV x).satP PW:=WE (t:=Jb _ _ _) ⟨λ_=>PA _ _ _ _,λ_=>PA _ _ _ _⟩ _ (by decide)
def AO:Ct:=⟨[.d factT,.d bS,.d i64],[bp],λx=>(HV x).get,λ_=>[]⟩
def qcj:af prog 33 AO:=bW qjf _ (λx _ _=>(cO (PC x)).1)
def qgn (x:ag [.d factT,.d bS,.d i64]):List.length (α:=bR.den) (AO.f x).1.2.2.1<=9:=(cO (PC x)).2
noncomputable def OZ:List (FuncId×Ct):=[(48,GH)]
noncomputable def YZ:Cx:=cW OZ [] (fU prog (cx [] []) Fl)
def M2:CxOK prog YZ:=cZ (cs:=OZ) aG ⟨qci,uT⟩ trivial (gG kq (lk (by kernel_rfl) qe))
abbrev yF:Pt:=⟨38,0,⟨[(14,.d i64),(13,.d i64),(12,.d (.sl zjz)),(1,.d i64)],[.x 2 82 aq,.r 2 2 0,.x 6 127 cK,.r 6 6 0]⟩,⟨[],[.x 6 127 cK,.r 6 6 0]⟩,⟨[(4,.d i64),(5,.d i64)],[]⟩⟩
abbrev Jf:Type:=Int×List zjz.den×Int×aq.den
def H3 (k:Jf) (e:zjz.den):aa [i64,i64]:=GH.f (e.1,k.2.2.2.1,k.2.2.1,())
def DM (k:Jf) (b:Prop) (_i:Int) (e:zjz.den) (s:cK.den):Fr (cK.den ⊕ yF.R.X):=
 Jd b (Jd (bL e.1) (Jd (bJ k.2.2.2.1) (Jb ((H3 k e).2.1 != 0) (Jv (.inr ((0,(H3 k e).2.1,()),())))
  (nJ (λs1=>Jv (.inl s1)) (nX 0 (H3 k e).1 s)))))
def Z3:yF.M.X->Fr yF.Out:=FK (λx=>(x.1.1,(x.1.2.1,x.1.2.2.1,x.1.2.2.2.1,x.2.1),x.2.2.1)) (λk=>k.1) (λk=>k.2.1) DM (λ_ s=>((),s,())) (λ_ y=>Rd.back y) cK.dflt (aW _,bN _)
def qr1:ae prog (.loop (au f27 0)) yF.M yF Z3:=
 lm M2 (λi k s=>((i,k.1,k.2.1,k.2.2.1,()),k.2.2.2,s,())) zjz.dflt
def Jg (st:aq.den) (day:Int):Jf:=((List.length (α:=zjz.den) st.2.1:Int),st.2.1,day,st)
def Qf (x:ag [.d aq,.d i64]):Fr (aa [i64,i64]):=
 iY (InK (List.length (α:=zjz.den) x.1.2.1:Int) 0 (List.length (α:=zjz.den) x.1.2.1)) (eJ (DM (Jg x.1 x.2.1) True) 0 x.1.2.1 cK.dflt) (da (DM (Jg x.1 x.2.1) True) 0 x.1.2.1 cK.dflt) cK.dflt (aW _,bN _)
  (λs=>Jb s.2.1 (Jv (0,5,())) (Jd ((0:Int)<=0/\0<(6:Int)) (Jv ((uG s.1).getD (Int.toNat 0) 0,0,())))) (λy=>Jv y.1)
def qi9:af prog 27 (bg [.d aq,.d i64] [i64,i64] Qf):=
 cS M2 qr1 (fn:=f27)
def qgf (st:aq.den) (day:Int) (hf:bD st):eJ (DM (Jg st day) True) 0 st.2.1 cK.dflt:=
 (nm (step:=DM (Jg st day) True) (λ_ _=>True) (λ_=>True) st.2.1 (λi e s he _=>
  ⟨uT,hf.2.2.2 e (ube he),hf.1,λ_=>uT,λ_=>qg (Fr.satP_mono (λs1 _=>uT) (qo (by decide)))⟩) cK.dflt trivial).1
def GD:Ct:=⟨[.d aq,.d i64],[i64,i64],λx=>(Qf x).get,λx=>[bD x.1]⟩
def qce:af prog 27 GD:=bW qi9 _ (λx _ hok=>
 ss (dI (uek hok.2.1 (by decide))) (qgf x.1 x.2.1 hok) (λs=>⟨λ_=>uT,λ_=>⟨by decide,uT⟩⟩) (λ_=>uT))
noncomputable def Pa:List (FuncId×Ct):=[(31,Gy),(32,Gh),(24,GG),(27,GD),(33,AO),(34,fA bR),(35,GF),(36,GL)]
noncomputable def M3:Cx:=cx Pa []
def zR:CxOK prog M3:=aP (cs:=Pa) aG ⟨qt7,qf0,qch,qce,qcj,qap,qcf,qcq,uT⟩ trivial
abbrev FE:List (Nat×PT):=[(28,.d i64),(27,.d i64),(26,.d (.sl factT)),(1,.d i64),(8,.d i64)]
abbrev NW:List MI:=[.x 4 52 bV,.r 4 4 0,.x 6 52 bV,.r 6 6 0,.x 7 85 bS,.r 7 7 0,.x 9 82 aq,.r 9 9 0]
abbrev NX:List MI:=NW++[.x 11 44 factT,.r 11 11 0,.x 14 85 bS,.r 14 14 0,.x 19 85 bS,.r 19 19 0]
abbrev vB:Pt:=⟨110,2,⟨(72,.d i64)::FE++[(16,.d i64)],NX⟩,⟨FE++[(16,.d i64)],NX⟩,⟨[],[]⟩⟩
abbrev uu:Type:=(Int×Int×List factT.den×Int×Int×Int)×bV.den×bV.den×bS.den×aq.den×factT.den×bS.den
def Ea (k:uu) (_b:Prop) (i:Int) (_e:Unit) (d:bS.den):Fr bS.den:=
 let a:=Int.toNat i;Jd (0<=i/\i<(6:Int)) (Jd (0<=i/\i<(6:Int)) (Jd (0<=i/\i<(6:Int)) (Jv (Vg d i (I6.wrap ((uG k.2.2.2.2.2.2).getD a 0-(uG k.2.2.2.1).getD a 0))))))
def Nn:vB.M.X->Fr vB.Out:=FG (λx=>(x.1.1,((x.1.2.1,x.1.2.2.1,x.1.2.2.2.1,x.1.2.2.2.2.1,x.1.2.2.2.2.2.1,x.1.2.2.2.2.2.2.1),x.2.1,x.2.2.1,x.2.2.2.1,x.2.2.2.2.1,x.2.2.2.2.2.1,x.2.2.2.2.2.2.1),x.2.2.2.2.2.2.2.1)) (λ_=>6) (λ_=>List.replicate 6 ()) Ea
 (λ(k:uu) d=>((k.1.1,k.1.2.1,k.1.2.2.1,k.1.2.2.2.1,k.1.2.2.2.2.1,k.1.2.2.2.2.2,()),(k.2.1,k.2.2.1,k.2.2.2.1,k.2.2.2.2.1,k.2.2.2.2.2.1,k.2.2.2.2.2.2,d,())))
noncomputable def RG:Code:=((Go.Ab.loopB (au f11 0) 0).getD .skip)
def qs1:ae prog (.loop RG) vB.M vB Nn:=
 cN zR (λi (k:uu) d=>((i,k.1.1,k.1.2.1,k.1.2.2.1,k.1.2.2.2.1,k.1.2.2.2.2.1,k.1.2.2.2.2.2,()),(k.2.1,k.2.2.1,k.2.2.2.1,k.2.2.2.2.1,k.2.2.2.2.2.1,k.2.2.2.2.2.2,d,()))) ()
def zee (Γ:Gm):St->Option Tr:=vB.han Γ vB.M Nn
abbrev rL:Pt:=⟨110,0,⟨FE,NW⟩,⟨[],[.x 4 52 bV,.r 4 4 0,.x 6 52 bV,.r 6 6 0]⟩,⟨[(5,.d i64)],[.x 4 52 bV,.r 4 4 0]⟩⟩
abbrev ur:Type:=Int×List factT.den×Int×bV.den
abbrev kZ:Type:=bV.den×bS.den×Int×aq.den
def Pr (st:aq.den) (f:factT.den):aa [aq,i64]:=Gh.f (st,f,())
def yY (st:aq.den):aa [bS,i64]:=GG.f (st,())
def edO (st:aq.den) (d:Int):aa [i64,i64]:=GD.f (st,d,())
def tM (f:factT.den) (d:bS.den) (m:Int):bp.den:=(AO.f (f,d,m,())).1
def Kj (b:bV.den) (x:bp.den):aa [bV,i64]:=GL.f (b,x,())
def qbl (x:bp.den):Bool:=((fA bR).f (x.2.2.1,λy=>GF.f y,())).1
def CK (e:Int):kZ ⊕ rL.R.X:=.inr ((e,()),bV.dflt,())
def Jn (k:ur) (i:Int) (f:factT.den) (s:kZ) (st:aq.den) (m b:Int):uu:=((i,k.1,k.2.1,k.2.2.1,b,m),k.2.2.2,s.1,s.2.1,st,f,(yY st).1)
def qum (k:uu):Prop:=bM (Ea k True) 0 (List.replicate 6 ()) bS.dflt
def qmf (k:uu):bS.den:=bO (Ea k True) 0 (List.replicate 6 ()) bS.dflt
def Kx (k:ur) (i:Int) (f:factT.den) (s:kZ) (st:aq.den) (m b:Int):Fr (kZ ⊕ rL.R.X):=
 cI (InK 6 0 6) (qum (Jn k i f s st m b)) (qmf (Jn k i f s st m b)) (λd=>
  Jb ((List.length (α:=bR.den) (tM f d m).2.2.1:Int)==0) (Jv (.inl (s.1,(yY st).1,b,st)))
   (Jd (∀ y:aa [bR],fi [bR] y->av ([]:List Prop)) (Jb (qbl (tM f d m)) (Jv (CK 5))
    (Jd (List.length (α:=bR.den) (tM f d m).2.2.1<=1000000) (Jb ((Kj s.1 (tM f d m)).2.1 != 0) (Jv (CK (Kj s.1 (tM f d m)).2.1))
     (Jv (.inl ((Kj s.1 (tM f d m)).1,(yY st).1,b,st))))))))
def DL (k:ur) (b:Prop) (i:Int) (f:factT.den) (s:kZ):Fr (kZ ⊕ rL.R.X):=
 let a:=Pr s.2.2.2 f;let c:=edO a.1 f.2.2.2.2.1;Jd b (Jb (decide (f.1>k.2.2.1)) (Jv (.inl s)) (Jd (bD s.2.2.2) (Jb (a.2.1 != 0) (Jv (.inl s))
  (Jd (bD a.1) (Jd (ev (bq a.1)) (Jb ((yY a.1).2.1 != 0) (Jv (CK (yY a.1).2.1))
   (Jb (f.2.1==7)
    (Jd (bD a.1) (Jb (c.2.1 != 0) (Jv (CK c.2.1))
     (Kx k i f s a.1 (I6.wrap (c.1-s.2.2.1)) c.1)))
    (Kx k i f s a.1 0 s.2.2.1))))))))
def Z2:rL.M.X->Fr rL.Out:=FK (λx=>(x.1.1,((x.1.2.1,x.1.2.2.1,x.1.2.2.2.1,x.2.1):ur),((x.2.2.1,x.2.2.2.1,x.1.2.2.2.2.1,x.2.2.2.2.1):kZ))) (λk=>k.1) (λk=>k.2.1) DL (λk s=>((),k.2.2.2,s.1,())) (λ_ y=>Rd.back y) (bV.dflt,bS.dflt,0,aq.dflt) (aW _,bN _)
def qrw:ae prog (.loop (au f11 0)) rL.M rL Z2:=
 lm zR (λi k s=>((i,k.1,k.2.1,k.2.2.1,s.2.2.1,()),(k.2.2.2,s.1,s.2.1,s.2.2.2,()))) factT.dflt (Λ:=λ_=>zee M3.Γ) (hΛ:=λ_=>kP (by kernel_rfl) (b:=RG) (by kernel_rfl) (ae.han zR rfl qs1))
def Je (j:jourT.den) (day:Int):ur:=((List.length (α:=factT.den) j.2.1:Int),j.2.1,day,bV.dflt)
def DA (j:jourT.den):kZ:=(bV.dflt,bS.dflt,0,(Gy.f (j.1,())).1)
def Qg (x:ag [.d jourT,.d i64]):Fr (aa [bV,i64]):=
 iY (InK (List.length (α:=factT.den) x.1.2.1:Int) 0 (List.length (α:=factT.den) x.1.2.1)) (eJ (DL (Je x.1 x.2.1) True) 0 x.1.2.1 (DA x.1)) (da (DL (Je x.1 x.2.1) True) 0 x.1.2.1 (DA x.1)) (bV.dflt,bS.dflt,0,aq.dflt) (aW _,bN _)
  (λs=>Jv (s.1,0,())) (λy=>Jv (y.2.1,y.1.1,()))
def qjc:af prog 11 (bg [.d jourT,.d i64] [bV,i64] Qg):=
 cS zR qrw (fn:=f11)
def LE {e:Unit} (h:(List.replicate 6 ())[i]? = some e):0<=(i:Int)/\(i:Int)<6:=by
 have:=(uak.1 h).1;rw[List.length_replicate] at this;omega
def U3 (k:ur) (i:Int) (j:Nat) (f:factT.den) (s:kZ) (st:aq.den) (m b:Int) (h:oO st):(Kx k i f s st m b).satP (my ((λ_ (s:kZ)=>oO s.2.2.2) j) (λ_=>True)):=
 fz (A:=λ_=>True) ⟨rfl,by decide,by decide,by decide⟩ ⟨(dk (step:=Ea (Jn k i f s st m b) True) (λ_ _=>True) (List.replicate 6 ()) (λj e s he _=>⟨LE he,LE he,LE he,uT⟩) bS.dflt trivial).1,uT⟩
  (λd _=>⟨λ_=>h,λ_=>⟨λ_ _=>uT,λ_=>uT,λ_=>⟨uek (qgn _) (by decide),λ_=>uT,λ_=>h⟩⟩⟩)
def qqc (j:jourT.den) (day:Int) (ht:bJ j.1):eJ (DL (Je j day) True) 0 j.2.1 (DA j):=
 (nm (step:=DL (Je j day) True) (λ_ (s:kZ)=>oO s.2.2.2) (λ_=>True) j.2.1 (λi f s he hs=>by
  refine⟨uT,λ_=>hs,λ_=>⟨hs.1,λ_=>hs,λh0=>?_⟩⟩;have h0:(jY s.2.2.2 f).2=0:=by
   have h:((jY s.2.2.2 f).2 != 0)=false:=h0;simpa using h
  have hn:oO (Pr s.2.2.2 f).1:=qht f hs h0;exact⟨hn.1,qhr hn,λ_=>uT,λ_=>⟨λ_=>⟨hn.1,λ_=>uT,λ_=>U3 _ _ (i+1) _ _ _ _ _ hn⟩,λ_=>U3 _ _ (i+1) _ _ _ _ _ hn⟩⟩) (DA j) (qhs ht)).1
def GE:Ct:=⟨[.d jourT,.d i64],[bV,i64],λx=>(Qg x).get,λx=>[bJ x.1.1]⟩
def qcg:af prog 11 GE:=bW qjc _ (λx hw hok=>ss (gt hw.1.2.1.1) (qqc x.1 x.2.1 hok) (λ_=>uT) (λ_=>uT))
noncomputable def zgq:Cx:=cx [(25,tC),(45,GI)] []
def zgr:CxOK prog zgq:=aP aG ⟨O4,qcm,uT⟩ trivial
def zf8 (x:ag [.d aq]):Fr (aa [.sl ay,i64]):=
 Jd (bD x.1) (Jd (ev (bq x.1)) (Jb ((gE x.1).2.1 != 0) (Jv ([],(gE x.1).2.1,()))
  (Jd (List.length (α:=aJ.den) (gE x.1).1<=List.length (α:=ar.den) (bq x.1)) (Jd (List.length (α:=aJ.den) (gE x.1).1<=1000000) (Jv (J2 x.1,0,()))))))
def zhg:af prog 26 (bg [.d aq] [.sl ay,i64] zf8):=
 aS zgr f26
def zf3:Ct:=⟨[.d aq],[.sl ay,i64],λx=>(zf8 x).get,λx=>[bD x.1,ev (bq x.1)]⟩
def zg4:af prog 26 zf3:=bW zhg _ (λx _ hok=>⟨hok.1,hok.2,λ_=>uT,λhe=>by
 have h0:(gE x.1).2.1=0:=by simpa using he
 have h1:=qkt x.1 hok.1 hok.2 h0;exact⟨Nat.le_of_eq h1,by rw[show List.length (α:=aJ.den) (gE x.1).1=_ from h1]; exact uek hok.1.2.2.1 (by decide),uT⟩⟩)
abbrev nTm:dm.den:=((0,0,()),(0,0,0,0,()),[],())
abbrev nCh:az.den:=(0,0,0,(0,0,0,0,()),[],0,())
abbrev nCl:dD.den:=(0,0,0,0,0,0,())
abbrev nAc:bn.den:=(0,0,0,())
abbrev nTr:ah.den:=(0,0,(0,0,()),0,0,0,0,0,())
def zey:jourT.den:=(([(1,(10000,0,0,0,()),[],[10000],[10000,10000,10000,10000,10000,10000,10000,10000],0,())],()),
 [(5,1,1,0,0,((1,101,()),(0,36500,0,0,()),[(1,1000,1500,100,10000,())],()),nCh,nCl,nAc,nTr,()),(7,3,1,4000,0,nTm,nCh,nCl,nAc,nTr,()),(9,4,0,0,0,nTm,nCh,(3,1,1,8,9,0,()),nAc,nTr,()),(10,5,3,0,0,nTm,nCh,nCl,(10,1,900,()),nTr,()),
 (11,5,3,0,0,nTm,nCh,nCl,(11,2,700,()),nTr,()),(12,6,0,0,0,nTm,nCh,nCl,nAc,(2,1,(1,101,()),5000,0,0,0,255,()),()),(20,7,0,0,20,nTm,nCh,nCl,nAc,nTr,())],())
def zf1:Ct:=⟨[],[jourT],λ_=>(zey,()),λ_=>[]⟩
def zh0:af prog 22 zf1:=
 conv (aS aH f22 (fr:=λ_=>Jv (zey,())) (ps:=[]) (rs:=[jourT])) _ _ (λ_ _ _ _ _ _=>⟨uT,rfl⟩)
noncomputable def zf5:List (FuncId×Ct):=[(22,zf1),(11,GE),(23,zfq),(24,GG),(25,tC),(26,zf3),(27,GD),(14,GM)]
noncomputable def zgs:Cx:=cx zf5 []
def zgt:CxOK prog zgs:=aP (cs:=zf5) aG ⟨zh0,qcg,zhw,qch,O4,zg4,qce,qcr,uT⟩ trivial
def zfn:aq.den:=(zfq.f (zey,99,())).1
def zhn (_:ag []):Fr (aa [.bool]):=
 let t:=λ(x:Fr (aa [.bool]))=>Jd (bD zfn) (Jd (ev (bq zfn)) x)
 Jd (bJ zey.1) (Jd (bJ zey.1) (t (t (t (Jd (bD zfn) (Jd (bJ zey.1) (Jd (true=true->(0:Int)<=0/\(0:Int)<1) (Jd (true=true->(0:Int)<=0/\(0:Int)<1) (Jv (true,()))))))))))
def zg2:af prog 9 (bg [] [.bool] zhn):=
 aS zgt Tryz.f9
def zg8:oO zfn:=by
 unfold oO bD fE bJ bL LC;decide +kernel
def zfs:bJ zey.1:=by
 unfold bJ LC;decide +kernel
def zf2:Ct:=⟨[],[.bool],λ_=>(true,()),λ_=>[]⟩
def zg1:af prog 9 zf2:=conv zg2 _ _ (λ_ _ _ _ _ _=>by
 have h:=zg8;have hl:=qhr h;exact⟨⟨zfs,zfs,h.1,hl,h.1,hl,h.1,hl,h.1,zfs,λ_=>by decide,λ_=>by decide,uT⟩,rfl⟩)
def zf0:Ct:=⟨[.d jourT],[.bool],λx=>(mX x.1 30,()),λ_=>[]⟩
noncomputable def zgu:Cx:=cx [(17,Oo)] []
def zgv:CxOK prog zgu:=aP aG ⟨qhq,uT⟩ trivial
def zg7:af prog 8 zf0:=
 conv (aS zgv f8 (fr:=λx=>Jv (mX x.1 30,())) (ps:=[.d jourT]) (rs:=[.bool])) _ _ (λ_ _ _ _ _ _=>⟨uT,rfl⟩)
def zfi (l:List T) (stp:Int->T->Unit->Fr (Unit ⊕ ((Bool×Unit)×Unit))) (K:Fr (aa [.bool])):Fr (aa [.bool]):=
 Jd (InK (l.length:Int) 0 l.length) (Jd (eJ stp 0 l ()) (Jb (dF (da stp 0 l ())) K (Jv ((zej ((false,()),()) (da stp 0 l ())).1.1,()))))
def zf7 {stp:Int->T->Unit->Fr (Unit ⊕ ρ)} {l2:List T} {d:T} (h:∀ i e,0<=i/\i<(l2.length:Int)->l2.getD i.toNat d=e->(stp i e ()).ok/\(stp i e ()).get = .inl ()):(l p:List T)->(i:Int)->i=(p.length:Int)->l2=p++l->eJ stp i l ()/\da stp i l () = .inl ()
 |[],_,_,_,_=>⟨uT,rfl⟩
 |e::l,p,i,hi,hp=>by
  have hl:l2.length=p.length+(e::l).length:=by rw[hp,ub4]
  rw[uc6] at hl;have he:l2.getD (Int.toNat i) d=e:=by
   rw[hp,hi,ucy,uah,uae (ue4 _),Nat.sub_self];rfl
  have h2:=zf7 h l (p++[e]) (i+1) (by rw[ub4,ua6]; omega) (by rw[hp,ucp]; rfl);have hs:=h i e (by omega) he;unfold eJ da;rw[hs.2];exact⟨⟨hs.1,h2.1⟩,h2.2⟩
def tR {stp:Int->T->Unit->Fr (Unit ⊕ ((Bool×Unit)×Unit))} {l:List T} {d:T} {K:Fr (aa [.bool])} (hl:(l.length:Int)<=9223372036854775807) (h:∀ i e,0<=i/\i<(l.length:Int)->l.getD i.toNat d=e->(stp i e ()).ok/\(stp i e ()).get = .inl ()) (hK:K.ok/\K.get=(true,())):(zfi l stp K).ok/\(zfi l stp K).get=(true,()):=by
 have hg:=zf7 h l [] 0 rfl rfl;refine aF ⟨rfl,ue5 _,ub2 _,hl⟩ (aF hg.1 ?_);rw[hg.2];exact aZ rfl hK
def cEq (t:Ty):Ct:=⟨[.d t,.d t],[.bool],λ_=>(true,()),λx=>[x.1=x.2.1]⟩
abbrev zfe:Pt:=⟨45,0,⟨[(5,.d i64)],[.x 2 60 bp,.r 2 2 0,.x 3 60 bp,.r 3 3 0]⟩,⟨[],[]⟩,⟨[(4,.d .bool)],[]⟩⟩
def zet (x:bp.den):List bR.den:=x.2.2.1
def zgl (k:bp.den×bp.den) (b:Prop) (i:Int) (e:bR.den) (_s:Unit):Fr (Unit ⊕ zfe.R.X):=
 let a:=(zet k.2).getD i.toNat bR.dflt;Jd b (Jd (0<=i/\i<((zet k.2).length:Int)) (Jb (!(e.1==a.1&&(e.2.1==a.2.1&&true))) (Jv (.inr ((false,()),()))) (Jv (.inl ()))))
def zg0:zfe.M.X->Fr zfe.Out:=FK (λx=>(x.1.1,(x.2.1,x.2.2.1),())) (λk=>((zet k.1).length:Int)) (λk=>zet k.1) zgl (λ_ _=>((),())) (λ_ y=>Rd.back y) () (aW _,bN _)
def zhu:ae prog (.loop (au f13 0)) zfe.M zfe zg0:=
 lm aH (λi k _=>((i,()),(k.1,k.2,()))) bR.dflt
def neE (a b:bp.den):Bool:=bif bif a.1 != b.1 then true else a.2.1 != b.2.1 then true else ((zet a).length:Int) != ((zet b).length:Int)
def zh5:af prog 13 (cEq bp):=
 conv (cS aH zhu (ps:=[.d bp,.d bp]) (fr:=λx=>Jb (neE x.1 x.2.1) (Jv (false,())) (zfi (zet x.1) (zgl (x.1,x.2.1) True) (Jv (true,()))))) _ _ (λw F x vs hr h=>by
  have hw:=qh hr;obtain⟨a,b,_⟩:=x;have h:a=b:=h;subst h;refine aR (by simp[neE]) (tR (d:=bR.dflt) (uB hw.1.2.2.1.1) (λi e hi he=>?_) ⟨uT,rfl⟩);refine aF trivial (aF hi (aR ?_ ⟨uT,rfl⟩));have he:(zet a).getD i.toNat bR.dflt=e:=he;rw[he];simp)
abbrev zfd:Pt:=⟨32,0,⟨[(5,.d i64)],[.x 2 52 bV,.r 2 2 0,.x 3 52 bV,.r 3 3 0]⟩,⟨[],[]⟩,⟨[(4,.d .bool)],[]⟩⟩
noncomputable def zgw:Cx:=cx [(13,cEq bp)] []
def zfy:CxOK prog zgw:=aP aG ⟨zh5,uT⟩ trivial
def zgk (k:bV.den×bV.den) (b:Prop) (i:Int) (e:bp.den) (_s:Unit):Fr (Unit ⊕ zfd.R.X):=
 Jd b (Jd (0<=i/\i<(List.length (α:=bp.den) k.2.1:Int)) (Jd (e=List.getD (α:=bp.den) k.2.1 i.toNat bp.dflt) (Jb (!true) (Jv (.inr ((false,()),()))) (Jv (.inl ())))))
def zgz:zfd.M.X->Fr zfd.Out:=FK (λx=>(x.1.1,(x.2.1,x.2.2.1),())) (λk=>(List.length (α:=bp.den) k.1.1:Int)) (λk=>k.1.1) zgk (λ_ _=>((),())) (λ_ y=>Rd.back y) () (aW _,bN _)
def zht:ae prog (.loop (au f12 0)) zfd.M zfd zgz:=
 lm zfy (λi k _=>((i,()),(k.1,k.2,()))) bp.dflt
def zh4:af prog 12 (cEq bV):=
 conv (cS zfy zht (ps:=[.d bV,.d bV]) (fr:=λx=>Jb ((List.length (α:=bp.den) x.1.1:Int) != (List.length (α:=bp.den) x.2.1.1:Int)) (Jv (false,())) (zfi x.1.1 (zgk (x.1,x.2.1) True) (Jv (true,()))))) _ _ (λw F x vs hr h=>by
  have hw:=qh hr;obtain⟨a,b,_⟩:=x;have h:a=b:=h;subst h;refine aR (by simp) (tR (d:=bp.dflt) (uB hw.1.1.1) (λi e hi he=>?_) ⟨uT,rfl⟩);exact aF trivial (aF hi (aF he.symm (aR rfl ⟨uT,rfl⟩))))
def ze1 (day:Int) (f:factT.den) (s:kZ):kZ ⊕ rL.R.X:=(DL (0,[],day,bV.dflt) True 0 f s).get
def zh7 (k:ur) (i:Int) (f:factT.den) (s:kZ):(DL k True i f s).get=ze1 k.2.2.1 f s:=rfl
def goV (day:Int):List factT.den->kZ->kZ ⊕ rL.R.X
 |[],s=>.inl s
 |f::l,s=>match ze1 day f s with
  |.inl s'=>goV day l s'
  |.inr y=>.inr y
def zga (k:ur):(l:List factT.den)->(i:Int)->(s:kZ)->da (DL k True) i l s=goV k.2.2.1 l s
 |[],_,_=>rfl
 |f::l,i,s=>by
  unfold da goV;rw[zh7];cases ze1 k.2.2.1 f s with
  |inl s'=>exact zga k l _ s'
  |inr y=>rfl
def zgb (day:Int) (m:List factT.den):(l:List factT.den)->(s:kZ)->goV day (l++m) s=match goV day l s with
  |.inl s'=>goV day m s'
  |.inr y=>.inr y
 |[],_=>rfl
 |f::l,s=>by
  simp only[uc1,goV];cases ze1 day f s with
  |inl s'=>exact zgb day m l s'
  |inr y=>rfl
def zfv:kZ ⊕ rL.R.X->aa [bV,i64]
 |.inl s=>(s.1,0,())
 |.inr y=>(y.2.1,y.1.1,())
def zep (j:jourT.den) (day:Int):aa [bV,i64]:=GE.f (j,day,())
def zgf (j:jourT.den) (day:Int):zep j day=zfv (goV day j.2.1 (DA j)):=by
 show(Qg (j,day,())).get=_;unfold Qg;rw[show goV day j.2.1 (DA j)=da (DL (Je j day) True) 0 j.2.1 (DA j) from (zga (Je j day) j.2.1 0 (DA j)).symm];dsimp only;cases da (DL (Je j day) True) 0 j.2.1 (DA j)<;>rfl
def zh6 {f:factT.den} (s:kZ) (h:f.1>day):ze1 day f s = .inl s:=by
 have e:ze1 day f s=if decide (f.1>day)=true then .inl s else (Jd (bD s.2.2.2) (Jb ((Pr s.2.2.2 f).2.1 != 0) (Jv (.inl s))
  (Jd (bD (Pr s.2.2.2 f).1) (Jd (ev (bq (Pr s.2.2.2 f).1)) (Jb ((yY (Pr s.2.2.2 f).1).2.1 != 0) (Jv (CK (yY (Pr s.2.2.2 f).1).2.1))
   (Jb (f.2.1==7)
    (Jd (bD (Pr s.2.2.2 f).1) (Jb ((edO (Pr s.2.2.2 f).1 f.2.2.2.2.1).2.1 != 0) (Jv (CK (edO (Pr s.2.2.2 f).1 f.2.2.2.2.1).2.1))
     (Kx (0,[],day,bV.dflt) 0 f s (Pr s.2.2.2 f).1 (I6.wrap ((edO (Pr s.2.2.2 f).1 f.2.2.2.2.1).1-s.2.2.1)) (edO (Pr s.2.2.2 f).1 f.2.2.2.2.1).1)))
    (Kx (0,[],day,bV.dflt) 0 f s (Pr s.2.2.2 f).1 0 s.2.2.1)))))):Fr (kZ ⊕ rL.R.X)).get:=rfl
 rw[e,if_pos (ud6 h)]
abbrev ze2 (f:factT.den):List ak.den:=(mV f).2.2.1
abbrev ze3 (f:factT.den):List ak.den:=(lF f).2.2.2.2.1
def zfz:Ct:=⟨[.d jourT,.d factT],[jourT,i64],λx=>((zeo x.1 x.2.1).1,(zeo x.1 x.2.1).2,()),λx=>[gF x.2.1=true->ze4 x.2.1]⟩
def zhl:af prog 10 zfz:=conv zhf _ _ (λ_ _ x _ _ h=>zhm x.1.1 x.1.2.1 x.2.1 h)
def zew {f:factT.den} (h:Ak f=true):(ze2 f).length=0/\(ze3 f).length=0:=by
 unfold Ak at h;simp only[PZ,Fr.get,gU,uc9] at h
 iterate 13 replace h:=h.1
 have h1:=h.1;have h2:=h.2;simp only[ufc] at h1 h2;exact⟨Int.ofNat_eq_zero.1 h2,Int.ofNat_eq_zero.1 h1⟩
def zho {f:factT.den} (h:gF f=true):(ze2 f).length=0\/(ze3 f).length=0:=by
 unfold gF at h;simp only[uc9] at h;have h:=h.2.2.1;unfold yO at h;cases h1:aU f==1
 ·rw[h1] at h;refine .inl ?_;cases h2:aU f==2
  ·rw[h2] at h;cases h3:aU f==3
   ·rw[h3] at h;cases h4:aU f==4
    ·rw[h4] at h;cases h5:aU f==5
     ·rw[h5] at h;cases h6:aU f==6
      ·rw[h6] at h; exact(zew h).1
      ·rw[h6] at h; exact(zew h).1
     ·rw[h5] at h; exact(zew h).1
    ·rw[h4] at h; exact(zew h).1
   ·rw[h3] at h; exact(zew h).1
  ·rw[h2] at h; exact(zew h).1
 ·rw[h1] at h; exact .inr (zew h).2
noncomputable def zf6:List (FuncId×Ct):=[(8,zf0),(9,zf2),(10,zfz),(11,GE),(12,cEq bV)]
noncomputable def zgx:Cx:=cx zf6 []
def zgy:CxOK prog zgx:=aP (cs:=zf6) aG ⟨zg7,zg1,zhl,qcg,zh4,uT⟩ trivial
def noN (j:jourT.den) (f:factT.den) (day:Int):Bool:=bif bif !(mX j 30) then true else decide (day>=f.1) then true else decide (I6.wrap (((ze2 f).length:Int)+((ze3 f).length:Int))>50)
def zfu (x:ag [.d jourT,.d factT,.d i64]):Fr (aa [.bool]):=
 let b:=x.2.2.1;let a:=zeo x.1 x.2.1;Jb (noN x.1 x.2.1 b) (Jv (true,())) (Jd (gF x.2.1=true->ze4 x.2.1) (Jb (a.2 != 0) (Jv (true,()))
  (Jd (bJ x.1.1) (Jd (bJ a.1.1) (Jd (true=true->(zep x.1 b).1=(zep a.1 b).1)
   (Jv ((zep x.1 b).2.1==(zep a.1 b).2.1,())))))))
def zhh:af prog 3 (bg [.d jourT,.d factT,.d i64] [.bool] zfu):=
 aS zgy f3
def zhv {j:jourT.den} {f:factT.den} (h1:(ze2 f).length<=maxLen) (h2:(ze3 f).length<=maxLen) (h:noN j f day=false):mX j 30=true/\f.1>day/\(gF f=true->ze4 f):=by
 unfold noN at h;cases hj:mX j 30
 ·rw[hj] at h; cases h
 rw[hj] at h;cases hd:decide (day>=f.1)
 ·rw[hd] at h;have h3:=ucf h;have hd:¬ (f.1<=day):=ucf hd;unfold maxLen at h1 h2;rw[udc] at h3;refine⟨rfl,Int.not_le.1 hd,λhr=>?_⟩;have h5:=zho hr;have h4:(ze2 f).length<=1000000/\(ze3 f).length<=1000000:=by
   generalize (ze2 f).length=a at *;generalize (ze3 f).length=b at *;omega
  exact h4
 ·rw[hd] at h; cases h
def zhq {j:jourT.den} {f:factT.den} (h:f.1>day):zep (j.1,j.2.1++[f],()) day=zep j day:=by
 rw[zgf,zgf];show zfv (goV day (j.2.1++[f]) (DA j))=_;rw[zgb];cases goV day j.2.1 (DA j) with
 |inl s=>
  show zfv (match ze1 day f s with
   |.inl s'=>.inl s'
   |.inr y=>.inr y)=_
  rw[zh6 s h]
 |inr y=>rfl
def zg3:Ct:=⟨[.d jourT,.d factT,.d i64],[.bool],λ_=>(true,()),λ_=>[]⟩
def never_ok:af prog 3 zg3:=
 conv zhh _ _ (λ_ _ x _ hr _=>by
  have hw:=qh hr;obtain⟨j,f,day,_⟩:=x;show(zfu (j,f,day,())).ok/\(zfu (j,f,day,())).get=(true,());cases hs:noN j f day
  ·obtain⟨hj,hd,hf⟩:=zhv (hw.2.1.2.2.2.2.2.1.2.2.1.1) (hw.2.1.2.2.2.2.2.2.1.2.2.2.2.1.1) hs;have ht:=(qhp hj).1;refine aR hs (aF hf ?_);cases he:(zeo j f).2 != 0
   ·have h0:(zeo j f).2=0:=by simpa using he
    have hp:=(zh1 h0).2.1;have hl:zep (zeo j f).1 day=zep j day:=by rw[hp]; exact zhq hd
    refine aR rfl (aF ht (aF (by show bJ (zeo j f).1.1; rw[hp]; exact ht) (aF (λ_=>by show _=(zep (zeo j f).1 day).1; rw[hl]) ⟨uT,?_⟩)));show(((zep j day).2.1==(zep (zeo j f).1 day).2.1,()):Bool×Unit)=(true,());rw[hl];simp
   ·exact aZ rfl ⟨uT,rfl⟩
  ·exact aZ hs ⟨uT,rfl⟩)
end Go.Proofs.YtmcjmjbeknbddaaGreat
