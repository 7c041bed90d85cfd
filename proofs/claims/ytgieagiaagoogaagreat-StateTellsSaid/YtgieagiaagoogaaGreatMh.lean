/-
  Parts of the proof, one behind the other: S71, S72, S73, S74, S75, L8, L9, L10, I34, I37, I38, I39, I40, I41, L11, N10, N11, S76, S77, S44, S78, S80, S79, S81, S82, S83, S88, S89, S90, S91, S92, S93, S84, S85, S86, S87.
-/
import Derived.Test.YtgieagiaagoogaaGreatMg
set_option linter.all false
namespace Go.Proofs.YtgieagiaagoogaaGreat
open Go Go.Ab Go.RowKit Go.Proofs Tryz
open Go.Ab.Fr renaming val->Jv,need->Jd,br->Jb
noncomputable def Ze:Cx:=cx [(82,qa),(89,oI)] []
def rP:CxOK prog Ze:=aJ aG ⟨P1,Pk,uT⟩ trivial
abbrev E0:Pt:=⟨62,0,⟨[(9,.d i64),(1,.d i64),(8,.d .bool)],[.x 3 29 ag,.r 3 3 0,.x 5 56 aT,.r 5 5 0,.x 6 29 ag,.r 6 6 0,.o 7 56 aT]⟩,⟨[(8,.d .bool)],[.x 3 29 ag,.r 3 3 0,.x 5 56 aT,.r 5 5 0,.x 6 29 ag,.r 6 6 0,.o 7 56 aT]⟩,⟨[],[]⟩⟩
def AU (k:Int×ag.den×aT.den×ag.den) (b:Prop) (i:Int) (e:aT.den) (s:Bool×(List aT.den)):Fr (Bool×(List aT.den)):=
 Jd ((!s.1)=true->b) (Jb (bif !s.1 then decide (e.1.1>k.2.2.1.1.1) else false) (Jd (s.2.length + [k.2.2.1].length<=maxLen/\(s.2.length + [k.2.2.1].length)*120<=140737488355328) (Jb (i==k.1) (Jd ((s.2++[k.2.2.1]).length + [k.2.2.1].length<=maxLen/\((s.2++[k.2.2.1]).length + [k.2.2.1].length)*120<=140737488355328) (Jv (true,s.2++[k.2.2.1]++[k.2.2.1]))) (Jd b (Jd ((s.2++[k.2.2.1]).length + [e].length<=maxLen/\((s.2++[k.2.2.1]).length + [e].length)*120<=140737488355328) (Jv (true,s.2++[k.2.2.1]++[e])))))) (Jb (i==k.1) (Jd (s.2.length + [k.2.2.1].length<=maxLen/\(s.2.length + [k.2.2.1].length)*120<=140737488355328) (Jv (s.1,s.2++[k.2.2.1]))) (Jd b (Jd (s.2.length + [e].length<=maxLen/\(s.2.length + [e].length)*120<=140737488355328) (Jv (s.1,s.2++[e]))))))
def ZO:E0.M.X->Fr E0.Out:=FG (λx=>(x.1.1,(x.1.2.1,x.2.1,x.2.2.1,x.2.2.2.1),(x.1.2.2.1,x.2.2.2.2.1))) (λk=>(List.length k.2.1.2.1:Int)) (λk=>k.2.1.2.1) AU (λk s=>((s.1,()),(k.2.1,k.2.2.1,k.2.2.2,s.2,())))
def qs4:ah prog (.loop (aC f127 0)) E0.M E0 ZO:=
 rI rP (λi k s=>((i,k.1,s.1,()),k.2.1,k.2.2.1,k.2.2.2,s.2,())) aT.dflt
def zP:=λk s=>cf (AU k True) 0 k.2.1.2.1 s
def qu2:=λk s=>fF (AU k True) 0 k.2.1.2.1 s
abbrev Ew:Pt:=⟨62,0,⟨[(9,.d i64),(1,.d i64),(8,.d .bool)],[.x 3 29 ag,.r 3 3 0,.x 5 76 aB,.r 5 5 0,.x 6 29 ag,.r 6 6 0,.o 7 76 aB]⟩,⟨[(8,.d .bool)],[.x 3 29 ag,.r 3 3 0,.x 5 76 aB,.r 5 5 0,.x 6 29 ag,.r 6 6 0,.o 7 76 aB]⟩,⟨[],[]⟩⟩
def AT (k:Int×ag.den×aB.den×ag.den) (b:Prop) (i:Int) (e:aB.den) (s:Bool×(List aB.den)):Fr (Bool×(List aB.den)):=
 Jd ((!s.1)=true->b) (Jb (bif !s.1 then decide (e.1.1>k.2.2.1.1.1) else false) (Jd (s.2.length + [k.2.2.1].length<=maxLen/\(s.2.length + [k.2.2.1].length)*72<=140737488355328) (Jb (i==k.1) (Jd ((s.2++[k.2.2.1]).length + [k.2.2.1].length<=maxLen/\((s.2++[k.2.2.1]).length + [k.2.2.1].length)*72<=140737488355328) (Jv (true,s.2++[k.2.2.1]++[k.2.2.1]))) (Jd b (Jd ((s.2++[k.2.2.1]).length + [e].length<=maxLen/\((s.2++[k.2.2.1]).length + [e].length)*72<=140737488355328) (Jv (true,s.2++[k.2.2.1]++[e])))))) (Jb (i==k.1) (Jd (s.2.length + [k.2.2.1].length<=maxLen/\(s.2.length + [k.2.2.1].length)*72<=140737488355328) (Jv (s.1,s.2++[k.2.2.1]))) (Jd b (Jd (s.2.length + [e].length<=maxLen/\(s.2.length + [e].length)*72<=140737488355328) (Jv (s.1,s.2++[e]))))))
def ZF:Ew.M.X->Fr Ew.Out:=FG (λx=>(x.1.1,(x.1.2.1,x.2.1,x.2.2.1,x.2.2.2.1),(x.1.2.2.1,x.2.2.2.2.1))) (λk=>(List.length k.2.1.2.2.1:Int)) (λk=>k.2.1.2.2.1) AT (λk s=>((s.1,()),(k.2.1,k.2.2.1,k.2.2.2,s.2,())))
def qsu:ah prog (.loop (aC f131 0)) Ew.M Ew ZF:=
 rI rP (λi k s=>((i,k.1,s.1,()),k.2.1,k.2.2.1,k.2.2.2,s.2,())) aB.dflt
def zM:=λk s=>cf (AT k True) 0 k.2.1.2.2.1 s
def quv:=λk s=>fF (AT k True) 0 k.2.1.2.2.1 s
abbrev E4:Pt:=⟨49,0,⟨[(7,.d i64),(6,.d .bool)],[.x 2 29 ag,.r 2 2 0,.x 3 44 av,.r 3 3 0,.x 4 29 ag,.r 4 4 0,.o 5 44 av]⟩,⟨[(6,.d .bool)],[.x 2 29 ag,.r 2 2 0,.x 3 44 av,.r 3 3 0,.x 4 29 ag,.r 4 4 0,.o 5 44 av]⟩,⟨[],[]⟩⟩
def AW (k:ag.den×av.den×ag.den) (b:Prop) (i:Int) (e:av.den) (s:Bool×(List av.den)):Fr (Bool×(List av.den)):=
 let a:=s.2++[k.2.1];Jd ((!s.1)=true->b) (Jb (bif !s.1 then decide (e.1>k.2.1.1) else false) (Jd (s.2.length + [k.2.1].length<=maxLen/\(s.2.length + [k.2.1].length)*72<=140737488355328) (Jd b (Jd (a.length + [e].length<=maxLen/\(a.length + [e].length)*72<=140737488355328) (Jv (true,s.2++[k.2.1]++[e]))))) (Jd b (Jd (s.2.length + [e].length<=maxLen/\(s.2.length + [e].length)*72<=140737488355328) (Jv (s.1,s.2++[e])))))
def ZS:E4.M.X->Fr E4.Out:=FG (λx=>(x.1.1,(x.2.1,x.2.2.1,x.2.2.2.1),(x.1.2.1,x.2.2.2.2.1))) (λk=>(List.length k.1.2.2.2.1:Int)) (λk=>k.1.2.2.2.1) AW (λk s=>((s.1,()),(k.1,k.2.1,k.2.2,s.2,())))
def qs8:ah prog (.loop (aC f134 0)) E4.M E4 ZS:=
 rI rP (λi k s=>((i,s.1,()),k.1,k.2.1,k.2.2,s.2,())) av.dflt
def zQ:=λk s=>cf (AW k True) 0 k.1.2.2.2.1 s
def qu6:=λk s=>fF (AW k True) 0 k.1.2.2.2.1 s
open Go.Ab.Fr renaming val->Jv,need->Jd,br->Jb
def qi8 (x:aq [.d ag,.d i64,.d aT]):Fr (ae [ag]):=
 Jd (InK (((List.length x.1.2.1):Int)) 0 (List.length x.1.2.1)) (Jd (qu2 (x.2.1,x.1,x.2.2.1,([],()),[],[],[],0,()) (decide (x.2.1>=0),[])) (Jb (!(zP (x.2.1,x.1,x.2.2.1,([],()),[],[],[],0,()) (decide (x.2.1>=0),[])).1) (Jd ((zP (x.2.1,x.1,x.2.2.1,([],()),[],[],[],0,()) (decide (x.2.1>=0),[])).2.length + [x.2.2.1].length<=maxLen/\((zP (x.2.1,x.1,x.2.2.1,([],()),[],[],[],0,()) (decide (x.2.1>=0),[])).2.length + [x.2.2.1].length)*120<=140737488355328) (Jv (((x.1.1.1,()),(zP (x.2.1,x.1,x.2.2.1,([],()),[],[],[],0,()) (decide (x.2.1>=0),[])).2++[x.2.2.1],x.1.2.2),()))) (Jv (((x.1.1.1,()),(zP (x.2.1,x.1,x.2.2.1,([],()),[],[],[],0,()) (decide (x.2.1>=0),[])).2,x.1.2.2),()))))
def qi9:aa prog 127 (aL [.d ag,.d i64,.d aT] [ag] qi8):=
 bz rP qs4
def qiq (x:aq [.d ag,.d i64,.d aB]):Fr (ae [ag]):=
 Jd (InK (((List.length x.1.2.2.1):Int)) 0 (List.length x.1.2.2.1)) (Jd (quv (x.2.1,x.1,x.2.2.1,([],()),[],[],[],0,()) (decide (x.2.1>=0),[])) (Jb (!(zM (x.2.1,x.1,x.2.2.1,([],()),[],[],[],0,()) (decide (x.2.1>=0),[])).1) (Jd ((zM (x.2.1,x.1,x.2.2.1,([],()),[],[],[],0,()) (decide (x.2.1>=0),[])).2.length + [x.2.2.1].length<=maxLen/\((zM (x.2.1,x.1,x.2.2.1,([],()),[],[],[],0,()) (decide (x.2.1>=0),[])).2.length + [x.2.2.1].length)*72<=140737488355328) (Jv ((x.1.1,x.1.2.1,(zM (x.2.1,x.1,x.2.2.1,([],()),[],[],[],0,()) (decide (x.2.1>=0),[])).2++[x.2.2.1],x.1.2.2.2),()))) (Jv ((x.1.1,x.1.2.1,(zM (x.2.1,x.1,x.2.2.1,([],()),[],[],[],0,()) (decide (x.2.1>=0),[])).2,x.1.2.2.2),()))))
def qir:aa prog 131 (aL [.d ag,.d i64,.d aB] [ag] qiq):=
 bz rP qsu
def qjq (x:aq [.d ag,.d av]):Fr (ae [ag]):=
 let b:=x.1.2.2;let c:=List.length b.2.1;let a:=zQ (x.1,x.2.1,([],()),[],[],[],0,()) (false,[]);Jd (InK ((c:Int)) 0 c) (Jd (qu6 (x.1,x.2.1,([],()),[],[],[],0,()) (false,[])) (Jb (!a.1) (Jd (a.2.length + [x.2.1].length<=maxLen/\(a.2.length + [x.2.1].length)*72<=140737488355328) (Jv (((x.1.1.1,()),x.1.2.1,b.1,a.2++[x.2.1],b.2.2.1,()),()))) (Jv (((x.1.1.1,()),x.1.2.1,b.1,a.2,b.2.2.1,()),()))))
def qjr:aa prog 134 (aL [.d ag,.d av] [ag] qjq):=
 bz rP qs8
def Ix (x:aq [.d jourT,.d factT]):Fr (ae [jourT,i64]):=
 let g:=oI.f (x.1,());let c:=x.1.2.1;let b:=(([],()),[],());let a:=((List.length c):Int);Jb (!(qa.f (x.2.1,())).1) (Jv (b,1,())) (Jb (decide (a>=2000)) (Jv (b,2,())) (Jd (decide (a>0)=true->0<=I6.wrap (a-1)/\I6.wrap (a-1)<a) (Jb (bif decide (a>0) then decide (x.2.1.1<(List.getD c (I6.wrap (a-1)).toNat factT.dflt).1) else false) (Jv (b,4,())) (Jb (bif decide (x.2.1.1<=g.1) then true else bif x.2.1.2.1==7 then decide (x.2.1.2.2.2.2.1<=g.1) else false) (Jv (b,12,())) (Jd ((List.nil (α:=factT.den)).length+List.length c<=maxLen/\((List.nil (α:=factT.den)).length+List.length c)*344<=140737488355328) (Jd (([]++c).length + [x.2.1].length<=maxLen/\(([]++c).length + [x.2.1].length)*344<=140737488355328) (Jv (((x.1.1.1,()),[]++c++[x.2.1],()),0,()))))))))
def qjc:aa prog 51 (aL [.d jourT,.d factT] [jourT,i64] Ix):=
 aH rP f51
open Go.Ab.Fr renaming val->Jv,need->Jd,br->Jb
def gd {T:Type} (g:T->Int) (x:T) (k i:Int) (e:T) (s:Bool×List T):Bool×List T:=
 bif (bif !s.1 then decide (g e>g x) else false) then (true,s.2++[x]++[bif i==k then x else e]) else (s.1,s.2++[bif i==k then x else e])
def SW {T:Type} {stp:Int->T->Bool×List T->Fr (Bool×List T)} {g:T->Int} {x:T} {k:Int} (ho:∀ i e s,s.2.length<=999990->(stp i e s).ok) (hg:∀ i e s,0<=i->(stp i e s).get=gd g x k i e s):(l:List T)->(i:Int)->(s:Bool×List T)->0<=i->s.2.length+2*l.length<=999990->fF stp i l s
 |[],_,_,_,_=>trivial
 |e::l,i,s,hi,h=>by
  rw[uc7] at h;refine⟨ho i e s (by omega),SW ho hg l (i+1) _ (by omega) ?_⟩;rw[hg i e s hi];unfold gd;cases (bif !s.1 then decide (g e>g x) else false)
  ·simp; omega
  ·simp; omega
def KK {T:Type} {stp:Int->T->Bool×List T->Fr (Bool×List T)} {g:T->Int} {x:T} {k:Int} (hg:∀ i e s,0<=i->(stp i e s).get=gd g x k i e s):(l:List T)->(i:Int)->(o:List T)->0<=i->k<i->cf stp i l (true,o)=(true,o++l)
 |[],_,o,_,_=>by unfold cf; rw[udp]
 |e::l,i,o,hi,h=>by
  unfold cf;rw[hg i e _ hi,show gd g x k i e (true,o)=(true,o++[e]) from ?_,KK hg l (i+1) _ (by omega) (by omega),ucp]
  ·rfl
  ·unfold gd;rw[show(i==k)=false from udt (by omega)];rfl
def TA {T:Type} {stp:Int->T->Bool×List T->Fr (Bool×List T)} {g:T->Int} {x:T} {k:Int} (hg:∀ i e s,0<=i->(stp i e s).get=gd g x k i e s):(l:List T)->(i:Int)->(o:List T)->0<=i->i<=k->cf stp i l (true,o)=(true,o++l.set (k-i).toNat x)
 |[],_,o,_,_=>by unfold cf; rw[List.set_nil,udp]
 |e::l,i,o,hi,h=>by
  unfold cf;rw[hg i e _ hi];by_cases h1:i=k
  ·rw[show gd g x k i e (true,o)=(true,o++[x]) from ?_,KK hg l (i+1) _ (by omega) (by omega),show(k-i).toNat=0 by omega,ucp]
   ·rfl
   ·unfold gd;rw[show(i==k)=true from ud8 h1];rfl
  ·rw[show gd g x k i e (true,o)=(true,o++[e]) from ?_,TA hg l (i+1) _ (by omega) (by omega),show(k-i).toNat=(k-(i+1)).toNat+1 by omega,ucp]
   ·rfl
   ·unfold gd;rw[show(i==k)=false from udt h1];rfl
def io {T:Type} (p:T->Bool) (x:T):List T->Bool×List T
 |[]=>(false,[])
 |e::r=>bif p e then (true,x::e::r) else ((io p x r).1,e::(io p x r).2)
def T8 {T:Type} {stp:Int->T->Bool×List T->Fr (Bool×List T)} {g:T->Int} {x:T} {k:Int} (hk:k<0) (hg:∀ i e s,0<=i->(stp i e s).get=gd g x k i e s):(l:List T)->(i:Int)->(o:List T)->0<=i->cf stp i l (false,o)=((io (λe=>decide (g e>g x)) x l).1,o++(io (λe=>decide (g e>g x)) x l).2)
 |[],_,o,_=>by unfold cf io; rw[udp]
 |e::l,i,o,hi=>by
  have hn:(i==k)=false:=udt (by omega);unfold cf io;rw[hg i e _ hi];unfold gd;rw[hn];cases decide (g e>g x)
  ·show cf stp (i+1) l (false,o++[e])=_;rw[T8 hk hg l (i+1) _ (by omega),ucp];rfl
  ·show cf stp (i+1) l (true,o++[x]++[e])=_;rw[KK hg l (i+1) _ (by omega) (by omega),ucp,ucp];rfl
def Sc {T:Type} (p:T->Bool) (x:T):(l:List T)->(i:Int)->match dI p l i with
  |none=>io p x l=(false,l)
  |some j=>i<=j/\io p x l=(true,l.take (j-i).toNat++[x]++l.drop (j-i).toNat)
 |[],_=>rfl
 |e::l,i=>by
  have ih:=Sc p x l (i+1);unfold dI io;cases h:p e
  ·rw[if_neg (by decide)];cases h2:dI p l (i+1) with
   |none=>
    rw[h2] at ih;rw[ih];rfl
   |some j=>
    rw[h2] at ih;obtain⟨a,b⟩:i+1<=j/\io p x l=_:=ih;rw[b];refine⟨by omega,?_⟩;rw[show(j-i).toNat=(j-(i+1)).toNat+1 by omega];rfl
  ·rw[if_pos rfl];refine⟨ufb _,?_⟩;rw[Int.sub_self];rfl
def qow {T:Type} (g:T->Int) (l:List T) (x:T):(bif !(io (λe=>decide (g e>g x)) x l).1 then (io (λe=>decide (g e>g x)) x l).2++[x] else (io (λe=>decide (g e>g x)) x l).2)=fo g l x:=by
 have h:=Sc (λe=>decide (g e>g x)) x l 0;unfold fo lW jw jx;cases h2:dI (λe=>decide (g e>g x)) l 0 with
 |none=>
  rw[h2] at h;rw[h,Option.getD_none,if_pos (by decide)];show l++[x]=_;rw[ucy,List.take_length,List.drop_length,udp]
 |some j=>
  rw[h2] at h;obtain⟨a,b⟩:0<=j/\io _ x l=_:=h;rw[b,uda,if_neg (by omega),ueq];rfl
def mv {T:Type} (g:T->Int) (l:List T) (k:Int) (x:T):List T:=if k<0 then fo g l x else l.set k.toNat x
def qxu {T:Type} {stp:Int->T->Bool×List T->Fr (Bool×List T)} {g:T->Int} {x:T} {k:Int} (hg:∀ i e s,0<=i->(stp i e s).get=gd g x k i e s) (l:List T):(bif !(cf stp 0 l (decide (k>=0),[])).1 then (cf stp 0 l (decide (k>=0),[])).2++[x] else (cf stp 0 l (decide (k>=0),[])).2)=mv g l k x:=by
 unfold mv;by_cases h:k<0
 ·rw[if_pos h,udt (by omega),T8 h hg l 0 [] (ufb _),<- qow g l x];rfl
 ·rw[if_neg h,ud8 (by omega),TA hg l 0 [] (ufb _) (by omega),ueq];rfl
def T9 {T:Type} {stp:Int->T->Bool×List T->Fr (Bool×List T)} {g:T->Int} {x:T} {k:Int} (hg:∀ i e s,0<=i->(stp i e s).get=gd g x k i e s):(l:List T)->(i:Int)->(s:Bool×List T)->0<=i->(cf stp i l s).2.length<=s.2.length+2*l.length
 |[],_,_,_=>ufa _
 |e::l,i,s,hi=>by
  unfold cf;have ih:=T9 hg l (i+1) (stp i e s).get (by omega);rw[hg i e s hi] at ih |-;refine uen ih ?_;rw[uc7];unfold gd;cases (bif !s.1 then decide (g e>g x) else false)
  ·simp; omega
  ·simp; omega
def KJ {T:Type} {R:Type} {stp:Int->T->Bool×List T->Fr (Bool×List T)} {g:T->Int} {x:T} {k:Int} {l:List T} {n:Nat} {w:List T->R} (hn:n<=200) (hl:l.length<=400000) (ho:∀ i e s,s.2.length<=999990->(stp i e s).ok) (hg:∀ i e s,0<=i->(stp i e s).get=gd g x k i e s) {d:Bool} (hd:d=decide (k>=0)) :
  (Jd (InK ((l.length:Nat):Int) 0 l.length) (Jd (fF stp 0 l (d,[])) (Jb (!(cf stp 0 l (d,[])).1) (Jd ((cf stp 0 l (d,[])).2.length + [x].length<=maxLen/\((cf stp 0 l (d,[])).2.length + [x].length)*n<=140737488355328) (Jv (w ((cf stp 0 l (d,[])).2++[x])))) (Jv (w (cf stp 0 l (d,[])).2))))).ok /\
  (Jd (InK ((l.length:Nat):Int) 0 l.length) (Jd (fF stp 0 l (d,[])) (Jb (!(cf stp 0 l (d,[])).1) (Jd ((cf stp 0 l (d,[])).2.length + [x].length<=maxLen/\((cf stp 0 l (d,[])).2.length + [x].length)*n<=140737488355328) (Jv (w ((cf stp 0 l (d,[])).2++[x])))) (Jv (w (cf stp 0 l (d,[])).2))))).get=w (mv g l k x):=by
 subst hd;refine iO (kS (by omega)) (SW ho hg l 0 _ (ufb _) (by simp; omega)) ?_;have hlen:=T9 hg l 0 (decide (k>=0),[]) (ufb _);rw[<- qxu hg l];generalize cf stp 0 l (decide (k>=0),[])=q at hlen |-;obtain⟨b,o⟩:=q;have hlen:o.length<=0+2*l.length:=hlen;cases b
 ·refine ay rfl (au ⟨?_,?_⟩ ⟨uT,rfl⟩)
  ·show o.length+1<=maxLen;unfold maxLen; omega
  ·show(o.length+1)*n<=140737488355328;have:(o.length+1)*n<=800001*200:=uec (by omega) hn;omega
 ·exact ax rfl ⟨uT,rfl⟩
def qF {T:Type} {o:List T} {x:T} {n:Nat} (hn:n<=200) (h:o.length<=999990):o.length + [x].length<=maxLen/\(o.length + [x].length)*n<=140737488355328:=by
 have:(o.length+1)*n<=999991*200:=uec (by omega) hn;exact⟨by show o.length+1<=maxLen; unfold maxLen; omega,by show(o.length+1)*n<=_; omega⟩
def zZ {T:Type} {o:List T} {x y:T} {n:Nat} (hn:n<=200) (h:o.length<=999990):(o++[x]).length + [y].length<=maxLen/\((o++[x]).length + [y].length)*n<=140737488355328:=by
 have:(o.length+2)*n<=999992*200:=uec (by omega) hn;rw[ub4];exact⟨by show o.length+1+1<=maxLen; unfold maxLen; omega,uen this (by decide)⟩
def sn:Ct:=⟨[.d ag,.d i64,.d aT],[ag],λx=>(jG x.1 (mv fZ (bP x.1) x.2.1 x.2.2.1),()),λx=>[(bP x.1).length<=400000]⟩
def Pp:aa prog 127 sn:=conv qi9 _ _ (λw F x vs hr hl=>by
 obtain⟨s,k,a,_⟩:=x
 refine KJ (stp:=AU (k,s,a,([],()),[],[],[],0,()) True) (g:=fZ) (k:=k) (x:=a) (n:=120) (w:=λl=>(jG s l,())) (by decide) hl (λi e s h=>?_) (λi e s _=>?_) rfl
 ·exact⟨λ_=>uT,λ_=>⟨qF (by decide) h,λ_=>⟨zZ (by decide) h,uT⟩,λ_=>⟨uT,zZ (by decide) h,uT⟩⟩,λ_=>⟨λ_=>⟨qF (by decide) h,uT⟩,λ_=>⟨uT,qF (by decide) h,uT⟩⟩⟩
 ·obtain⟨d,o⟩:=s
  unfold AU gd fZ
  cases d<;>cases decide (e.1.1>a.1.1)<;>cases i==k<;>rfl)
def Ch:Ct:=⟨[.d ag,.d i64,.d aB],[ag],λx=>(um x.1 (mv gO (bU x.1) x.2.1 x.2.2.1),()),λx=>[(bU x.1).length<=400000]⟩
def qel:aa prog 131 Ch:=conv qir _ _ (λw F x vs hr hl=>by
 obtain⟨s,k,a,_⟩:=x
 refine KJ (stp:=AT (k,s,a,([],()),[],[],[],0,()) True) (g:=gO) (k:=k) (x:=a) (n:=72) (w:=λl=>(um s l,())) (by decide) hl (λi e s h=>?_) (λi e s _=>?_) rfl
 ·exact⟨λ_=>uT,λ_=>⟨qF (by decide) h,λ_=>⟨zZ (by decide) h,uT⟩,λ_=>⟨uT,zZ (by decide) h,uT⟩⟩,λ_=>⟨λ_=>⟨qF (by decide) h,uT⟩,λ_=>⟨uT,qF (by decide) h,uT⟩⟩⟩
 ·obtain⟨d,o⟩:=s
  unfold AT gd gO
  cases d<;>cases decide (e.1.1>a.1.1)<;>cases i==k<;>rfl)
def Hp:Ct:=⟨[.d ag,.d av],[ag],λx=>(Ft x.1 (fo (λt=>t.1) (bw x.1) x.2.1),()),λx=>[(bw x.1).length<=400000]⟩
def qfr:aa prog 134 Hp:=conv qjr _ _ (λw F x vs hr hl=>by
 obtain⟨s,a,_⟩:=x;refine KJ (stp:=AW (s,a,([],()),[],[],[],0,()) True) (g:=λt=>t.1) (k:=-1) (x:=a) (n:=72) (w:=λl=>(Ft s l,())) (by decide) hl (λi e s h=>?_) (λi e s hi=>?_) rfl
 ·exact⟨λ_=>uT,λ_=>⟨qF (by decide) h,uT,zZ (by decide) h,uT⟩,λ_=>⟨uT,qF (by decide) h,uT⟩⟩
 ·obtain⟨d,o⟩:=s;unfold AW gd;rw[show(i==(-1:Int))=false from udt (by omega)];cases d<;>cases decide (e.1>a.1)<;>rfl)
def Oq:Ct:=⟨[.d jourT,.d factT],[jourT,i64],λx=>((gv x.1 x.2.1).1,(gv x.1 x.2.1).2,()),λ_=>[]⟩
def ql7 (t:aP.den) (l:List factT.den) (f:factT.den):(Ix ((t,l,()),f,())).ok/\(Ix ((t,l,()),f,())).get=((gv (t,l,()) f).1,(gv (t,l,()) f).2,()):=by
 unfold gv;cases h1 : !(cC f)
 ·refine ax h1 ?_;cases h2:decide (((List.length l:Nat):Int)>=2000)
  ·refine ax rfl ?_;have hl:l.length<2000:=by have:=ucf h2; omega
   refine au (Sx hl) ?_;cases h3:zY l f
   ·refine ax ((DJ l f hl).trans h3) ?_;cases h4:L6 l f
    ·refine ax h4 (au ⟨?_,?_⟩ (au ⟨?_,?_⟩ ⟨uT,?_⟩))
     ·show 0+l.length<=maxLen;unfold maxLen; omega
     ·show(0+l.length)*344<=140737488355328;omega
     ·show l.length+1<=maxLen;unfold maxLen; omega
     ·show(l.length+1)*344<=140737488355328;omega
     ·rfl
    ·exact ay h4 ⟨uT,rfl⟩
   ·exact ay ((DJ l f hl).trans h3) ⟨uT,rfl⟩
  ·exact ay rfl ⟨uT,rfl⟩
 ·exact ay h1 ⟨uT,rfl⟩
def qew:aa prog 51 Oq:=conv qjc _ _ (λ_ _ x _ _ _=>ql7 x.1.1 x.1.2.1 x.2.1)
end Go.Proofs.YtgieagiaagoogaaGreat
namespace Go.Ab
open Go Go.RowKit
open Go.Ab.Fr renaming val->Jv,need->Jd,br->Jb
section
variable {P:Program} {c:Code} {L Eo R:LS} {n id:Nat} {κ T σ ρ:Type}
def B7 (un:L.X->Int×κ×σ) (nf:κ->Int) (lf:κ->List T) (cc:κ->Bool) (step:κ->Prop->Int->T->σ->Fr σ) (bO:κ->σ->Eo.X) (x:L.X):Fr (Rd L.X Eo.X R.X):=
 Jd (InK (nf (un x).2.1) (un x).1 (lf (un x).2.1).length) (Jd (fF (step (un x).2.1 True) (un x).1 (bif cc (un x).2.1 then (lf (un x).2.1).drop (un x).1.toNat else []) (un x).2.2)
  (Jv (Rd.out (bO (un x).2.1 (cf (step (un x).2.1 True) (un x).1 (bif cc (un x).2.1 then (lf (un x).2.1).drop (un x).1.toNat else []) (un x).2.2)))))
def zfs {C:Cx} (hC:CxOK P C) {Λ:Nat->St->Option Tr} (mk:Int->κ->σ->L.X) {un:L.X->Int×κ×σ} {nf:κ->Int} {lf:κ->List T} {cc:κ->Bool} (dT:T) {step:κ->Prop->Int->T->σ->Fr σ} {bO:κ->σ->Eo.X}
  (hΛ:∀ E,cH P E Λ c 0:=by exact λ_=>bL _ 0)
  (hr:∀ i k s,nZ P C 0 Λ c L ⟨n,id,L,Eo,R⟩ (mk i k s)=some (Jb (bif decide (i<nf k) then cc k else false) ((step k (0<=i/\i<((lf k).length:Int)) i ((lf k).getD i.toNat dT) s).mapR (λs=>Rd.next (mk (I6.wrap (i+1)) k s))) (Jv (Rd.out (bO k s)))):=by intro i k s; kernel_rfl)
  (hun:∀ x,mk (un x).1 (un x).2.1 (un x).2.2=x:=by intro _; rfl) (hmk:∀ i k s,un (mk i k s)=(i,k,s):=by intro _ _ _; rfl)
  (hM:L.low=true:=by rfl) (hE:Eo.low=true:=by rfl) (hR:R.low=true:=by rfl) :
  ah P (.loop c) L ⟨n,id,L,Eo,R⟩ (B7 un nf lf cc step bO):=by
 have hs:ah P c L ⟨n,id,L,Eo,R⟩ (λx=>Jb (bif decide ((un x).1<nf (un x).2.1) then cc (un x).2.1 else false) ((step (un x).2.1 (0<=(un x).1/\(un x).1<((lf (un x).2.1).length:Int)) (un x).1 ((lf (un x).2.1).getD (un x).1.toNat dT) (un x).2.2).mapR (λs=>Rd.next (mk (I6.wrap ((un x).1+1)) (un x).2.1 s))) (Jv (Rd.out (bO (un x).2.1 (un x).2.2)))):=
  ah.of_run hC (bs:=0) (Λ:=Λ) hM hE hR hΛ λx=>by
   have h:=hr (un x).1 (un x).2.1 (un x).2.2
   rwa [hun] at h
 refine ah.loop (n:=n) (id:=id) hs (inv:=λx=>InK (nf (un x).2.1) (un x).1 (lf (un x).2.1).length) (μ:=λx=>(((lf (un x).2.1).length:Int)-(un x).1).toNat) ?_ (λx Q hq=>hq.1);intro x hx Q hq;obtain⟨_,hok,hq1⟩:=hq;generalize hu:un x=u at *;obtain⟨i,k,s⟩:=u;dsimp only at hx hok hq1 |-;have hn:=hx.n;have hlo:=hx.lo;have hbig:=hx.big;refine⟨λhc=>?_,λhc=>?_⟩
 ·have hc:decide (i<nf k)=true/\cc k=true:=by
   cases h1:decide (i<nf k)
   ·rw[h1] at hc; cases hc
   ·rw[h1] at hc; exact⟨rfl,hc⟩
  obtain⟨hc,hcc⟩:=hc;have hi:i<((lf k).length:Int):=by rw[<- hn]; exact ucv hc
  have hl:i.toNat<(lf k).length:=by omega
  have hb:(0<=i/\i<((lf k).length:Int))=True:=eq_true ⟨hlo,hi⟩;have e1:(lf k).drop i.toNat=(lf k)[i.toNat]::(lf k).drop (i.toNat+1):=ual hl;have hd:(lf k).getD i.toNat dT=(lf k)[i.toNat]:=by rw[uah,uap hl]; rfl
  have hw:I6.wrap (i+1)=i+1:=IntWalk.i64_in _ (by omega);rw[hcc,ufr,e1] at hok hq1;rw[hb,hd];generalize (lf k)[i.toNat]=e at hok hq1 |-;refine rK (mH hok.1 ?_);show InK _ _ _/\_<_/\(B7 un nf lf cc step bO (mk (I6.wrap (i+1)) k (step k True i e s).get)).satP Q;rw[hw];unfold B7;rw[hmk];have hin:InK (nf k) (i+1) (lf k).length:=⟨hn,by omega,by omega,hbig⟩;have hnt:(i+1).toNat=i.toNat+1:=by omega
  refine⟨hin,by dsimp only; omega,hin,?_⟩;dsimp only;rw[hnt,hcc];exact⟨hok.2,hq1⟩
 ·have hl:(bif cc k then (lf k).drop i.toNat else [])=[]:=by
   cases hcc:cc k
   ·rfl
   ·have hc:decide (i<nf k)=false:=by
     cases h1:decide (i<nf k)
     ·rfl
     ·rw[h1,hcc] at hc; cases hc
    have hi:¬ i<((lf k).length:Int):=by rw[<- hn]; exact ucf hc
    exact ua0 (by omega)
  rw[hl] at hq1;exact hq1
end
end Go.Ab
namespace Go.Proofs.YtgieagiaagoogaaGreat
open Go Go.Ab Go.RowKit Go.Proofs Tryz
open Go.Ab.Fr renaming val->Jv,need->Jd,br->Jb
abbrev Ey:Pt:=⟨19,0,⟨[(6,.d i64),(1,.d i64),(5,.d i64)],[]⟩,⟨[(5,.d i64)],[]⟩,⟨[],[]⟩⟩
def xz (_:Int) (_:Prop) (_:Int) (_:Unit) (s:Int):Fr Int:=Jd ((2:Int)≠0) (Jv (I6.wrap (Int.tdiv s 2)))
def ZJ:Ey.M.X->Fr Ey.Out:=FG (λx=>(x.1.1,x.1.2.1,x.1.2.2.1)) (λk=>k) (λk=>List.replicate k.toNat ()) xz (λ_ s=>((s,()),()))
def qsy:ah prog (.loop (aC f175 0)) Ey.M Ey ZJ:=
 rI eI (λi k s=>((i,k,s,()),())) ()
def qiz (x:aq [.d av,.d i64]):Fr (ae [.bool]):=
 let b:=xz x.2.1 True;let a:=List.replicate x.2.1.toNat ();Jd (InK x.2.1 0 a.length) (Jd (fF b 0 a (per x.1)) (Jd ((2:Int)≠0) (Jv (Int.tmod (cf b 0 a (per x.1)) 2==1,()))))
def qi0:aa prog 175 (aL [.d av,.d i64] [.bool] qiz):=
 bz eI qsy
def D5:Nat->Int->Int
 |0,n=>n
 |p+1,n=>D5 p (I6.wrap (Int.tdiv n 2))
def kR (t:av.den) (p:Int):Bool:=Int.tmod (D5 p.toNat (per t)) 2==1
def qoe {p:Int} (hp:0<=p/\p<=7):InK p 0 (List.replicate p.toNat ()).length:=by
 rw[List.length_replicate];exact⟨by omega,ufb _,ub2 _,by omega⟩
def JJ (k:Int):(n:Nat)->(i s:Int)->fF (xz k True) i (List.replicate n ()) s/\cf (xz k True) i (List.replicate n ()) s=D5 n s
 |0,_,_=>⟨uT,rfl⟩
 |n+1,i,s=>⟨⟨⟨by decide,uT⟩,(JJ k n (i+1) _).1⟩,(JJ k n (i+1) _).2⟩
def si:Ct:=⟨[.d av,.d i64],[.bool],λx=>(kR x.1 x.2.1,()),λx=>[0<=x.2.1/\x.2.1<=7]⟩
def qeq:aa prog 175 si:=conv qi0 _ _ (λw F x vs hr hp=>by
 obtain⟨t,p,_⟩:=x;have hp:0<=p/\p<=7:=hp;have h:=JJ p p.toNat 0 (per t);refine iO (qoe hp) h.1 (au (by decide) ⟨uT,?_⟩)
 ·show(Int.tmod (cf (xz p True) 0 (List.replicate p.toNat ()) (per t)) 2==1,())=(kR t p,());rw[h.2]; rfl)
def JL {t:av.den} {p:Int} (ha:0<=per t/\per t<=255) (hp:0<=p/\p<=7):kR t p=(per t).toNat.testBit p.toNat:=by
 have key:∀ n:Fin 256,∀ k:Fin 8,(Int.tmod (D5 k.1 ((n.1:Nat):Int)) 2==1)=n.1.testBit k.1:=by decide +kernel
 have h:=key ⟨(per t).toNat,by omega⟩ ⟨p.toNat,by omega⟩;have e1:(((per t).toNat:Nat):Int)=per t:=by omega
 simp only[e1] at h;exact h
noncomputable def MN:Cx:=cx [(175,si)] []
def B5:CxOK prog MN:=aJ aG ⟨qeq,uT⟩ trivial
abbrev wL:Pt:=⟨94,2,⟨[(10,.d i64),(0,.d (.sl av)),(2,.d i64),(7,.d i64),(8,.d .bool),(9,.d i64)],[.x 4 44 av,.r 4 4 0]⟩,⟨[(0,.d (.sl av)),(2,.d i64),(7,.d i64),(8,.d .bool),(9,.d i64)],[.x 4 44 av,.r 4 4 0]⟩,⟨[],[]⟩⟩
abbrev kOv:Type:=List av.den×Int×Int×Bool×av.den
abbrev rW (e:av.den) (d p:Int):Bool:=bif bif bif e.2.1==1 then (si.f (e,p,())).1 else false then decide (e.2.2.1.1<=d) else false then decide (d<e.2.2.1.2.1) else false
def Vi (k:kOv) (b:Prop) (_:Int) (e:av.den) (s:Int):Fr Int:=
 let a:=si.f (e,k.2.2.1,());Jd b (Jd (0<=k.2.2.1/\k.2.2.1<=7) (Jd b (Jd ((bif e.2.1==1 then a.1 else false)=true->b) (Jd ((bif bif e.2.1==1 then a.1 else false then decide (e.2.2.1.1<=k.2.1) else false)=true->b)
  (Jb (rW e k.2.1 k.2.2.1) (Jd b (Jv (I6.wrap (s+e.2.2.2.1)))) (Jv s))))))
def N2:wL.M.X->Fr wL.Out:=B7 (λx=>(x.1.1,(x.1.2.1,x.1.2.2.1,x.1.2.2.2.1,x.1.2.2.2.2.1,x.2.1),x.1.2.2.2.2.2.1)) (λk=>(List.length k.1:Int)) (λk=>k.1) (λk=>k.2.2.2.1) Vi (λk s=>((k.1,k.2.1,k.2.2.1,k.2.2.2.1,s,()),k.2.2.2.2,()))
noncomputable def RW:Code:=(dZ (aC f133 0) 0).getD .skip
def qs2:ah prog (.loop RW) wL.M wL N2:=
 zfs B5 (λi k s=>((i,k.1,k.2.1,k.2.2.1,k.2.2.2.1,s,()),k.2.2.2.2,())) av.dflt
def zf2 (Γ:Gm):St->Option Tr:=wL.han Γ wL.M N2
end Go.Proofs.YtgieagiaagoogaaGreat
namespace Go.Proofs.YtgieagiaagoogaaGreat
open Go Go.Ab Go.RowKit Go.Proofs Tryz
open Go.Ab.Fr renaming val->Jv,need->Jd,br->Jb
abbrev Ay:Pt:=⟨94,0,⟨[(7,.d i64),(0,.d (.sl av)),(2,.d i64)],[.x 4 44 av,.r 4 4 0]⟩,⟨[],[]⟩,⟨[(6,.d .bool)],[]⟩⟩
abbrev kU:Type:=List av.den×Int×av.den
abbrev DT (k:kU) (p:Int):Bool:=(si.f (k.2.2,p,())).1
abbrev xw (k:kU) (p:Int):=Vi (k.1,k.2.1,p,DT k p,k.2.2) True
abbrev wx (k:kU) (p:Int):List av.den:=bif DT k p then List.drop (Int.toNat 0) k.1 else []
def lj (k:kU) (_:Prop) (i:Int) (_:Unit) (_:Unit):Fr (Unit ⊕ Ay.R.X):=
 Jd (0<=i/\i<=7) (Jd (InK (List.length k.1:Int) 0 (List.length k.1)) (Jd (fF (xw k i) 0 (wx k i) k.2.2.2.2.2.1)
  (Jb (bif DT k i then decide (cf (xw k i) 0 (wx k i) k.2.2.2.2.2.1>10000) else false) (Jv (.inr ((true,()),()))) (Jv (.inl ())))))
def ZN:Ay.M.X->Fr Ay.Out:=FK (λx=>(x.1.1,(x.1.2.1,x.1.2.2.1,x.2.1),())) (λ_=>8) (λ_=>List.replicate 8 ()) lj (λ_ _=>((),())) (λ_ y=>Rd.back y) () (aW _,aZ _)
def qs3:ah prog (.loop (aC f133 0)) Ay.M Ay ZN:=
 rJ B5 (Λ:=λ_=>zf2 MN.Γ) (λi k _=>((i,k.1,k.2.1,()),k.2.2,())) () (λE=>oW _ 0 λi b hb=>by
  match i,hb with
  |0,hb=>
   have e:some RW=some b:=by rw[<- hb]; kernel_rfl
   cases e;exact ah.han B5 rfl qs2
  |i+1,hb=>exact absurd (oC hb) (by
   have:cG (aC f133 0)=1:=by kernel_rfl
   omega)) (λi k s=>by kernel_rfl)
def Rq:=λ(k:kU) (s:Unit)=>dJ (lj k True) 0 (List.replicate 8 ()) s
def qu1:=λ(k:kU) (s:Unit)=>gS (lj k True) 0 (List.replicate 8 ()) s
open Go.Ab.Fr renaming val->Jv,need->Jd,br->Jb
abbrev lL:List YF:=[(none,i64),(none,i64),(none,i64),(none,i64),(none,i64),(none,i64),(none,i64),(none,i64),(none,.sl ak),(some 38,ar)]
def VI (h:ap.den):dG lL:=(h.1,h.2.1,h.2.2.1.1.1,h.2.2.1.1.2.1,h.2.2.1.2.1.1,h.2.2.1.2.1.2.1,h.2.2.1.2.1.2.2.1,h.2.2.1.2.1.2.2.2.1,h.2.2.1.2.2.1,h.2.2.2.1,())
def quq (y:dG lL):ap.den:=(y.1,y.2.1,((y.2.2.1,y.2.2.2.1,()),(y.2.2.2.2.1,y.2.2.2.2.2.1,y.2.2.2.2.2.2.1,y.2.2.2.2.2.2.2.1,()),y.2.2.2.2.2.2.2.2.1,()),y.2.2.2.2.2.2.2.2.2.1,())
def vB (y:dG lL):List ar.den:=y.2.2.2.2.2.2.2.2.2.1
def qT (y:dG lL) (l:List ar.den):dG lL:=(y.1,y.2.1,y.2.2.1,y.2.2.2.1,y.2.2.2.2.1,y.2.2.2.2.2.1,y.2.2.2.2.2.2.1,y.2.2.2.2.2.2.2.1,y.2.2.2.2.2.2.2.2.1,l,())
noncomputable def XG:Cx:=cx [(217,Hd)] []
def M1:CxOK prog XG:=aJ aG ⟨Tc,uT⟩ trivial
abbrev pg:Pt:=⟨35,0,⟨[(5,.d i64),(3,.d bE),(4,.d i64)],[.x 1 54 ap,.r 1 1 0]⟩,⟨[(4,.d i64)],[]⟩,⟨[],[]⟩⟩
def IW (x:pg.M.X):Fr pg.Out:=
 let k:Int:=x.1.1; let l:List Int:=x.1.2.1; let last:Int:=x.1.2.2.1; let h:ap.den:=x.2.1
 let v:Int:=l.getD k.toNat 0
 Jb (decide (k<(l.length:Int)))
  (Jd (0<=k/\k<(l.length:Int)) (Jd (0<=v/\v<((aw h).length:Int))
   (Jb (bif ((aw h).getD v.toNat ar.dflt).2.2.1==3 then true else ((aw h).getD v.toNat ar.dflt).2.2.1==4)
    (Jd (0<=k/\k<(l.length:Int)) (Jv (Rd.next ((I6.wrap (k+1),l,v,()),(h,())))))
    (Jv (Rd.next ((I6.wrap (k+1),l,last,()),(h,())))))))
  (Jv (Rd.out ((last,()),())))
def za4:ah prog (aC f211 0) pg.M pg IW:=
 eH M1
structure InvRtn (k:Int) (l:List Int) (last:Int) (h:ap.den):Prop where
 k0:0<=k
 kl:k<=l.length
 big:l.length<=1000000
 mem:∀ v∈l,0<=v/\v<((aw h).length:Int)
 la:last=(gw h l k.toNat).getD (-1)
def Nt (x:pg.M.X):Fr pg.Out:=Jd (InvRtn x.1.1 x.1.2.1 x.1.2.2.1 x.2.1) (Jv (Rd.out (((gw x.2.1 x.1.2.1 (List.length (α:=Int) x.1.2.1)).getD (-1),()),())))
def qqw (k:Int) (l:List Int) (last:Int) (h:ap.den) (hinv:InvRtn k l last h) (Q:pg.Out->Prop) (hq:Q (Rd.out (((gw h l l.length).getD (-1),()),()))):(IW ((k,l,last,()),(h,()))).satP λ
   |.next x'=>InvRtn x'.1.1 x'.1.2.1 x'.1.2.2.1 x'.2.1/\(((List.length (α:=Int) x'.1.2.1:Nat):Int)-x'.1.1).toNat<((l.length:Int)-k).toNat/\(Nt x').satP Q
   |.out y=>Q (.out y)
   |.back z=>Q (.back z)
   |.pan p=>Q (.pan p):=by
 obtain⟨h0,h1,h2,h3,h4⟩:=hinv;obtain⟨m,rfl⟩:∃ n:Nat,k=n:=⟨k.toNat,by omega⟩;subst h4;dsimp only[IW,Fr.satP];refine⟨λhi=>?_,λhi=>?_⟩
 ·have hm:m<l.length:=by have:(m:Int)<(l.length:Int):=ucv hi; omega
  have w1:I6.wrap ((m:Int)+1)=((m+1:Nat):Int):=by rw[cD (by omega)]; omega
  have hv:l.getD m 0=l[m]:=by rw[uah,uap hm]; rfl
  have hmem:=h3 (l.getD m 0) (by rw[hv]; exact udg hm);have hb:0<=(m:Int)/\(m:Int)<(l.length:Int):=⟨by omega,by omega⟩;have hμ:((l.length:Int)-((m+1:Nat):Int)).toNat<((l.length:Int)-(m:Int)).toNat:=by omega
  have hk:(bif (aQ h (l.getD m 0)).2.2.1==3 then true else (aQ h (l.getD m 0)).2.2.1==4)=lP (aQ h (l.getD m 0)):=by
   unfold lP;cases (aQ h (l.getD m 0)).2.2.1==3<;>rfl
  rw[w1];refine⟨hb,hmem,λht=>⟨hb,?_⟩,λht=>?_⟩
  ·have ht':=hk.symm.trans ht;have e:gw h l (m+1)=some (l.getD m 0):=if_pos ht';have hI:InvRtn ((m+1:Nat):Int) l (l.getD m 0) h:=⟨by omega,by omega,h2,h3,by rw[ucy,e]; rfl⟩;exact⟨hI,hμ,hI,hq⟩
  ·have ht':=hk.symm.trans ht;have e:gw h l (m+1)=gw h l m:=if_neg (by rw[ht']; decide);have hI:InvRtn ((m+1:Nat):Int) l ((gw h l m).getD (-1)) h:=⟨by omega,by omega,h2,h3,by rw[ucy,e]⟩;exact⟨hI,hμ,hI,hq⟩
 ·have hm:=ucf hi;obtain rfl:m=l.length:=by omega
  exact hq
def qsa:ah prog (.loop (aC f211 0)) pg.M pg Nt:=by
 refine ah.loop za4 (μ:=λx=>(((List.length x.1.2.1:Nat):Int)-x.1.1).toNat) ?_ (λx Q h=>h.1);rintro⟨⟨k,l,last,_⟩,h,_⟩ hinv Q hq;exact qqw k l last h hinv Q hq.2
def yE:Ct:=⟨[.d ap],[i64],λx=>((iX x.1).getD (-1),()),λx=>[((aw x.1).length:Int)<=1000000]⟩
def zec:aa prog 211 yE:=
 cg (bz M1 qsa (ps:=[.d ap]) (fr:=λx=>Jd (((aw x.1).length:Int)<=1000000) (Jd (InvRtn 0 (bQ x.1) (-1) x.1) (Jv ((iX x.1).getD (-1),()))))) _ _ (λ_ _ x _ _ hok=>by
   obtain⟨h,_⟩:=x;have hl:((aw h).length:Int)<=1000000:=hok;have hlen:=Al h;exact au hl (au ⟨ufb _,ub2 _,(show(bQ h).length<=1000000 by omega),λv hv=>tc hv,rfl⟩ ⟨uT,rfl⟩))
def gz (l:List ar.den) (a:Int):Nat->List ar.den
 |0=>[]
 |k+1=>if (k:Int)=a then gz l a k else gz l a k++[l.getD k ar.dflt]
def Wq (l:List ar.den) (a:Int):(k:Nat)->(gz l a k).length<=k
 |0=>ufa _
 |k+1=>by
  have:=Wq l a k;unfold gz;split
  ·omega
  ·rw[ub4];simp;omega
def Wr (l:List ar.den) (a:Nat):(k:Nat)->k<=l.length->gz l a k=(l.take k).take a++(l.take k).drop (a+1)
 |0,_=>by simp[gz]
 |k+1,hk=>by
  have ih:=Wr l a k (by omega);have hkl:k<l.length:=by omega
  have ht:l.take (k+1)=l.take k++[l[k]]:=by rw[List.take_add_one,uap hkl]; rfl
  have hg:l.getD k ar.dflt=l[k]:=by rw[uah,uap hkl]; rfl
  have hlen:(l.take k).length=k:=by rw[uc3]; omega
  unfold gz;rw[ih,ht,hg];by_cases h:(k:Int)=a
  ·have h':k=a:=by omega
   subst h';rw[if_pos rfl,List.take_append_of_le_length (by omega),List.drop_of_length_le (by omega),List.drop_of_length_le (by rw[ub4,hlen]; simp)]
  ·rw[if_neg h];by_cases h2:k<a
   ·rw[ua1 (show(l.take k).length<=a by omega),List.drop_of_length_le (show(l.take k).length<=a+1 by omega),
     ua1 (show(l.take k++[l[k]]).length<=a by rw[ub4,hlen]; simp; omega),List.drop_of_length_le (show(l.take k++[l[k]]).length<=a+1 by rw[ub4,hlen]; simp; omega)]
    simp
   ·rw[List.take_append_of_le_length (by omega),List.drop_append_of_le_length (by omega),ucp]
def zfe (l:List ar.den) (a:Nat):gz l a l.length=l.take a++l.drop (a+1):=by
 rw[Wr l a l.length (ufa _),List.take_length]
abbrev qt8:List MI:=[.x 2 54 ap,.r 2 2 0,.x 4 54 ap,.r 4 4 0,.y 5 54 lL,.r 5 5 0]
abbrev ph:Pt:=⟨35,0,⟨[(1,.d i64),(6,.d i64)],qt8⟩,⟨[],[.x 4 54 ap,.r 4 4 0,.y 5 54 lL,.r 5 5 0]⟩,⟨[],[]⟩⟩
def Jc (x:ph.M.X):Fr ph.Out:=
 let a:Int:=x.1.1; let k:Int:=x.1.2.1; let h:ap.den:=x.2.1; let z:ap.den:=x.2.2.1; let y:dG lL:=x.2.2.2.1
 Jb (decide (k<((aw h).length:Int)))
  (Jb (k != a)
   (Jd (0<=k/\k<((aw h).length:Int)) (Jd (pw (vB y).length [(aw h).getD k.toNat ar.dflt].length)
    (Jv (Rd.next ((a,I6.wrap (k+1),()),(h,z,qT y (vB y++[(aw h).getD k.toNat ar.dflt]),()))))))
   (Jv (Rd.next ((a,I6.wrap (k+1),()),(h,z,y,())))))
  (Jv (Rd.out ((),(z,y,()))))
def za9:ah prog (aC f212 0) ph.M ph Jc:=
 eH eI
structure InvWo (a k:Int) (h:ap.den) (y:dG lL):Prop where
 k0:0<=k
 kl:k<=(aw h).length
 big:(aw h).length<=500000
 yk:vB y=gz (aw h) a k.toNat
def Nz (x:ph.M.X):Fr ph.Out:=Jd (InvWo x.1.1 x.1.2.1 x.2.1 x.2.2.2.1) (Jv (Rd.out ((),(x.2.2.1,qT x.2.2.2.1 (gz (aw x.2.1) x.1.1 (aw x.2.1).length),()))))
def zby (y:dG lL):qT y (vB y)=y:=rfl
def qq6 (a k:Int) (h z:ap.den) (y:dG lL) (hinv:InvWo a k h y) (Q:ph.Out->Prop) (hq:Q (Rd.out ((),(z,qT y (gz (aw h) a (aw h).length),())))):(Jc ((a,k,()),(h,z,y,()))).satP λ
   |.next x'=>InvWo x'.1.1 x'.1.2.1 x'.2.1 x'.2.2.2.1/\(((aw x'.2.1).length:Int)-x'.1.2.1).toNat<(((aw h).length:Int)-k).toNat/\(Nz x').satP Q
   |.out y=>Q (.out y)
   |.back z=>Q (.back z)
   |.pan p=>Q (.pan p):=by
 obtain⟨h0,h1,h2,h3⟩:=hinv;obtain⟨m,rfl⟩:∃ n:Nat,k=n:=⟨k.toNat,by omega⟩;rw[ucy] at h3;dsimp only[Jc];refine⟨λhi=>?_,λhi=>?_⟩
 ·have hm:m<(aw h).length:=by have:(m:Int)<((aw h).length:Int):=ucv hi; omega
  have w1:I6.wrap ((m:Int)+1)=((m+1:Nat):Int):=by rw[cD (by omega)]; omega
  have hμ:(((aw h).length:Int)-((m+1:Nat):Int)).toNat<(((aw h).length:Int)-(m:Int)).toNat:=by omega
  rw[w1];refine⟨λhne=>⟨⟨by omega,by omega⟩,Ll ?_,?_⟩,λheq=>?_⟩
  ·have:=Wq (aw h) a m;rw[h3];simp;omega
  ·have hne':¬ (m:Int)=a:=by simpa using hne
   have e:gz (aw h) a (m+1)=gz (aw h) a m++[(aw h).getD m ar.dflt]:=if_neg hne';have hI:InvWo a ((m+1:Nat):Int) h (qT y (vB y++[(aw h).getD m ar.dflt])):=⟨by omega,by omega,h2,by
    show vB y++_=_;rw[ucy,e,h3]⟩
   exact⟨hI,hμ,hI,hq⟩
  ·have heq':(m:Int)=a:=by simpa using heq
   have e:gz (aw h) a (m+1)=gz (aw h) a m:=if_pos heq';have hI:InvWo a ((m+1:Nat):Int) h y:=⟨by omega,by omega,h2,by rw[ucy,e,h3]⟩;exact⟨hI,hμ,hI,hq⟩
 ·have hm:=ucf hi;obtain rfl:m=(aw h).length:=by omega
  rw[<- h3,zby] at hq;exact hq
def qsk:ah prog (.loop (aC f212 0)) ph.M ph Nz:=by
 refine ah.loop za9 (μ:=λx=>(((aw x.2.1).length:Int)-x.1.2.1).toNat) ?_ (λx Q h=>h.1);rintro⟨⟨a,k,_⟩,h,z,y,_⟩ hinv Q hq;exact qq6 a k h z y hinv Q hq.2
def C6:Ct:=⟨[.d ap,.d i64],[ap],λx=>(qS x.1 (gz (aw x.1) x.2.1 (aw x.1).length),()),λx=>[(aw x.1).length<=500000]⟩
def zfd:aa prog 212 C6:=
 cg (bz eI qsk (ps:=[.d ap,.d i64]) (fr:=λx=>Jd (InvWo x.2.1 0 x.1 (qT (VI x.1) [])) (Jv (quq (qT (qT (VI x.1) []) (gz (aw x.1) x.2.1 (aw x.1).length)),())))) _ _ (λ_ _ x _ _ hok=>by
   obtain⟨h,a,_⟩:=x;have hl:=hok;exact au ⟨ufb _,ub2 _,hl,rfl⟩ ⟨uT,rfl⟩)
open Go.Ab.Fr renaming val->Jv,need->Jd,br->Jb
def eS:List af.den->Int->Bool
 |[],_=>true
 |s::l,e=>fD s e&&eS l s.1.2.1
def Um:(l:List af.den)->(e:Int)->(p:List Int×List Int)->(hZ l e p).isSome=eS l e
 |[],_,_=>rfl
 |s::l,e,p=>by
  unfold hZ eS;cases fD s e with
  |true=>
   exact Um l _ _
  |false=>rfl
def km (l:List af.den):Bool:=decide (l.length<=2000)&&eS l 1
def Le (l:List af.den):km l = !(eD l).isNone:=by
 unfold km eD;by_cases h:l.length<=2000
 ·rw[ud8 h,if_pos h,uej,CG,<- Um l 1 ([],[])];cases hZ l 1 ([],[])<;>rfl
 ·rw[udt h,if_neg h];rfl
def dW (g:Int->Int):Int->Nat->Int
 |_,0=>0
 |a,n+1=>g a+dW g (a+1) n
def PJ (f:bj.den):(n:Nat)->(a:Int)->dx f a n=dW (cW f) a n
 |0,_=>rfl
 |n+1,a=>by
  show cW f a+dx f (a+1) n=cW f a+dW (cW f) (a+1) n;rw[PJ f n (a+1)]
def zf4 {g k:Int->Int}:(n:Nat)->(a:Int)->(∀ d,a<=d->d<a+n->g d=k d)->dW g a n=dW k a n
 |0,_,_=>rfl
 |n+1,a,h=>by
  show g a+dW g (a+1) n=k a+dW k (a+1) n;rw[h a (ufb _) (by omega),zf4 n (a+1) (λd h1 h2=>h d (by omega) (by omega))]
def Vp (g k:Int->Int):(n:Nat)->(a:Int)->dW (λd=>g d+k d) a n=dW g a n+dW k a n
 |0,_=>rfl
 |n+1,a=>by
  show g a+k a+dW (λd=>g d+k d) (a+1) n=g a+dW g (a+1) n+(k a+dW k (a+1) n);rw[Vp g k n (a+1)];omega
def LK:(n:Nat)->(a:Int)->dW (λ_=>0) a n=0
 |0,_=>rfl
 |n+1,a=>by
  show 0+dW (λ_=>0) (a+1) n=0;rw[LK n (a+1)];rfl
def qoh {m k y:Int} (h:k=m+1):y+m*y=k*y:=by
 rw[h,Int.add_mul,Int.one_mul,Int.add_comm]
def Vq (F T y:Int):(n:Nat)->(a:Int)->F<=a->dW (λd=>if F<=d/\d<T then y else 0) a n=(if (if a+n<T then a+n else T)-a<=0 then 0 else (if a+n<T then a+n else T)-a)*y
 |0,a,h=>by
  show(0:Int)=_;have:(if (if a+((0:Nat):Int)<T then a+((0:Nat):Int) else T)-a<=0 then (0:Int) else (if a+((0:Nat):Int)<T then a+((0:Nat):Int) else T)-a)=0:=by
   split<;>split<;>omega
  rw[this,Int.zero_mul]
 |n+1,a,h=>by
  show(if F<=a/\a<T then y else 0)+dW _ (a+1) n=_;rw[Vq F T y n (a+1) (by omega)];by_cases c:a<T
  ·rw[if_pos ⟨h,c⟩];refine qoh ?_;split<;>split<;>split<;>split<;>omega
  ·rw[if_neg (λhh=>c hh.2),Int.zero_add];have e1:(if (if a+1+(n:Int)<T then a+1+(n:Int) else T)-(a+1)<=0 then (0:Int) else (if a+1+(n:Int)<T then a+1+(n:Int) else T)-(a+1))=0:=by
    split<;>split<;>omega
   have e2:(if (if a+((n+1:Nat):Int)<T then a+((n+1:Nat):Int) else T)-a<=0 then (0:Int) else (if a+((n+1:Nat):Int)<T then a+((n+1:Nat):Int) else T)-a)=0:=by
    split<;>split<;>omega
   rw[e1,e2]
def i9 (d:Int):Int:=if d<1 then 1 else d
def cS (d:Int) (s:af.den):Int:=(if i9 d<s.1.2.1 then i9 d else s.1.2.1)-s.1.1
def Vr (F T y:Int):(n:Nat)->(a:Int)->a<=F->dW (λd=>if F<=d/\d<T then y else 0) a n=(if (if a+n<T then a+n else T)-F<=0 then 0 else (if a+n<T then a+n else T)-F)*y
 |0,a,h=>by
  show(0:Int)=_;have:(if (if a+((0:Nat):Int)<T then a+((0:Nat):Int) else T)-F<=0 then (0:Int) else (if a+((0:Nat):Int)<T then a+((0:Nat):Int) else T)-F)=0:=by
   split<;>split<;>omega
  rw[this,Int.zero_mul]
 |n+1,a,h=>by
  by_cases c:a=F
  ·subst c;exact Vq a T y (n+1) a (ufb _)
  ·show(if F<=a/\a<T then y else 0)+dW _ (a+1) n=_;rw[if_neg (λhh=>c (by omega)),Vr F T y n (a+1) (by omega),Int.zero_add];have:a+1+(n:Int)=a+((n+1:Nat):Int):=by omega
   rw[this]
def ot (d:Int):List af.den->Int
 |[]=>0
 |s::l=>(if cS d s<=0 then 0 else cS d s)*s.2.2.2.2.1+ot d l
def OQ:(l:List af.den)->(e:Int)->eS l e=true->(d:Int)->d<e->gk l d=0
 |[],_,_,_,_=>rfl
 |s::l,e,h,d,hd=>by
  unfold eS at h;rw[uc9] at h;obtain⟨h1,h2,_⟩:=jt.1 h.1;unfold gk;rw[if_neg (λhh=>absurd hh.1 (ufk.2 (Int.lt_of_lt_of_le hd h1)))];exact OQ l _ h.2 d (ue0 (Int.lt_of_lt_of_le hd h1) h2)
def OS (d:Int):(l:List af.den)->(e:Int)->1<=e->eS l e=true->dW (gk l) 1 (i9 d-1).toNat=ot d l
 |[],_,_,_=>LK _ _
 |s::l,e,he,h=>by
  have h':=h;unfold eS at h';rw[uc9] at h';obtain⟨h1,h2,h3,h4,h5⟩:=jt.1 h'.1;have ih:=OS d l s.1.2.1 (ue3 he (ue3 h1 (ues h2))) h'.2;have hs:∀ x,gk (s::l) x=(if s.1.1<=x/\x<s.1.2.1 then s.2.2.2.2.1 else 0)+gk l x:=λx=>by
   show(if s.1.1<=x/\x<s.1.2.1 then s.2.2.2.2.1 else gk l x)=_;by_cases c:s.1.1<=x/\x<s.1.2.1
   ·rw[if_pos c,if_pos c,OQ l _ h'.2 x c.2,ue5]
   ·rw[if_neg c,if_neg c,Int.zero_add]
  rw[zf4 _ _ (λx _ _=>hs x),Vp,ih,Vr _ _ _ _ _ (ue3 he h1)];have hD:(1:Int)+((i9 d-1).toNat:Int)=i9 d:=by
   have:1<=i9 d:=by unfold i9; split<;>omega
   omega
  rw[hD];rfl
def OR:(l:List af.den)->(e:Int)->eS l e=true->(d:Int)->292195<=d->gk l d=0
 |[],_,_,_,_=>rfl
 |s::l,e,h,d,hd=>by
  unfold eS at h;rw[uc9] at h;obtain⟨h1,h2,h3,_⟩:=jt.1 h.1;unfold gk;rw[if_neg (λhh=>absurd hh.2 (ufl.2 (ue3 h3 hd)))];exact OR l _ h.2 d hd
def Vs (g:Int->Int):(n m:Nat)->(a:Int)->dW g a (n+m)=dW g a n+dW g (a+n) m
 |0,m,a=>by
  rw[uew,show a+((0:Nat):Int)=a by omega];show _=0+_;rw[Int.zero_add]
 |n+1,m,a=>by
  rw[Nat.add_right_comm];show g a+dW g (a+1) (n+m)=g a+dW g (a+1) n+_;rw[Vs g n m (a+1),show a+1+(n:Int)=a+((n+1:Nat):Int) by omega,Int.add_assoc]
def ZV {l:List af.den} (h:(eD l).isNone=false) (d:Int):Sd (bV l) d=ot d l:=by
 have hr:km l=true:=by rw[Le,h]; rfl
 unfold km at hr;rw[uc9] at hr;rw[<- OS d l 1 (ufb _) hr.2];unfold Sd;rw[PJ];obtain⟨b1,b2⟩:=Hy d;have h1:dW (cW (bV l)) 1 (cP d-1).toNat=dW (gk l) 1 (cP d-1).toNat:=zf4 _ _ λx h1 h2=>zez h h1 (by omega);rw[h1];by_cases c:i9 d<=292195
 ·have:cP d=i9 d:=by
   unfold cP i9 at *;rw[if_neg (by omega)]
  rw[this]
 ·have e1:cP d=292195:=by
   unfold cP i9 at *;rw[if_pos (by omega)]
  rw[e1];have e2:(i9 d-1).toNat=(292195-1:Int).toNat+(i9 d-292195).toNat:=by omega
  rw[e2,Vs];have e3:dW (gk l) (1+((292195-1:Int).toNat:Int)) (i9 d-292195).toNat=0:=by
   rw[zf4 _ _ (λx h1 _=>OR l 1 hr.2 x (by omega)),LK]
  rw[e3,ue5]
def jZ (d:Int):List af.den->Int->Option Int
 |[],acc=>some acc
 |s::l,acc=>if cS d s<=0 then jZ d l acc else if (4000000000000000000-acc).tdiv (cS d s)<s.2.2.2.2.1 then none else jZ d l (acc+cS d s*s.2.2.2.2.1)
def HV {a n y:Int} (ha:0<=a) (hn:0<n):a.tdiv n<y↔a<n*y:=by
 rw[Int.tdiv_eq_ediv_of_nonneg ha,Int.ediv_lt_iff_lt_mul hn,uez]
def Vw (d:Int):(l:List af.den)->(e:Int)->eS l e=true->0<=ot d l
 |[],_,_=>ufb _
 |s::l,e,h=>by
  unfold eS at h;rw[uc9] at h;obtain⟨_,_,_,h4,_⟩:=jt.1 h.1;have ih:=Vw d l _ h.2;unfold ot;have:0<=(if cS d s<=0 then 0 else cS d s)*s.2.2.2.2.1:=ud9 (by split<;>omega) h4;omega
def J8 (d:Int):(l:List af.den)->(e:Int)->eS l e=true->(acc:Int)->0<=acc/\acc<=4000000000000000000 ->
  jZ d l acc=if acc+ot d l<=4000000000000000000 then some (acc+ot d l) else none
 |[],_,_,acc,ha=>by
  unfold jZ ot;rw[ue5,if_pos ha.2]
 |s::l,e,h,acc,ha=>by
  have h':=h;unfold eS at h';rw[uc9] at h';obtain⟨_,_,_,h4,h5⟩:=jt.1 h'.1;have hs:=Vw d l _ h'.2;unfold jZ;have hU:ot d (s::l)=(if cS d s<=0 then 0 else cS d s)*s.2.2.2.2.1+ot d l:=rfl;by_cases c:cS d s<=0
  ·rw[if_pos c,J8 d l _ h'.2 acc ha,hU,if_pos c,Int.zero_mul,Int.zero_add]
  ·rw[if_neg c,hU,if_neg c];have hm:0<=cS d s*s.2.2.2.2.1:=ud9 (by omega) h4;by_cases c2:(4000000000000000000-acc).tdiv (cS d s)<s.2.2.2.2.1
   ·rw[if_pos c2,if_neg];rw[HV (by omega) (by omega)] at c2;omega
   ·rw[if_neg c2];rw[HV (by omega) (by omega)] at c2;rw[J8 d l _ h'.2 _ (by omega),Int.add_assoc]
open Go.Ab.Fr renaming val->Jv,need->Jd,br->Jb
noncomputable def WI:Cx:=cx [(164,vg)] []
def Fz:CxOK prog WI:=aJ aG ⟨Rk,uT⟩ trivial
abbrev lY:Pt:=⟨49,0,⟨[(4,.d i64),(0,.d bY),(3,.d i64)],[]⟩,⟨[],[]⟩,⟨[(2,.d .bool)],[]⟩⟩
def IV (x:lY.M.X):Fr lY.Out:=
 let k:Int:=x.1.1; let l:List af.den:=x.1.2.1; let e:Int:=x.1.2.2.1
 let s:af.den:=l.getD k.toNat af.dflt
 let b1:Bool:=bif !(vg.f (s.1,())).1 then true else decide (s.1.1<e)
 let b2:Bool:=bif b1 then true else decide (s.2.2.2.2.1<0)
 Jb (decide (k<(l.length:Int)))
  (Jd (0<=k/\k<(l.length:Int)) (Jd (b1=false->0<=k/\k<(l.length:Int)) (Jd (b2=false->0<=k/\k<(l.length:Int))
   (Jb (bif b2 then true else decide (s.2.2.2.2.1>4000000000000000000)) (Jv (Rd.back ((false,()),())))
    (Jv (Rd.next ((I6.wrap (k+1),l,s.1.2.1,()),())))))))
  (Jv (Rd.out ((),())))
def za3:ah prog (aC f226 0) lY.M lY IV:=
 eH Fz
structure InvR14 (k:Int) (l:List af.den) (e:Int):Prop where
 k0:0<=k
 kl:k<=l.length
 big:l.length<=2000
 e1:1<=e
def Ns (x:lY.M.X):Fr lY.Out:=
 Jd (InvR14 x.1.1 x.1.2.1 x.1.2.2.1) (Jb (eS (List.drop (x.1.1:Int).toNat x.1.2.1) x.1.2.2.1) (Jv (Rd.out ((),()))) (Jv (Rd.back ((false,()),()))))
def qnf {s:af.den} {e:Int} (he:1<=e):(bif bif bif !(dd s.1) then true else decide (s.1.1<e) then true else decide (s.2.2.2.2.1<0) then true else decide (s.2.2.2.2.1>4000000000000000000)) = !fD s e:=by
 have key:(bif bif bif !(dd s.1) then true else decide (s.1.1<e) then true else decide (s.2.2.2.2.1<0) then true else decide (s.2.2.2.2.1>4000000000000000000))=false↔fD s e=true:=by
  rw[jt];cases hf:dd s.1 with
  |false=>
   constructor
   ·intro h; cases h
   ·rintro⟨h1,h2,h3,_⟩;have:dd s.1=true:=jY.2 ⟨ue3 he h1,h2,h3⟩;rw[hf] at this;cases this
  |true=>
   obtain⟨g1,g2,g3⟩:=jY.1 hf;constructor
   ·intro h;by_cases c1:s.1.1<e
    ·rw[ud8 c1] at h; cases h
    ·by_cases c2:s.2.2.2.2.1<0
     ·rw[udt c1,ud8 c2] at h; cases h
     ·by_cases c3:s.2.2.2.2.1>4000000000000000000
      ·rw[udt c1,udt c2,ud8 c3] at h; cases h
      ·exact⟨ufl.1 c1,g2,g3,ufl.1 c2,ufl.1 c3⟩
   ·rintro⟨h1,_,_,h4,h5⟩;rw[udt (ufl.2 h1),udt (ufl.2 h4),udt (ufl.2 h5)];rfl
 cases hb:fD s e with
 |true=>exact key.2 hb
 |false=>
  cases hx:(bif bif bif !(dd s.1) then true else decide (s.1.1<e) then true else decide (s.2.2.2.2.1<0) then true else decide (s.2.2.2.2.1>4000000000000000000)) with
  |true=>rfl
  |false=>rw[key.1 hx] at hb; cases hb
def PG {l:List af.den} {k:Nat} (h:k<l.length):l.drop k=l.getD k af.dflt::l.drop (k+1):=by
 rw[ual h,uah,uap h];rfl
def qqu (k:Int) (l:List af.den) (e:Int) (hinv:InvR14 k l e) (Q:lY.Out->Prop) (hq:(Jb (eS (l.drop k.toNat) e) (Jv (Rd.out ((),()))) (Jv (Rd.back ((false,()),()))):Fr lY.Out).satP Q):(IV ((k,l,e,()),())).satP λ
   |.next x'=>InvR14 x'.1.1 x'.1.2.1 x'.1.2.2.1/\(((List.length (α:=af.den) x'.1.2.1:Nat):Int)-x'.1.1).toNat<((l.length:Int)-k).toNat/\(Ns x').satP Q
   |.out y=>Q (.out y)
   |.back z=>Q (.back z)
   |.pan p=>Q (.pan p):=by
 obtain⟨h0,h1,h2,h3⟩:=hinv;obtain⟨m,rfl⟩:∃ n:Nat,k=n:=⟨k.toNat,by omega⟩;dsimp only[IV,Fr.satP];simp only[ucy] at hq |-;refine⟨λhi=>?_,λhi=>?_⟩
 ·have hm:m<l.length:=by have:(m:Int)<(l.length:Int):=ucv hi; omega
  have w1:I6.wrap ((m:Int)+1)=((m+1:Nat):Int):=by rw[cD (by omega)]; omega
  have hb:0<=(m:Int)/\(m:Int)<(l.length:Int):=⟨by omega,by omega⟩;have hμ:((l.length:Int)-((m+1:Nat):Int)).toNat<((l.length:Int)-(m:Int)).toNat:=by omega
  rw[PG hm] at hq;have hE:eS (l.getD m af.dflt::l.drop (m+1)) e=(fD (l.getD m af.dflt) e&&eS (l.drop (m+1)) (l.getD m af.dflt).1.2.1):=rfl;rw[hE] at hq;have hB:=qnf (s:=l.getD m af.dflt) h3;rw[w1];refine⟨hb,λ_=>hb,λ_=>hb,λht=>?_,λht=>?_⟩
  ·have ht':fD (l.getD m af.dflt) e=false:=by
    have:(!fD (l.getD m af.dflt) e)=true:=hB.symm.trans ht;simpa using this
   rw[ht'] at hq;exact hq.2 rfl
  ·have ht':fD (l.getD m af.dflt) e=true:=by
    have:(!fD (l.getD m af.dflt) e)=false:=hB.symm.trans ht;simpa using this
   rw[ht',uej] at hq;obtain⟨g1,g2,_⟩:=jt.1 ht';have hI:InvR14 ((m+1:Nat):Int) l (l.getD m af.dflt).1.2.1:=⟨by omega,by omega,h2,ue3 h3 (ue3 g1 (ues g2))⟩;refine⟨hI,hμ,hI,?_⟩;exact hq
 ·have hm:=ucf hi;rw[List.drop_of_length_le (by omega)] at hq;exact hq.1 rfl
def qr8:ah prog (.loop (aC f226 0)) lY.M lY Ns:=by
 refine ah.loop za3 (μ:=λx=>(((List.length x.1.2.1:Nat):Int)-x.1.1).toNat) ?_ (λx Q h=>h.1);rintro⟨⟨k,l,e,_⟩,_⟩ hinv Q hq;exact qqu k l e hinv Q hq.2
def qbz (b:Bool):(Jb b (Jv (true,())) (Jv (false,())):Fr (ae [.bool])).ok/\(Jb b (Jv (true,())) (Jv (false,())):Fr (ae [.bool])).get=(b,()):=by
 cases b with
 |true=>exact ay rfl ⟨uT,rfl⟩
 |false=>exact ax rfl ⟨uT,rfl⟩
def y9:Ct:=⟨[.d bY],[.bool],λx=>(km x.1,()),λ_=>[]⟩
def Ul:aa prog 226 y9:=
 cg (bz Fz qr8 (ps:=[.d bY]) (fr:=λx=>Jb (decide (((List.length x.1:Nat):Int)>2000)) (Jv (false,())) (Jd (InvR14 0 x.1 1) (Jb (eS (List.drop (0:Int).toNat x.1) 1) (Jv (true,())) (Jv (false,())))))) _ _ (λ_ _ x _ _ _=>by
   obtain⟨l,_⟩:=x;unfold km;by_cases h:List.length l<=2000
   ·rw[ud8 h,uej];refine ax (udt (by show ¬ ((List.length l:Nat):Int)>2000; omega)) (au ⟨ufb _,ub2 _,h,ufb _⟩ ?_);exact qbz (eS l 1)
   ·rw[udt h];exact ay (ud8 (by show((List.length l:Nat):Int)>2000; omega)) ⟨uT,rfl⟩)
abbrev nE:Pt:=⟨66,0,⟨[(8,.d i64),(0,.d bY),(1,.d i64),(7,.d i64)],[]⟩,⟨[(7,.d i64)],[]⟩,⟨[(4,.d i64),(5,.d i64)],[]⟩⟩
def IY (x:nE.M.X):Fr nE.Out:=
 let k:Int:=x.1.1; let l:List af.den:=x.1.2.1; let d:Int:=x.1.2.2.1; let sum:Int:=x.1.2.2.2.1
 let s:af.den:=l.getD k.toNat af.dflt
 let n:Int:=I6.wrap (cS d s)
 Jb (decide (k<(l.length:Int)))
  (Jd (0<=k/\k<(l.length:Int)) (Jd (0<=k/\k<(l.length:Int))
   (Jb (decide (n<=0)) (Jv (Rd.next ((I6.wrap (k+1),l,d,sum,()),())))
    (Jd (0<=k/\k<(l.length:Int)) (Jd (n≠0)
     (Jb (decide (s.2.2.2.2.1>I6.wrap ((I6.wrap (4000000000000000000-sum)).tdiv n))) (Jv (Rd.back ((0,5,()),())))
      (Jd (0<=k/\k<(l.length:Int)) (Jv (Rd.next ((I6.wrap (k+1),l,d,I6.wrap (sum+I6.wrap (n*s.2.2.2.2.1)),()),()))))))))))
  (Jv (Rd.out ((sum,()),())))
def za8:ah prog (aC f221 0) nE.M nE IY:=
 eH Fz
structure InvU14 (k:Int) (l:List af.den) (d sum:Int):Prop where
 k0:0<=k
 kl:k<=l.length
 big:l.length<=2000
 e1:∃ e,1<=e/\eS (l.drop k.toNat) e=true
 s0:0<=sum/\sum<=4000000000000000000
def Eh (o:Option Int):Fr nE.Out:=Jb o.isSome (Jv (Rd.out ((o.getD 0,()),()))) (Jv (Rd.back ((0,5,()),())))
def Ny (x:nE.M.X):Fr nE.Out:=
 Jd (InvU14 x.1.1 x.1.2.1 x.1.2.2.1 x.1.2.2.2.1) (Eh (jZ x.1.2.2.1 (List.drop (x.1.1:Int).toNat x.1.2.1) x.1.2.2.2.1))
def qub {d:Int} {s:af.den} {e:Int} (he:1<=e) (h:fD s e=true) : -292195<=cS d s/\cS d s<=292195:=by
 obtain⟨h1,h2,h3,_⟩:=jt.1 h;have a1:=ue3 he h1;have a2:=ue3 (ues h2) h3;have a3:=ue3 a1 (ues h2);have key:∀ D f t:Int,1<=D->1<=f->f<=292195->1<=t->t<=292195 -> -292195<=(if D<t then D else t)-f/\(if D<t then D else t)-f<=292195:=by
  intro D f t q1 q2 q3 q4 q5;split<;>omega
 exact key _ _ _ (by unfold i9; split<;>omega) a1 a2 a3 h3
def qq5 (k:Int) (l:List af.den) (d sum:Int) (hinv:InvU14 k l d sum) (Q:nE.Out->Prop) (hq:(Eh (jZ d (l.drop k.toNat) sum)).satP Q):(IY ((k,l,d,sum,()),())).satP λ
   |.next x'=>InvU14 x'.1.1 x'.1.2.1 x'.1.2.2.1 x'.1.2.2.2.1/\(((List.length (α:=af.den) x'.1.2.1:Nat):Int)-x'.1.1).toNat<((l.length:Int)-k).toNat/\(Ny x').satP Q
   |.out y=>Q (.out y)
   |.back z=>Q (.back z)
   |.pan p=>Q (.pan p):=by
 obtain⟨h0,h1,h2,⟨e,he,h3⟩,h4⟩:=hinv;obtain⟨m,rfl⟩:∃ n:Nat,k=n:=⟨k.toNat,by omega⟩;dsimp only[IY];simp only[ucy] at hq h3 |-;refine⟨λhi=>?_,λhi=>?_⟩
 ·have hm:m<l.length:=by have:(m:Int)<(l.length:Int):=ucv hi; omega
  have w1:I6.wrap ((m:Int)+1)=((m+1:Nat):Int):=by rw[cD (by omega)]; omega
  have hb:0<=(m:Int)/\(m:Int)<(l.length:Int):=⟨by omega,by omega⟩;have hμ:((l.length:Int)-((m+1:Nat):Int)).toNat<((l.length:Int)-(m:Int)).toNat:=by omega
  rw[PG hm] at hq h3;unfold eS at h3;rw[uc9] at h3;obtain⟨g1,g2,g3,g4,g5⟩:=jt.1 h3.1;have hN:=qub (d:=d) he h3.1;have wN:I6.wrap (cS d (l.getD m af.dflt))=cS d (l.getD m af.dflt):=cD (by omega);have wS:I6.wrap (4000000000000000000-sum)=4000000000000000000-sum:=cD (by omega);have hto:=ue3 he (ue3 g1 (ues g2));have hgo:jZ d (l.getD m af.dflt::l.drop (m+1)) sum=if cS d (l.getD m af.dflt)<=0 then jZ d (l.drop (m+1)) sum else if (4000000000000000000-sum).tdiv (cS d (l.getD m af.dflt))<(l.getD m af.dflt).2.2.2.2.1 then none else jZ d (l.drop (m+1)) (sum+cS d (l.getD m af.dflt)*(l.getD m af.dflt).2.2.2.2.1):=rfl
  rw[hgo] at hq;simp only[w1,wN,wS];refine⟨hb,hb,λhn=>?_,λhn=>⟨hb,?_,λhov=>?_,λhov=>⟨hb,?_⟩⟩⟩
  ·have hn':=ucv hn;rw[if_pos hn'] at hq;have hI:InvU14 ((m+1:Nat):Int) l d sum:=⟨by omega,by omega,h2,⟨_,hto,by rw[ucy]; exact h3.2⟩,h4⟩;refine⟨hI,hμ,hI,?_⟩;exact hq
  ·have hn':=ucf hn;omega
  ·have hn':=ucf hn;have hdv:0<=(4000000000000000000-sum).tdiv (cS d (l.getD m af.dflt))/\(4000000000000000000-sum).tdiv (cS d (l.getD m af.dflt))<=4000000000000000000:=by
    rw[Int.tdiv_eq_ediv_of_nonneg (by omega)];exact⟨udi (by omega) (by omega),ue3 (Int.ediv_le_self _ (by omega)) (by omega)⟩
   have hov':=ucv hov;rw[cD (by omega)] at hov';rw[if_neg hn',if_pos hov'] at hq;exact hq.2 rfl
  ·have hn':=ucf hn;have hdv:0<=(4000000000000000000-sum).tdiv (cS d (l.getD m af.dflt))/\(4000000000000000000-sum).tdiv (cS d (l.getD m af.dflt))<=4000000000000000000:=by
    rw[Int.tdiv_eq_ediv_of_nonneg (by omega)];exact⟨udi (by omega) (by omega),ue3 (Int.ediv_le_self _ (by omega)) (by omega)⟩
   have hov':=ucf hov;rw[cD (by omega)] at hov';have hov2:¬ (4000000000000000000-sum).tdiv (cS d (l.getD m af.dflt))<(l.getD m af.dflt).2.2.2.2.1:=hov';rw[if_neg hn',if_neg hov2] at hq;rw[HV (by omega) (by omega)] at hov2;have hmn:0<=cS d (l.getD m af.dflt)*(l.getD m af.dflt).2.2.2.2.1:=ud9 (by omega) g4;have wM:I6.wrap (cS d (l.getD m af.dflt)*(l.getD m af.dflt).2.2.2.2.1)=cS d (l.getD m af.dflt)*(l.getD m af.dflt).2.2.2.2.1:=cD (by omega);have wT:I6.wrap (sum+cS d (l.getD m af.dflt)*(l.getD m af.dflt).2.2.2.2.1)=sum+cS d (l.getD m af.dflt)*(l.getD m af.dflt).2.2.2.2.1:=cD (by omega);rw[wM,wT];have hI:InvU14 ((m+1:Nat):Int) l d (sum+cS d (l.getD m af.dflt)*(l.getD m af.dflt).2.2.2.2.1):=⟨by omega,by omega,h2,⟨_,hto,by rw[ucy]; exact h3.2⟩,by omega⟩;refine⟨hI,hμ,hI,?_⟩;exact hq
 ·have hm:=ucf hi;rw[List.drop_of_length_le (by omega)] at hq;exact hq.1 rfl
def qsj:ah prog (.loop (aC f221 0)) nE.M nE Ny:=by
 refine ah.loop za8 (μ:=λx=>(((List.length x.1.2.1:Nat):Int)-x.1.1).toNat) ?_ (λx Q h=>h.1);rintro⟨⟨k,l,d,sum,_⟩,_⟩ hinv Q hq;exact qq5 k l d sum hinv Q hq.2
noncomputable def WJ:Cx:=cx [(226,y9)] []
def WK:CxOK prog WJ:=aJ aG ⟨Ul,uT⟩ trivial
def IZ (s:Int):Fr (ae [i64,i64]):=
 let a:=(365:Int)≠0;Jd a (Jd a
  (Jb (decide (s.tmod 365>182)) (Jv (I6.wrap (I6.wrap (s.tdiv 365)+1),0,())) (Jv (I6.wrap (s.tdiv 365),0,()))))
def QM (x:aq [.d bY,.d i64]):Fr (ae [i64,i64]):=
 let o:Option Int:=jZ x.2.1 (List.drop (0:Int).toNat x.1) 0
 Jb (!(y9.f (x.1,())).1) (Jv (0,1,()))
  (Jd (InvU14 0 x.1 x.2.1 0) (Jb o.isSome (IZ (o.getD 0)) (Jv (0,5,()))))
def zeo:aa prog 221 (aL [.d bY,.d i64] [i64,i64] QM):=
 bz WK qsj
def qzq {s:Int} (h:0<=s/\s<=4000000000000000000):(IZ s).ok/\(IZ s).get=((s+182)/365,0,()):=by
 have e1:s.tdiv 365=s/365:=Int.tdiv_eq_ediv_of_nonneg h.1;have e2:s.tmod 365=s%365:=Int.tmod_eq_emod_of_nonneg h.1;refine au (by decide) (au (by decide) ?_);by_cases c:s%365>182
 ·refine ay (ud8 (by rw[e2]; exact c)) ⟨uT,?_⟩;show(I6.wrap (I6.wrap (s.tdiv 365)+1),(0:Int),())=_;rw[e1,cD (show -9223372036854775808<=s/365/\s/365<=9223372036854775807 by omega),cD (by omega)];congr 1;omega
 ·refine ax (udt (by rw[e2]; exact c)) ⟨uT,?_⟩;show(I6.wrap (s.tdiv 365),(0:Int),())=_;rw[e1,cD (by omega)];congr 1;omega
def zet:aa prog 221 mQ:=
 cg zeo _ _ (λ_ _ x _ _ _=>by
  obtain⟨l,d,_⟩:=x;have hr:=Le l;unfold dg;cases hc:(eD l).isNone with
  |true=>
   rw[hc] at hr;exact ay (by show(!(km l))=true; rw[hr]; rfl) ⟨uT,rfl⟩
  |false=>
   rw[hc] at hr;have hp:=H6 hc;have hrE:eS l 1=true/\l.length<=2000:=by
    have:km l=true:=hr;unfold km at this;rw[uc9] at this;exact⟨this.2,ucv this.1⟩
   refine ax (by show(!(km l))=false; rw[hr]; rfl) (au ⟨ufb _,ub2 _,hrE.2,⟨1,ufb _,hrE.1⟩,by decide⟩ ?_);have hd:List.drop (0:Int).toNat l=l:=rfl;have hg:=J8 d l 1 hrE.1 0 (by decide);have hs:=ZV hc d;have hn:=ZU hp d;rw[Int.zero_add,<- hs] at hg;rw[Mb hp];by_cases c:Sd (bV l) d<=4000000000000000000
   ·rw[if_pos c] at hg |-;refine ay (by rw[hd,hg]; rfl) ?_;rw[hd,hg];exact qzq ⟨hn,c⟩
   ·rw[if_neg c] at hg |-;refine ax (by rw[hd,hg]; rfl) ⟨uT,rfl⟩)
noncomputable def WL:Cx:=cx [(226,y9),(221,mQ),(95,fz)] []
def Mm:CxOK prog WL:=aJ aG ⟨Ul,zet,Ld,uT⟩ trivial
def zfi:aa prog 198 ss:=
 cg (aH Mm f198 (fr:=λx=>Jv ((mQ.f (x.1,292195,())).1,(mQ.f (x.1,292195,())).2.1,())) (ps:=[.d bY])) _ _
  (λ_ _ _ _ _ _=>⟨uT,rfl⟩)
def QA (x:aq [.d bY,.d bR]):Fr (ae [i64,i64]):=
 let l:List af.den:=x.1; let s:bR.den:=x.2.1
 let b:ae [i64,i64]:=mQ.f (l,s.2.1,()); let a:ae [i64,i64]:=mQ.f (l,s.1,())
 Jb (!(y9.f (l,())).1) (Jv (0,1,()))
  (Jb (!(fz.f (s,())).1) (Jv (0,1,()))
   (Jb (b.2.1 != 0) (Jv (0,b.2.1,())) (Jv (I6.wrap (b.1-a.1),a.2.1,()))))
def qbq:aa prog 213 (aL [.d bY,.d bR] [i64,i64] QA):=
 aH Mm f213
def qbs:aa prog 213 oF:=
 cg qbq _ _ (λ_ _ x _ _ _=>by
  obtain⟨l,s,_⟩:=x;have hr:=Le l;unfold dC;cases hc:(eD l).isNone with
  |true=>
   rw[hc] at hr;exact ay (by show(!(km l))=true; rw[hr]; rfl) ⟨uT,rfl⟩
  |false=>
   rw[hc] at hr;have hp:=H6 hc;have hU:∀ d,dg l d=bZ (bV l) d:=λd=>if_neg (by rw[hc]; decide);refine ax (by show(!(km l))=false; rw[hr]; rfl) ?_;cases hs:e9 s with
   |false=>
    exact ay (by show(!(e9 s))=true; rw[hs]; rfl) ⟨uT,rfl⟩
   |true=>
    rw[if_neg (λh=>h.elim (λh=>by cases h) (λh=>by cases h))];refine ax (by show(!(e9 s))=false; rw[hs]; rfl) ?_;have hab:s.1<=s.2.1:=by
     unfold e9 at hs;simp at hs
     first|exact hs.1.2|exact hs.2.1
    have hm:=ZT hp hab;by_cases c:(bZ (bV l) s.2.1).2=0
    ·have ca:(bZ (bV l) s.1).2=0:=by
      rw[Mb hp] at c |-;by_cases q:Sd (bV l) s.2.1<=4000000000000000000
      ·rw[if_pos (ue3 hm q)]
      ·rw[if_neg q] at c;cases c
     rw[if_neg (λh=>h c),if_neg (λh=>h ca)];refine ax (by show((dg l s.2.1).2 != 0)=false; rw[hU,c]; rfl) ⟨uT,?_⟩;show(I6.wrap ((dg l s.2.1).1-(dg l s.1).1),(dg l s.1).2,())=_;rw[hU,hU,ca,cD (NU (Bq (bV l) s.2.1) (Bq (bV l) s.1))]
    ·rw[if_pos c];refine ay (by show((dg l s.2.1).2 != 0)=true; rw[hU]; simp[c]) ⟨uT,?_⟩;show((0:Int),(dg l s.2.1).2,())=_;rw[hU])
open Go.Ab.Fr renaming val->Jv,need->Jd,br->Jb
def uI:LS:=⟨[(0,.d i64),(9,.d u64),(10,.d u64),(11,.d u64),(12,.d u64),(13,.d u64),(14,.d i64)],[]⟩
def iW:Pt:=⟨66,0,uI,⟨[(9,.d u64),(10,.d u64)],[]⟩,⟨[(6,.d i64),(7,.d i64),(8,.d .bool)],[]⟩⟩
abbrev dz (n:Int):Int:=IntKind.u64.wrap n
def jT (a by_ wh re k q l:Int):Fr iW.Out:=
 Jb (decide (q>4000000000000000000)) (Jv (Rd.back ((0,0,false,()),()))) (Jv (Rd.next ((a,q,l,by_,wh,re,I6.wrap (k-1),()),())))
def kT (a by_ wh re k q l:Int):Fr iW.Out:=
 Jd (¬ k<0) (Jd ((2:Int)≠0)
  (Jb ((a.fdiv (2 ^ min k.toNat I6.bits)).tmod 2==1)
   (Jb (decide (dz (l+re)>=by_)) (jT a by_ wh re k (dz (dz (q+wh)+1)) (dz (dz (l+re)-by_))) (jT a by_ wh re k (dz (q+wh)) (dz (l+re))))
   (jT a by_ wh re k q l)))
def Io (x:uI.X):Fr iW.Out:=
 let a:Int:=x.1.1; let q:Int:=x.1.2.1; let l:Int:=x.1.2.2.1; let by_:Int:=x.1.2.2.2.1; let wh:Int:=x.1.2.2.2.2.1; let re:Int:=x.1.2.2.2.2.2.1; let k:Int:=x.1.2.2.2.2.2.2.1
 Jb (decide (k>=0))
  (Jb (decide (dz (2*l)>=by_)) (kT a by_ wh re k (dz (dz (2*q)+1)) (dz (dz (2*l)-by_))) (kT a by_ wh re k (dz (2*q)) (dz (2*l))))
  (Jv (Rd.out ((q,l,()),())))
def za5:ah prog (aC f234 0) uI iW Io:=ah.of_run eI (bs:=0) rfl rfl rfl (λ_=>bL _ 0) (λx=>by kernel_rfl)
structure InvT (a q l by_ wh re k:Int):Prop where
 a0:0<=a/\a<=9223372036854775807
 c0:0<by_/\by_<=9223372036854775807
 w0:0<=wh/\wh<=9223372036854775807
 r0:0<=re/\re<by_
 k0 : -1<=k/\k<=62
 l0:0<=l/\l<by_
 q0:0<=q/\q<=4000000000000000000
 eq:q*by_+l=(a/2 ^ (k+1).toNat)*(wh*by_+re)
def jC (a b c:Int):Int×Int×Bool:=if a*b/c>4000000000000000000 then (0,0,false) else (a*b/c,a*b%c,true)
def Nv (x:uI.X):Fr iW.Out:=
 let a:Int:=x.1.1; let q:Int:=x.1.2.1; let l:Int:=x.1.2.2.1; let by_:Int:=x.1.2.2.2.1; let wh:Int:=x.1.2.2.2.2.1; let re:Int:=x.1.2.2.2.2.2.1; let k:Int:=x.1.2.2.2.2.2.2.1
 Jd (InvT a q l by_ wh re k) (Jb (decide (a*(wh*by_+re)/by_>4000000000000000000)) (Jv (Rd.back ((0,0,false,()),()))) (Jv (Rd.out ((a*(wh*by_+re)/by_,a*(wh*by_+re)%by_,()),()))))
def qnz {a:Int} (ha:0<=a) (n:Nat):a/2 ^ n=2*(a/2 ^ (n+1))+(a/2 ^ n)%2:=by
 have:a/2 ^ (n+1)=a/2 ^ n/2:=by
  rw[Int.pow_succ,Int.ediv_ediv_of_nonneg (by exact Int.pow_nonneg (by decide))]
 omega
def qf6 {p c q l:Int} (hc:0<c) (h:q*c+l=p) (hl:0<=l/\l<c):p/c=q/\p%c=l:=by
 subst h;constructor
 ·rw[Int.add_comm,Int.add_mul_ediv_right _ _ (by omega),Int.ediv_eq_zero_of_lt hl.1 hl.2];omega
 ·rw[Int.add_comm,Int.add_mul_emod_self_right];exact Int.emod_eq_of_lt hl.1 hl.2
def zeh {q l c wh re m A bit q1 l1:Int} (hm:m=2*A+bit) (heq:q*c+l=A*(wh*c+re)) (h1:(l1=2*l/\q1=2*q)\/(l1=2*l-c/\q1=2*q+1)) :
  (bit=0->q1*c+l1=m*(wh*c+re))/\(bit=1->(q1+wh)*c+(l1+re)=m*(wh*c+re)/\(q1+wh+1)*c+(l1+re-c)=m*(wh*c+re)):=by
 have e:q1*c+l1=2*(q*c+l):=by
  rcases h1 with ⟨rfl,rfl⟩|⟨rfl,rfl⟩<;>grind
 refine⟨λhb=>?_,λhb=>⟨?_,?_⟩⟩
 ·subst hb
  grind
 ·subst hb
  grind
 ·subst hb
  grind
def Gt (Q:iW.Out->Prop) (k:Int):Rd uI.X iW.E.X iW.R.X->Prop
 |.next x'=>InvT x'.1.1 x'.1.2.1 x'.1.2.2.1 x'.1.2.2.2.1 x'.1.2.2.2.2.1 x'.1.2.2.2.2.2.1 x'.1.2.2.2.2.2.2.1/\((x'.1.2.2.2.2.2.2.1:Int)+1).toNat<(k+1).toNat/\(Nv x').satP Q
 |.out y=>Q (.out y)
 |.back z=>Q (.back z)
 |.pan p=>Q (.pan p)
def JZ {a q l c wh re k:Int} {Q:iW.Out->Prop} (ha:0<=a/\a<=9223372036854775807) (hc:0<c/\c<=9223372036854775807) (hw:0<=wh/\wh<=9223372036854775807) (hr:0<=re/\re<c) (hk:0<=k/\k<=62) (hl:0<=l/\l<c) (hq:0<=q)
  (heq:q*c+l=(a/2 ^ k.toNat)*(wh*c+re)) (hQ:(Jb (decide (a*(wh*c+re)/c>4000000000000000000)) (Jv (Rd.back ((0,0,false,()),()))) (Jv (Rd.out ((a*(wh*c+re)/c,a*(wh*c+re)%c,()),()))):Fr iW.Out).satP Q) :
  (jT a c wh re k q l).satP (Gt Q k):=by
 have w:I6.wrap (k-1)=k-1:=IntWalk.i64_in _ (by omega);have hB:=Int.add_nonneg (ud9 hw.1 (ues hc.1)) hr.1;have hm:a/2 ^ k.toNat<=a:=Int.ediv_le_self _ ha.1;have hp:=Int.mul_le_mul_of_nonneg_right hm hB;unfold jT;rw[w];refine⟨λh=>?_,λh=>?_⟩
 ·have h':=ucv h;have hge:q<=a*(wh*c+re)/c:=by
   rw[Int.le_ediv_iff_mul_le hc.1];omega
  exact hQ.1 (ud8 (by omega))
 ·have h':=ufl.1 (ucf h);have hk1:(k-1+1).toNat=k.toNat:=by omega
  have hI:InvT a q l c wh re (k-1):=⟨ha,hc,hw,hr,by omega,hl,⟨hq,h'⟩,by rw[hk1]; exact heq⟩;exact⟨hI,(by show(k-1+1).toNat<(k+1).toNat; omega),hI,hQ⟩
def Sl {a q l c wh re k q1 l1:Int} {Q:iW.Out->Prop} (hinv:InvT a q l c wh re k) (hk:0<=k) (h1:(l1=2*l/\q1=2*q)\/(l1=2*l-c/\q1=2*q+1)) (hl1:0<=l1/\l1<c)
  (hQ:(Jb (decide (a*(wh*c+re)/c>4000000000000000000)) (Jv (Rd.back ((0,0,false,()),()))) (Jv (Rd.out ((a*(wh*c+re)/c,a*(wh*c+re)%c,()),()))):Fr iW.Out).satP Q) :
  (kT a c wh re k q1 l1).satP (Gt Q k):=by
 obtain⟨ha,hc,hw,hr,hk0,hl,hq,heq⟩:=hinv;have hq1:0<=q1/\q1<=8000000000000000001:=by omega
 have hmin:min k.toNat I6.bits=k.toNat:=by
  have:I6.bits=64:=rfl;omega
 have hm0:0<=a/2 ^ k.toNat:=udi ha.1 (Int.pow_nonneg (by decide));have hshr:(a.fdiv (2 ^ min k.toNat I6.bits)).tmod 2=(a/2 ^ k.toNat)%2:=by
  rw[hmin,uag _ (Int.pow_nonneg (by decide)),Int.tmod_eq_emod_of_nonneg hm0]
 have hkk:(k+1).toNat=k.toNat+1:=by omega
 rw[hkk] at heq;have hhalf:=qnz ha.1 k.toNat;obtain⟨s0,s1⟩:=zeh hhalf heq h1;unfold kT;rw[hshr];refine⟨by omega,by decide,λhb=>?_,λhb=>?_⟩
 ·have hb':=eq_of_beq hb;obtain⟨t1,t2⟩:=s1 hb';have e1:dz (l1+re)=l1+re:=dn (by omega);have e2:dz (q1+wh)=q1+wh:=dn (by omega);have e3:dz (q1+wh+1)=q1+wh+1:=dn (by omega);rw[e1,e2,e3];refine⟨λhg=>?_,λhg=>?_⟩
  ·have hg':=ucv hg;have e4:dz (l1+re-c)=l1+re-c:=dn (by omega);rw[e4];exact JZ ha hc hw hr ⟨hk,hk0.2⟩ (by omega) (by omega) t2 hQ
  ·have hg':=ufk.1 (ucf hg);exact JZ ha hc hw hr ⟨hk,hk0.2⟩ (by omega) (by omega) t1 hQ
 ·have hb':=ud2 hb;exact JZ ha hc hw hr ⟨hk,hk0.2⟩ hl1 hq1.1 (s0 (by omega)) hQ
def qq4 {a q l c wh re k:Int} (hinv:InvT a q l c wh re k) (Q:iW.Out->Prop)
  (hQ:(Jb (decide (a*(wh*c+re)/c>4000000000000000000)) (Jv (Rd.back ((0,0,false,()),()))) (Jv (Rd.out ((a*(wh*c+re)/c,a*(wh*c+re)%c,()),()))):Fr iW.Out).satP Q) :
  (Io ((a,q,l,c,wh,re,k,()),())).satP (Gt Q k):=by
 have hi:=hinv;obtain⟨ha,hc,hw,hr,hk0,hl,hq,heq⟩:=hinv;have e1:dz (2*l)=2*l:=dn (by omega);have e2:dz (2*q)=2*q:=dn (by omega);have e3:dz (2*q+1)=2*q+1:=dn (by omega);dsimp only[Io];rw[e1,e2,e3];refine⟨λhk=>?_,λhk=>?_⟩
 ·have hk':=ucv hk;refine⟨λhg=>?_,λhg=>?_⟩
  ·have hg':=ucv hg;have e4:dz (2*l-c)=2*l-c:=dn (by omega);rw[e4];exact Sl hi hk' (.inr ⟨rfl,rfl⟩) (by omega) hQ
  ·have hg':=ufk.1 (ucf hg);exact Sl hi hk' (.inl ⟨rfl,rfl⟩) (by omega) hQ
 ·have hk':=ucf hk;have hk1:(k+1).toNat=0:=by omega
  rw[hk1,Int.pow_zero,Int.ediv_one] at heq;obtain⟨d1,d2⟩:=qf6 hc.1 heq hl;rw[d1,d2] at hQ;exact hQ.2 (udt (by omega))
def qsi:ah prog (.loop (aC f234 0)) uI iW Nv:=by
 refine ah.loop za5 (μ:=λx=>((x.1.2.2.2.2.2.2.1:Int)+1).toNat) ?_ (λx Q h=>h.1);rintro⟨⟨a,q,l,c,wh,re,k,_⟩,_⟩ hinv Q hq;exact qq4 hinv Q hq.2
def yF:Ct:=⟨[.d i64,.d i64,.d i64],[i64,i64,.bool],λx=>((jC x.1 x.2.1 x.2.2.1).1,(jC x.1 x.2.1 x.2.2.1).2.1,(jC x.1 x.2.1 x.2.2.1).2.2,()),λx=>[0<=x.1,0<=x.2.1,0<x.2.2.1]⟩
def z9 (x:aq [.d i64,.d i64,.d i64]):Fr (ae [i64,i64,.bool]):=
 let a:Int:=x.1; let b:Int:=dz x.2.1; let c:Int:=dz x.2.2.1
 Jd (c≠0) (Jd (c≠0)
  (Jd (InvT a 0 0 c (dz (b.tdiv c)) (b.tmod c) 62)
   (Jb (decide (a*(dz (b.tdiv c)*c+b.tmod c)/c>4000000000000000000)) (Jv (0,0,false,()))
    (Jv (I6.wrap (a*(dz (b.tdiv c)*c+b.tmod c)/c),I6.wrap (a*(dz (b.tdiv c)*c+b.tmod c)%c),true,())))))
def zeg:aa prog 234 (aL [.d i64,.d i64,.d i64] [i64,i64,.bool] z9):=
 bz eI qsi
def zee {a b c:Int} (ha:0<=a/\a<=9223372036854775807) (hb:0<=b/\b<=9223372036854775807) (hc:0<c/\c<=9223372036854775807) :
  (z9 (a,b,c,())).ok/\(z9 (a,b,c,())).get=((jC a b c).1,(jC a b c).2.1,(jC a b c).2.2,()):=by
 have e1:dz b=b:=dn (by omega);have e2:dz c=c:=dn (by omega);have hd0:=udi hb.1 (ues hc.1);have hd1:b/c<=b:=Int.ediv_le_self _ hb.1;have e3:dz (b.tdiv c)=b/c:=by rw[Int.tdiv_eq_ediv_of_nonneg hb.1]; exact dn (by omega)
 have e4:b.tmod c=b%c:=Int.tmod_eq_emod_of_nonneg hb.1;have hr0:=Int.emod_nonneg b (b:=c) (by omega);have hr1:=Int.emod_lt_of_pos b hc.1;have e5:b/c*c+b%c=b:=by rw[uez]; exact Int.mul_ediv_add_emod b c
 have hcz:c≠0:=by omega
 have hm62:a/2 ^ (62+1:Int).toNat=0:=by
  have:(2:Int) ^ (62+1:Int).toNat=9223372036854775808:=by decide
  rw[this];omega
 dsimp only[z9];rw[e1,e2,e3,e4];refine au hcz (au hcz (au ⟨ha,hc,⟨hd0,by omega⟩,⟨hr0,hr1⟩,by decide,⟨ufb _,hc.1⟩,by decide,by rw[hm62]; simp⟩ ?_));rw[e5];unfold jC;by_cases hg:a*b/c>4000000000000000000
 ·rw[if_pos hg];exact ay (ud8 hg) ⟨uT,rfl⟩
 ·rw[if_neg hg];refine ax (udt hg) ⟨uT,?_⟩;have p0:=ud9 ha.1 hb.1;have p1:=udi p0 (ues hc.1);have p2:=Int.emod_nonneg (a*b) hcz;have p3:=Int.emod_lt_of_pos (a*b) hc.1;have w1:I6.wrap (a*b/c)=a*b/c:=IntWalk.i64_in _ (by omega);have w2:I6.wrap (a*b%c)=a*b%c:=IntWalk.i64_in _ (by omega);show(I6.wrap (a*b/c),I6.wrap (a*b%c),true,())=(a*b/c,a*b%c,true,());rw[w1,w2]
def zef:aa prog 234 yF:=
 cg zeg _ _ (λw F x vs hr hok=>by
  obtain⟨v1,vs1,rfl,h1,v2,vs2,rfl,h2,v3,vs3,rfl,h3,_⟩:=hr;obtain⟨q1,q2,q3⟩:=hok;exact zee ⟨q1,(nb h1).2⟩ ⟨q2,(nb h2).2⟩ ⟨q3,(nb h3).2⟩)
open Go.Ab.Fr renaming val->Jv,need->Jd,br->Jb
def jQ (a b c:Int):Int:=if a<0\/b<0\/c<0 then 1 else if c=0 then 6 else 0
def yq:Ct:=⟨[.d i64,.d i64,.d i64],[i64],λx=>(jQ x.1 x.2.1 x.2.2.1,()),λ_=>[]⟩
def De (x:aq [.d i64,.d i64,.d i64]):Fr (ae [i64]):=
 Jb (bif bif decide (x.1<0) then true else decide (x.2.1<0) then true else decide (x.2.2.1<0)) (Jv (1,())) (Jb (x.2.2.1==0) (Jv (6,())) (Jv (0,())))
def qcn (a b c:Int):(De (a,b,c,())).ok/\(De (a,b,c,())).get=(jQ a b c,()):=by
 unfold De jQ;simp only[G3];by_cases hn:a<0\/b<0\/c<0
 ·rw[if_pos hn];exact ay (by simpa using hn) ⟨uT,rfl⟩
 ·rw[if_neg hn];refine ax (by simpa using hn) ?_;by_cases hc:c=0
  ·rw[if_pos hc];exact ay (ufh.2 hc) ⟨uT,rfl⟩
  ·rw[if_neg hc];exact ax (ubu.2 hc) ⟨uT,rfl⟩
def qco:aa prog 233 yq:=
 flat (ps:=[.d i64,.d i64,.d i64]) (rs:=[i64]) (aJ (cs:=[]) (ps:=[]) aG trivial trivial) (fn:=f233) (fr:=De) (0,0,0,()) (by kernel_rfl) (λx=>by kernel_rfl) _ _
  (λ_ _ x _ _ _=>by
   obtain⟨a,b,c,_⟩:=x;exact qcn a b c)
noncomputable def WU:Cx:=cx [(233,yq),(234,yF)] []
def WV:CxOK prog WU:=aJ aG ⟨qco,zef,uT⟩ trivial
def oS (q l:Int) (is:Bool) (c:Int):Fr (ae [i64,i64]):=
 let a:=l>I6.wrap (c-l);Jd ((l==I6.wrap (c-l))=true->decide a=false->is=true->(2:Int)≠0)
  (Jb (bif is then bif decide a then true else bif l==I6.wrap (c-l) then Int.tmod q 2==1 else false else false)
   (Jb (bif !is then true else decide (I6.wrap (q+1)>4000000000000000000)) (Jv (0,5,())) (Jv (I6.wrap (q+1),0,())))
   (Jb (bif !is then true else decide (q>4000000000000000000)) (Jv (0,5,())) (Jv (q,0,()))))
def Di (x:aq [.d i64,.d i64,.d i64]):Fr (ae [i64,i64]):=
 let a:=(x.1,x.2.1,x.2.2.1,());let b:=yF.f a;Jb ((yq.f a).1 != 0) (Jv (0,(yq.f a).1,()))
  (Jd (0<=x.1) (Jd (0<=x.2.1) (Jd (0<x.2.2.1)
   (oS b.1 b.2.1 b.2.2.1 x.2.2.1))))
def zl (q l c:Int):Int:=if l>c-l\/(l=c-l/\q%2=1) then q+1 else q
def qgx {q l c:Int} (hq:0<=q/\q<=4000000000000000000) (hl:0<=l/\l<c) (hc:c<=9223372036854775807) :
  (oS q l true c).ok/\(oS q l true c).get=if zl q l c>4000000000000000000 then (0,5,()) else (zl q l c,0,()):=by
 have w1:I6.wrap (c-l)=c-l:=IntWalk.i64_in _ (by omega);have w2:I6.wrap (q+1)=q+1:=IntWalk.i64_in _ (by omega);have w3:Int.tmod q 2=q%2:=Int.tmod_eq_emod_of_nonneg hq.1;unfold oS zl;rw[w1,w2,w3];refine au (λ_ _ _=>by decide) ?_;by_cases h:l>c-l\/(l=c-l/\q%2=1)
 ·rw[if_pos h];refine ay ?_ ?_
  ·show(bif decide (l>c-l) then true else bif l==c-l then q%2==1 else false)=true;rcases h with h|⟨h,h'⟩
   ·rw[ud8 h];rfl
   ·rw[ufh.2 h,h'];cases decide (l>c-l)<;>rfl
  ·by_cases hg:q+1>4000000000000000000
   ·rw[if_pos hg];exact ay (ud8 hg) ⟨uT,rfl⟩
   ·rw[if_neg hg];exact ax (udt hg) ⟨uT,rfl⟩
 ·rw[if_neg h];refine ax ?_ ?_
  ·show(bif decide (l>c-l) then true else bif l==c-l then q%2==1 else false)=false;have h1:¬ l>c-l:=λhh=>h (.inl hh);rw[udt h1];by_cases h2:l=c-l
   ·have h3:¬ q%2=1:=λhh=>h (.inr ⟨h2,hh⟩);show(bif l==c-l then q%2==1 else false)=false;rw[ubu.2 h3];cases l==c-l<;>rfl
   ·show(bif l==c-l then q%2==1 else false)=false;rw[ubu.2 h2];rfl
  ·have hg:¬ q>4000000000000000000:=by omega
   rw[if_neg hg];exact ax (udt hg) ⟨uT,rfl⟩
def qgw {c:Int}:(oS 0 0 false c).ok/\(oS 0 0 false c).get=(0,5,()):=by
 unfold oS;exact au (λ_ _ h=>by cases h) (ax rfl (ay rfl ⟨uT,rfl⟩))
def Cn:Ct:=⟨[.d i64,.d i64,.d i64],[i64,i64],λx=>((cV x.1 x.2.1 x.2.2.1).1,(cV x.1 x.2.1 x.2.2.1).2,()),λ_=>[]⟩
def qgu {a b c:Int} (hc:c<=9223372036854775807):(Di (a,b,c,())).ok/\(Di (a,b,c,())).get=((cV a b c).1,(cV a b c).2,()):=by
 unfold Di cV;have e:(yq.f (a,b,c,())).1=jQ a b c:=rfl;show(Jb ((jQ a b c) != 0) (Jv (0,jQ a b c,())) _).ok/\(Jb ((jQ a b c) != 0) (Jv (0,jQ a b c,())) _).get=_;by_cases hn:a<0\/b<0\/c<0
 ·have h1:jQ a b c=1:=if_pos hn;rw[h1,if_pos hn];exact ay rfl ⟨uT,rfl⟩
 ·by_cases hz:c=0
  ·have h1:jQ a b c=6:=by unfold jQ; rw[if_neg hn,if_pos hz]
   rw[h1,if_neg hn,if_pos hz];exact ay rfl ⟨uT,rfl⟩
  ·have h1:jQ a b c=0:=by unfold jQ; rw[if_neg hn,if_neg hz]
   rw[h1,if_neg hn,if_neg hz];have ha:0<=a:=by omega
   have hb:0<=b:=by omega
   have hc0:0<c:=by omega
   refine ax rfl (au ha (au hb (au hc0 ?_)));show(oS (jC a b c).1 (jC a b c).2.1 (jC a b c).2.2 c).ok/\(oS (jC a b c).1 (jC a b c).2.1 (jC a b c).2.2 c).get=_;have hp:0<=a*b:=ud9 ha hb;have hq:=udi hp (ues hc0);have r1:=Int.emod_nonneg (a*b) (b:=c) hz;have r2:=Int.emod_lt_of_pos (a*b) hc0;have hev:gp (a*b) c=zl (a*b/c) (a*b%c) c:=rfl;unfold jC;by_cases hg:a*b/c>4000000000000000000
   ·rw[if_pos hg];have hbig:gp (a*b) c>4000000000000000000:=by
     rw[hev];unfold zl;split<;>omega
    rw[if_pos hbig];exact qgw
   ·rw[if_neg hg];have:=qgx (q:=a*b/c) (l:=a*b%c) (c:=c) ⟨hq,by omega⟩ ⟨r1,r2⟩ hc;refine⟨this.1,this.2.trans ?_⟩;rw[<- hev];split<;>rfl
def qg7:aa prog 227 Cn:=
 cg (aH WV f227 (fr:=Di) (ps:=[.d i64,.d i64,.d i64]) (rs:=[i64,i64])) _ _
  (λw F x vs hr _=>by
   obtain⟨a,b,c,_⟩:=x;obtain⟨v1,vs1,rfl,h1,v2,vs2,rfl,h2,v3,vs3,rfl,h3,_⟩:=hr;exact qgu (nb h3).2)
noncomputable def WW:Cx:=cx [(227,Cn)] []
def WX:CxOK prog WW:=aJ aG ⟨qg7,uT⟩ trivial
def NZ:aa prog 214 gj:=
 flat (ps:=[.d i64,.d i64]) (rs:=[i64,i64]) WX (fn:=f214) (fr:=λx=>Jv ((Cn.f (x.1,x.2.1,10000,())).1,(Cn.f (x.1,x.2.1,10000,())).2.1,())) (0,0,()) (by kernel_rfl) (λx=>by kernel_rfl) _ _
  (λ_ _ x _ _ _=>⟨uT,rfl⟩)
open Go.Ab.Fr renaming val->Jv,need->Jd,br->Jb
noncomputable def XW:Cx:=cx [(239,mN),(238,pY)] []
def M8:CxOK prog XW:=aJ aG ⟨Qj,TM,uT⟩ trivial
abbrev p7:Pt:=⟨73,0,⟨[(3,.d i64)],[.x 1 132 az,.r 1 1 0]⟩,⟨[],[.x 1 132 az,.r 1 1 0]⟩,⟨[(2,.d .bool)],[]⟩⟩
def eU (v:az.den):List Int:=[v.2.1.1,v.2.1.2.1,v.2.1.2.2.1,v.2.1.2.2.2.1]
def f7 (x:p7.M.X):Fr p7.Out:=
 let k:Int:=x.1.1; let v:az.den:=x.2.1
 Jb (decide (k<4))
  (Jd (0<=k/\k<((4:Nat):Int)) (Jd (decide ((eU v).getD k.toNat 0<0)=false->0<=k/\k<((4:Nat):Int))
   (Jb (bif decide ((eU v).getD k.toNat 0<0) then true else decide ((eU v).getD k.toNat 0>100000)) (Jv (Rd.back ((false,()),()))) (Jv (Rd.next ((I6.wrap (k+1),()),(v,())))))))
  (Jv (Rd.out ((),(v,()))))
def zai:ah prog (aC f236 0) p7.M p7 f7:=ah.of_run M8 (bs:=0) rfl rfl rfl (λ_=>bL _ 0) (λx=>by kernel_rfl)
def uD (k:Int):Prop:=0<=k/\k<=4
def F7 (x:p7.M.X):Fr p7.Out:=Jd (uD x.1.1) (Jb (cY ((eU x.2.1).drop x.1.1.toNat)) (Jv (Rd.out ((),(x.2.1,())))) (Jv (Rd.back ((false,()),()))))
def qhg (n:Int) (l:List Int):cY (n::l)=(!(bif decide (n<0) then true else decide (n>100000))&&cY l):=by
 have:decide (0<=n/\n<=100000) = !(bif decide (n<0) then true else decide (n>100000)):=by
  rw[udv];simp
 unfold cY;rw[ueh,this]
def qp4 (k:Int) (v:az.den) (hinv:uD k) (Q:p7.Out->Prop) (hq:(Jb (cY ((eU v).drop k.toNat)) (Jv (Rd.out ((),(v,())))) (Jv (Rd.back ((false,()),()))):Fr p7.Out).satP Q) :
  (f7 ((k,()),(v,()))).satP λ
   |.next x'=>uD x'.1.1/\(4-x'.1.1).toNat<(4-k).toNat/\(F7 x').satP Q
   |.out y=>Q (.out y)
   |.back z=>Q (.back z)
   |.pan p=>Q (.pan p):=by
 obtain⟨h1,h2⟩:=hinv;refine⟨λhi=>?_,λhi=>?_⟩
 ·have hi':k<4:=ucv hi;obtain⟨k,rfl⟩:∃ n:Nat,k=n:=⟨k.toNat,by omega⟩;have hl:k<(eU v).length:=by show k<4; omega
  have hw:I6.wrap ((k:Int)+1)=k+1:=IntWalk.i64_in _ (by omega);have g1:(eU v).getD (k:Int).toNat 0=(eU v)[k]:=by
   rw[show(k:Int).toNat=k by omega,uah,uap hl]; rfl
  have hd:(eU v).drop (k:Int).toNat=(eU v)[k]::(eU v).drop (k+1):=by
   exact ual hl
  rw[hd] at hq;rw[g1,hw];have hf:cY ((eU v)[k]::(eU v).drop (k+1))=(!(bif decide ((eU v)[k]<0) then true else decide ((eU v)[k]>100000))&&cY ((eU v).drop (k+1))):=qhg _ _;refine⟨⟨by omega,by omega⟩,λ_=>⟨by omega,by omega⟩,λhb=>?_,λhb=>?_⟩
  ·rw[hb] at hf;exact hq.2 hf
  ·rw[hb] at hf;have hf':=hf;rw[hf'] at hq;have hI:uD ((k:Int)+1):=⟨by omega,by omega⟩;refine⟨hI,by show(4-((k:Int)+1)).toNat<(4-(k:Int)).toNat; omega,hI,?_⟩;have:((k:Int)+1).toNat=k+1:=by omega
   exact hq
 ·have hi':¬ k<4:=ucf hi;have:k=4:=by omega
  subst this;exact hq.1 rfl
def qrk:ah prog (.loop (aC f236 0)) p7.M p7 F7:=by
 refine ah.loop zai (μ:=λx=>(4-x.1.1).toNat) ?_ (λx Q h=>h.1);rintro⟨⟨k,_⟩,v,_⟩ hinv Q hq;exact qp4 k v hinv Q hq.2
def Fb (x:aq [.d az]):Fr (ae [.bool]):=
 let v:az.den:=x.1
 Jd (uD 0) (Jb (cY ((eU v).drop (0:Int).toNat))
  (Jb (rG v.1 v.2.2.2.2.2.1) (Jv (false,()))
   (Jb (rH v.2.2.1.length v.2.2.2.1.length v.2.2.2.2.1.length) (Jv (false,()))
    (Jv (bif bif (pY.f (v.2.2.1,())).1 then (mN.f (v.2.2.2.1,())).1 else false then (mN.f (v.2.2.2.2.1,())).1 else false,()))))
  (Jv (false,())))
def ze5:aa prog 236 qe:=
 cg (bz M8 qrk (fr:=Fb)) _ _
  (λ_ _ x _ _ _=>by
   obtain⟨v,_⟩:=x;unfold jF;rw[<- Wl];refine au ⟨by decide,by decide⟩ ?_;have eb:cY [v.2.1.1,v.2.1.2.1,v.2.1.2.2.1,v.2.1.2.2.2.1]=cY ((eU v).drop (0:Int).toNat):=rfl;rw[eb];cases h0:cY ((eU v).drop (0:Int).toNat) with
   |false=>
    refine ax rfl ⟨uT,ufw ?_ rfl⟩;cases (!(rG v.1 v.2.2.2.2.2.1 || rH v.2.2.1.length v.2.2.2.1.length v.2.2.2.2.1.length))<;>rfl
   |true=>
    refine ay rfl ?_;cases h1:rG v.1 v.2.2.2.2.2.1 with
    |true=>exact ay rfl ⟨uT,rfl⟩
    |false=>
     refine ax rfl ?_;cases h2:rH v.2.2.1.length v.2.2.2.1.length v.2.2.2.2.1.length with
     |true=>exact ay rfl ⟨uT,rfl⟩
     |false=>
      refine ax rfl ⟨uT,ufw ?_ rfl⟩;show(bif bif mL v.2.2.1 then cY v.2.2.2.1 else false then cY v.2.2.2.2.1 else false)=(true&&(true&&(cY v.2.2.2.1&&(cY v.2.2.2.2.1&&mL v.2.2.1))));cases mL v.2.2.1<;>cases cY v.2.2.2.1<;>cases cY v.2.2.2.2.1<;>rfl)
noncomputable def XX:Cx:=cx [(236,qe),(165,iF),(195,jO),(237,Cf),(214,gj)] []
def M9:CxOK prog XX:=aJ aG ⟨ze5,Up,OW,qbh,NZ,uT⟩ trivial
abbrev p9:Pt:=⟨85,0,⟨[(10,.d i64),(8,.d bE),(9,.d i64)],[.x 3 132 az,.r 3 3 0]⟩,⟨[(9,.d i64)],[.x 3 132 az,.r 3 3 0]⟩,⟨[(6,.d i64),(7,.d i64)],[]⟩⟩
def f9 (x:p9.M.X):Fr p9.Out:=
 let k:Int:=x.1.1; let l:List Int:=x.1.2.1; let m:Int:=x.1.2.2.1; let v:az.den:=x.2.1
 Jb (decide (k<(l.length:Int)))
  (Jd (0<=k/\k<(l.length:Int))
   (Jb ((gj.f (m,l.getD k.toNat 0,())).2.1 != 0) (Jv (Rd.back ((0,(gj.f (m,l.getD k.toNat 0,())).2.1,()),())))
    (Jv (Rd.next ((I6.wrap (k+1),l,(gj.f (m,l.getD k.toNat 0,())).1,()),(v,()))))))
  (Jv (Rd.out ((m,()),(v,()))))
def zaj:ah prog (aC f229 0) p9.M p9 f9:=ah.of_run M9 (bs:=0) rfl rfl rfl (λ_=>bL _ 0) (λx=>by kernel_rfl)
def uE (k:Int) (l:List Int):Prop:=0<=k/\k<=l.length/\(l.length:Int)<=9223372036854775807
def K6 (v:az.den) (r:Int×Int):Fr p9.Out:=Jb (r.2 != 0) (Jv (Rd.back ((0,r.2,()),()))) (Jv (Rd.out ((r.1,()),(v,()))))
def F9 (x:p9.M.X):Fr p9.Out:=Jd (uE x.1.1 x.1.2.1) (K6 x.2.1 (cN (x.1.2.1.drop x.1.1.toNat) x.1.2.2.1))
def qp5 (k:Int) (l:List Int) (m:Int) (v:az.den) (hinv:uE k l) (Q:p9.Out->Prop) (hq:(K6 v (cN (l.drop k.toNat) m)).satP Q) :
  (f9 ((k,l,m,()),(v,()))).satP λ
   |.next x'=>uE x'.1.1 x'.1.2.1/\((List.length (α:=Int) x'.1.2.1:Int)-x'.1.1).toNat<((l.length:Int)-k).toNat/\(F9 x').satP Q
   |.out y=>Q (.out y)
   |.back z=>Q (.back z)
   |.pan p=>Q (.pan p):=by
 obtain⟨h1,h2,h3⟩:=hinv;refine⟨λhi=>?_,λhi=>?_⟩
 ·have hi':k<(l.length:Int):=ucv hi;obtain⟨k,rfl⟩:∃ n:Nat,k=n:=⟨k.toNat,by omega⟩;have hl:k<l.length:=by omega
  have hw:I6.wrap ((k:Int)+1)=k+1:=IntWalk.i64_in _ (by omega);have g1:l.getD (k:Int).toNat 0=l[k]:=by
   rw[show(k:Int).toNat=k by omega,uah,uap hl]; rfl
  have hd:l.drop (k:Int).toNat=l[k]::l.drop (k+1):=by
   exact ual hl
  rw[hd] at hq;rw[g1,hw];refine⟨⟨by omega,by omega⟩,λhb=>?_,λhb=>?_⟩
  ·have hb':=ufm.1 hb;have e:cN (l[k]::l.drop (k+1)) m=dP m l[k]:=if_neg hb';rw[e] at hq;exact hq.1 hb
  ·have hb':(dP m l[k]).2=0:=by
    have:((dP m l[k]).2 != 0)=false:=hb;simpa using this
   have e:cN (l[k]::l.drop (k+1)) m=cN (l.drop (k+1)) (dP m l[k]).1:=if_pos hb';rw[e] at hq;have hI:uE ((k:Int)+1) l:=⟨by omega,by omega,h3⟩;refine⟨hI,by show((l.length:Int)-((k:Int)+1)).toNat<((l.length:Int)-(k:Int)).toNat; omega,hI,?_⟩;have:((k:Int)+1).toNat=k+1:=by omega
   exact hq
 ·have hi':¬ k<(l.length:Int):=ucf hi;have:l.drop k.toNat=[]:=ua0 (by omega);rw[this] at hq;exact hq.2 rfl
def qrl:ah prog (.loop (aC f229 0)) p9.M p9 F9:=by
 refine ah.loop zaj (μ:=λx=>((List.length x.1.2.1:Int)-x.1.1).toNat) ?_ (λx Q h=>h.1);rintro⟨⟨k,l,m,_⟩,v,_⟩ hinv Q hq;exact qp5 k l m v hinv Q hq.2
def zz (x:aq [.d az,.d cj,.d ak]):Fr (ae [i64,i64]):=
 let g:=x.2.2.1;let c:=x.2.1.2.2.2.1;let b:=x.1.2.2.2;let a:=cN ((eP x.1 x.2.1 g).drop (0:Int).toNat) x.2.1.2.1;Jb (bif bif !(qe.f (x.1,())).1 then true else !(iF.f (x.2.1,())).1 then true else !(jO.f (g,())).1) (Jv (0,1,()))
  (Jb (decide (c>=b.1.length)) (Jv (0,7,()))
   (Jd (0<=x.2.1.1/\x.2.1.1<((4:Nat):Int))
    (Jd (0<=c/\c<b.1.length)
     (Jd (0<=g.1/\g.1<b.2.1.length)
      (Jd (uE 0 (eP x.1 x.2.1 g))
       (Jb (a.2 != 0) (Jv (0,a.2,()))
        (Jb (decide (a.1<b.2.2.1)) (Jv (b.2.2.1,0,())) (Jv (a.1,0,())))))))))
def qv1:aa prog 229 (aL [.d az,.d cj,.d ak] [i64,i64] zz):=
 bz M9 qrl
def qvz (v:az.den) (k val a z:Int) (c:ak.den):(zz (v,(k,val,a,z,()),c,())).ok/\(zz (v,(k,val,a,z,()),c,())).get=((cq v (k,val,a,z,()) c).1,(cq v (k,val,a,z,()) c).2,()):=by
 obtain⟨p,l,g,d,s,_⟩:=c;unfold cq;have e0:(bif bif !(qe.f (v,())).1 then true else !(iF.f ((k,val,a,z,()),())).1 then true else !(jO.f ((p,l,g,d,s,()),())).1) = !(jF v&&(jA k val a z&&kG p l g d s)):=SO _ _ _;by_cases h:(jF v&&(jA k val a z&&kG p l g d s))=true
 ·rw[if_pos h];refine ax (by rw[e0,h]; rfl) ?_;rw[uc9,uc9] at h;obtain⟨h1,h2,h3⟩:=h;obtain⟨r1,r2,r3⟩:=Uq h2;obtain⟨c1,c2⟩:=OX h3;have hp:=Wi h1;by_cases hz:z>=(v.2.2.2.1.length:Int)
  ·rw[if_pos hz];exact ay (ud8 hz) ⟨uT,rfl⟩
  ·rw[if_neg hz];have hz':=ufk.1 hz;refine ax (udt hz) (au ⟨r1,by omega⟩ (au ⟨r3,hz'⟩ (au ⟨c1,?_⟩ (au ⟨ufb _,ub2 _,(by show(5:Int)<=9223372036854775807; decide)⟩ ?_))))
   ·show p<(v.2.2.2.2.1.length:Int);rw[hp];exact c2
   ·have ed:(eP v (k,val,a,z,()) (p,l,g,d,s,())).drop (0:Int).toNat=eP v (k,val,a,z,()) (p,l,g,d,s,()):=rfl;by_cases hb:(cN (eP v (k,val,a,z,()) (p,l,g,d,s,())) val).2=0
    ·have hb':((cN (eP v (k,val,a,z,()) (p,l,g,d,s,())) val).2 != 0)=false:=by rw[hb]; rfl
     rw[if_pos hb];refine ax hb' ?_;by_cases hm:(cN (eP v (k,val,a,z,()) (p,l,g,d,s,())) val).1<v.2.2.2.2.2.1
     ·exact ay (ud8 hm) ⟨uT,ufw (if_pos hm).symm rfl⟩
     ·exact ax (udt hm) ⟨uT,ufw (if_neg hm).symm rfl⟩
    ·have hb':=ufm.2 hb;rw[if_neg hb];exact ay hb' ⟨uT,rfl⟩
 ·rw[if_neg h];simp only[Bool.not_eq_true] at h;exact ay (by rw[e0,h]; rfl) ⟨uT,rfl⟩
def qv0:aa prog 229 jf:=
 cg qv1 _ _ (λ_ _ x _ _ _=>by
  obtain⟨v,⟨k,val,a,z,_⟩,c,_⟩:=x;exact qvz v k val a z c)
open Go.Ab.Fr renaming val->Jv,need->Jd,br->Jb
noncomputable def XY:Cx:=cx [(229,jf),(230,Cy)] []
def MA:CxOK prog XY:=aJ aG ⟨qv0,zcw,uT⟩ trivial
abbrev nB:Pt:=⟨45,0,⟨[(9,.d i64),(2,.d (.sl ak))],[.x 3 132 az,.r 3 3 0,.x 4 33 cj,.r 4 4 0,.o 8 3 i64]⟩,⟨[],[.o 8 3 i64]⟩,⟨[(6,.d i64),(7,.d i64)],[]⟩⟩
set_option maxRecDepth 100000 in
def Ut (n m:Nat):Prop:=n+m<=maxLen/\(n+m)*prog.types[3].bytes<=140737488355328
set_option maxRecDepth 100000 in
def qb2:prog.types[3].bytes<=8:=by decide
def qzn {n m:Nat} (h:n+m<=1000000):Ut n m:=by
 refine⟨?_,uen (uec h qb2) (by decide)⟩;unfold maxLen;omega
def Iq (x:nB.M.X):Fr nB.Out:=
 let k:Int:=x.1.1; let l:List ak.den:=x.1.2.1; let v:az.den:=x.2.1; let r:cj.den:=x.2.2.1; let o:List Int:=x.2.2.2.1
 Jb (decide (k<(l.length:Int)))
  (Jd (0<=k/\k<(l.length:Int))
   (Jb ((jf.f (v,r,l.getD k.toNat ak.dflt,())).2.1 != 0) (Jv (Rd.back ((0,(jf.f (v,r,l.getD k.toNat ak.dflt,())).2.1,()),())))
    (Jd (Ut o.length [(jf.f (v,r,l.getD k.toNat ak.dflt,())).1].length)
     (Jv (Rd.next ((I6.wrap (k+1),l,()),(v,r,o++[(jf.f (v,r,l.getD k.toNat ak.dflt,())).1],())))))))
  (Jv (Rd.out ((),(o,()))))
def zbb:ah prog (aC f220 0) nB.M nB Iq:=ah.of_run MA (bs:=0) rfl rfl rfl (λ_=>bL _ 0) (λx=>by kernel_rfl)
def fl (v:az.den) (r:cj.den):List ak.den->Int
 |[]=>0
 |c::l=>if (cq v r c).2=0 then fl v r l else (cq v r c).2
def fG (v:az.den) (r:cj.den) (l:List ak.den):List Int:=l.map λc=>(cq v r c).1
structure InYr (k:Int) (l:List ak.den) (o:List Int):Prop where
 k0:0<=k
 kl:k<=l.length
 room:o.length+(l.length-k.toNat)<=1000000
 big:l.length<=1000000
def K9 (e:Int) (o:List Int):Fr nB.Out:=Jb (e != 0) (Jv (Rd.back ((0,e,()),()))) (Jv (Rd.out ((),(o,()))))
def N0 (x:nB.M.X):Fr nB.Out:=Jd (InYr x.1.1 x.1.2.1 x.2.2.2.1) (K9 (fl x.2.1 x.2.2.1 (x.1.2.1.drop x.1.1.toNat)) (x.2.2.2.1++fG x.2.1 x.2.2.1 (x.1.2.1.drop x.1.1.toNat)))
def qq8 (k:Int) (l:List ak.den) (v:az.den) (r:cj.den) (o:List Int) (hinv:InYr k l o) (Q:nB.Out->Prop) (hq:(K9 (fl v r (l.drop k.toNat)) (o++fG v r (l.drop k.toNat))).satP Q) :
  (Iq ((k,l,()),(v,r,o,()))).satP λ
   |.next x'=>InYr x'.1.1 x'.1.2.1 x'.2.2.2.1/\((List.length (α:=ak.den) x'.1.2.1:Int)-x'.1.1).toNat<((l.length:Int)-k).toNat/\(N0 x').satP Q
   |.out y=>Q (.out y)
   |.back z=>Q (.back z)
   |.pan p=>Q (.pan p):=by
 obtain⟨h1,h2,h3,h4⟩:=hinv;refine⟨λhi=>?_,λhi=>?_⟩
 ·have hi':k<(l.length:Int):=ucv hi;obtain⟨k,rfl⟩:∃ n:Nat,k=n:=⟨k.toNat,by omega⟩;have hl:k<l.length:=by omega
  have hk:(k:Int).toNat=k:=by omega
  rw[hk] at hq h3;have hw:I6.wrap ((k:Int)+1)=k+1:=IntWalk.i64_in _ (by omega);have g1:l.getD (k:Int).toNat ak.dflt=l[k]:=by
   rw[hk,uah,uap hl]; rfl
  rw[ual hl] at hq;rw[g1,hw];refine⟨⟨by omega,by omega⟩,λhb=>?_,λhb=>?_⟩
  ·have hb':=ufm.1 hb;have e:fl v r (l[k]::l.drop (k+1))=(cq v r l[k]).2:=if_neg hb';rw[e] at hq;exact hq.1 hb
  ·have hb':(cq v r l[k]).2=0:=by
    have:((cq v r l[k]).2 != 0)=false:=hb;simpa using this
   have e:fl v r (l[k]::l.drop (k+1))=fl v r (l.drop (k+1)):=if_pos hb';have e2:o++fG v r (l[k]::l.drop (k+1))=(o++[(cq v r l[k]).1])++fG v r (l.drop (k+1)):=by
    rw[ucp];rfl
   rw[e,e2] at hq;have hk1:((k:Int)+1).toNat=k+1:=by omega
   have hI:InYr ((k:Int)+1) l (o++[(cq v r l[k]).1]):=⟨by omega,by omega,by rw[hk1,ub4,ua5]; omega,h4⟩;refine⟨qzn (by show o.length+1<=_; omega),hI,by show((l.length:Int)-((k:Int)+1)).toNat<((l.length:Int)-(k:Int)).toNat; omega,hI,?_⟩;exact hq
 ·have hi':¬ k<(l.length:Int):=ucf hi;have:l.drop k.toNat=[]:=ua0 (by omega);rw[this] at hq;have hq2:Q (Rd.out ((),(o++[],()))):=hq.2 rfl;rw[udp] at hq2;exact hq2
def qsm:ah prog (.loop (aC f220 0)) nB.M nB N0:=by
 refine ah.loop zbb (μ:=λx=>((List.length x.1.2.1:Int)-x.1.1).toNat) ?_ (λx Q h=>h.1);rintro⟨⟨k,l,_⟩,v,r,o,_⟩ hinv Q hq;exact qq8 k l v r o hinv Q hq.2
def Dx (x:aq [.d az,.d cj,.d (.sl ak)]):Fr (ae [i64,i64]):=
 let v:az.den:=x.1; let r:cj.den:=x.2.1; let l:List ak.den:=x.2.2.1
 let o:List Int:=[]++fG v r (l.drop (0:Int).toNat)
 Jd (InYr 0 l []) (Jb (fl v r (l.drop (0:Int).toNat) != 0) (Jv (0,fl v r (l.drop (0:Int).toNat),()))
  (Jd (∀ e∈o,(0:Int)<=e) (Jb (!(Cy.f (o,())).2.1) (Jv (0,5,())) (Jv ((Cy.f (o,())).1,0,())))))
def zfm:aa prog 220 (aL [.d az,.d cj,.d (.sl ak)] [i64,i64] Dx):=
 bz MA qsm
def Fw (v:az.den) (r:cj.den):(l:List ak.den)->(q:Int)->(b:Bool)->(cM v r l q b).2.2=fl v r l
 |[],_,_=>rfl
 |c::l,q,b=>by
  unfold cM fl;split
  ·split
   ·split
    ·exact Fw v r l _ _
    ·exact Fw v r l _ _
   ·exact Fw v r l _ _
  ·rfl
def Ww (v:az.den) (r:cj.den):(l:List ak.den)->(q:Int)->fl v r l=0->(cM v r l q false).2.1=false
 |[],_,_=>rfl
 |c::l,q,h=>by
  unfold fl at h;unfold cM;split
  ·rename_i h1;rw[if_pos h1] at h;exact Ww v r l q h
  ·rfl
def DZ (v:az.den) (r:cj.den):(l:List ak.den)->fl v r l=0->∀ e∈fG v r l,(0:Int)<=e
 |[],_,_,he=>by cases he
 |c::l,h,e,he=>by
  unfold fl at h;by_cases h1:(cq v r c).2=0
  ·rw[if_pos h1] at h;rcases ueg.1 he with rfl|he
   ·exact Ky h1
   ·exact DZ v r l h e he
  ·rw[if_neg h1] at h;exact absurd h h1
def Vy:(l:List Int)->(∀ e∈l,(0:Int)<=e)->0<=l.sum
 |[],_=>ufb 0
 |a::l,h=>by
  rw[List.sum_cons];have:=Vy l (λe he=>h e (ubg _ he));have:=h a (uca ..);omega
def Wx (v:az.den) (r:cj.den):(l:List ak.den)->(q:Int)->0<=q->q<=4000000000000000000->fl v r l=0 ->
  (q+(fG v r l).sum<=4000000000000000000->(cM v r l q true).2.1=true/\(cM v r l q true).1=q+(fG v r l).sum)/\(¬ q+(fG v r l).sum<=4000000000000000000->(cM v r l q true).2.1=false)
 |[],q,_,h2,_=>by
  refine⟨λ_=>⟨rfl,?_⟩,λh=>absurd ?_ h⟩
  ·show q=q+0;omega
  ·show q+0<=_;omega
 |c::l,q,h1,h2,h=>by
  unfold fl at h;by_cases h3:(cq v r c).2=0
  ·rw[if_pos h3] at h;have hs:(fG v r (c::l)).sum=(cq v r c).1+(fG v r l).sum:=by
    show List.sum ((cq v r c).1::fG v r l)=_;rw[List.sum_cons]
   have hsp:=Vy (fG v r l) (DZ v r l h);have hc:=Ky h3;unfold cM;rw[if_pos h3,if_pos rfl,hs];by_cases h4:(cq v r c).1>4000000000000000000-q
   ·rw[if_pos h4];exact⟨λhh=>absurd hh (by omega),λ_=>Ww v r l q h⟩
   ·rw[if_neg h4];obtain⟨ih1,ih2⟩:=Wx v r l (q+(cq v r c).1) (by omega) (by omega) h;refine⟨λhh=>?_,λhh=>ih2 (by omega)⟩;obtain⟨j1,j2⟩:=ih1 (by omega);exact⟨j1,by rw[j2]; omega⟩
  ·rw[if_neg h3] at h;exact absurd h h3
def yJ:Ct:=⟨[.d az,.d cj,.d (.sl ak)],[i64,i64],λx=>((kr x.1 x.2.1 x.2.2.1).1,(kr x.1 x.2.1 x.2.2.1).2,()),λx=>[List.length (α:=ak.den) x.2.2.1<=1000000]⟩
def zfk (v:az.den) (r:cj.den) (l:List ak.den) (hl:l.length<=1000000):(Dx (v,r,l,())).ok/\(Dx (v,r,l,())).get=((kr v r l).1,(kr v r l).2,()):=by
 refine au ⟨ufb _,ub2 _,by show 0+(l.length-0)<=_; omega,hl⟩ ?_;show(Jb (fl v r l != 0) (Jv (0,fl v r l,())) (Jd (∀ e∈fG v r l,(0:Int)<=e) (Jb (!(oq (fG v r l)).2) (Jv (0,5,())) (Jv ((oq (fG v r l)).1,0,())))):Fr (ae [i64,i64])).ok/\(Jb (fl v r l != 0) (Jv (0,fl v r l,())) (Jd (∀ e∈fG v r l,(0:Int)<=e) (Jb (!(oq (fG v r l)).2) (Jv (0,5,())) (Jv ((oq (fG v r l)).1,0,())))):Fr (ae [i64,i64])).get=_;unfold kr;rw[Fw];by_cases he:fl v r l=0
 ·obtain⟨s1,s2⟩:=Wx v r l 0 (ufb 0) (by decide) he;rw[Int.zero_add] at s1 s2;rw[if_pos he];refine ax (by rw[he]; rfl) (au (DZ v r l he) ?_);unfold oq;by_cases hs:(fG v r l).sum<=4000000000000000000
  ·obtain⟨j1,j2⟩:=s1 hs;rw[if_pos hs,if_pos j1,j2];exact ax rfl ⟨uT,rfl⟩
  ·rw[if_neg hs,if_neg (by rw[s2 hs]; decide)];exact ay rfl ⟨uT,rfl⟩
 ·rw[if_neg he];exact ay (ufm.2 he) ⟨uT,rfl⟩
def zfl:aa prog 220 yJ:=
 cg zfm _ _ (λw F x vs hr hok=>by
  obtain⟨v,r,l,_⟩:=x;exact zfk v r l hok)
open Go.Ab.Fr renaming val->Jv,need->Jd,br->Jb
noncomputable def XU:Cx:=cx [(215,vi),(216,yH),(217,Hd),(218,vj),(219,qb),(220,yJ)] []
def FN:CxOK prog XU:=aJ aG ⟨qyc,qyq,Tc,qn5,S2,zfl,uT⟩ trivial
abbrev n8:Pt:=⟨124,0,⟨[(13,.d i64),(9,.d bE),(11,.d i64)],[.x 2 54 ap,.r 2 2 0,.x 7 132 az,.r 7 7 0,.o 10 122 af,.x 12 122 af,.r 12 12 0]⟩,⟨[(11,.d i64)],[.x 2 54 ap,.r 2 2 0,.x 7 132 az,.r 7 7 0,.o 10 122 af,.x 12 122 af,.r 12 12 0]⟩,⟨[],[]⟩⟩
abbrev n9:Pt:=⟨124,2,⟨[(16,.d i64)],[.o 10 122 af,.x 7 132 az,.r 7 7 0]⟩,⟨[],[.o 10 122 af]⟩,⟨[(4,.d bY),(5,.d i64)],[]⟩⟩
set_option maxRecDepth 100000 in
def Lk (n m:Nat):Prop:=n+m<=maxLen/\(n+m)*prog.types[122].bytes<=140737488355328
set_option maxRecDepth 100000 in
def qb3:prog.types[122].bytes<=1000:=by decide
def Uv {n m:Nat} (h:n+m<=1000000):Lk n m:=by
 refine⟨?_,uen (uec h qb3) (by decide)⟩;unfold maxLen;omega
def Il (x:n8.M.X):Fr n8.Out:=
 let k:Int:=x.1.1; let l:List Int:=x.1.2.1; let a:Int:=x.1.2.2.1; let h:ap.den:=x.2.1; let v:az.den:=x.2.2.1; let o:List af.den:=x.2.2.2.1; let s:af.den:=x.2.2.2.2.1
 let C:ar.den:=h.2.2.2.1.getD (l.getD k.toNat 0).toNat ar.dflt
 let N:af.den:=(vj.f (h,l,C.2.1,())).1
 Jb (decide (k<(l.length:Int)))
  (Jd (0<=k/\k<(l.length:Int))
   (Jd (0<=l.getD k.toNat 0/\l.getD k.toNat 0<((List.length (α:=ar.den) h.2.2.2.1:Nat):Int))
    (Jd (∀ i∈l,0<=i/\i<((aw h).length:Int))
     (Jb ((qb.f (s,N,())).1) (Jv (Rd.next ((I6.wrap (k+1),l,a,()),(h,v,o,s,()))))
      (Jd (Lk o.length [((((a,C.2.1,()),s.2):af.den))].length)
       (Jv (Rd.next ((I6.wrap (k+1),l,C.2.1,()),(h,v,o++[((((a,C.2.1,()),s.2):af.den))],N,())))))))))
  (Jv (Rd.out ((a,()),(h,v,o,s,()))))
def za0:ah prog (aC f197 0) n8.M n8 Il:=ah.of_run FN (bs:=0) rfl rfl rfl (λ_=>bL _ 0) (λx=>by kernel_rfl)
def iR (h:ap.den):List ar.den->Int->af.den->List af.den->Int×af.den×List af.den
 |[],a,s,o=>(a,s,o)
 |c::l,a,s,o=>if jv s (fi h c.2.1 (bQ h) (ii h))=true then iR h l a s o else iR h l c.2.1 (fi h c.2.1 (bQ h) (ii h)) (o++[((a,c.2.1,()),s.2)])
structure InQA (k:Int) (l:List Int) (h:ap.den) (o:List af.den):Prop where
 k0:0<=k
 kl:k<=l.length
 ord:l=bQ h
 room:o.length+(l.length-k.toNat)<=1000000
 big:l.length<=1000000
def CV (h:ap.den) (v:az.den) (r:Int×af.den×List af.den):n8.Out:=Rd.out ((r.1,()),(h,v,r.2.2,r.2.1,()))
def Nq (x:n8.M.X):Fr n8.Out:=
 let k:Int:=x.1.1; let l:List Int:=x.1.2.1; let a:Int:=x.1.2.2.1; let h:ap.den:=x.2.1; let v:az.den:=x.2.2.1; let o:List af.den:=x.2.2.2.1; let s:af.den:=x.2.2.2.2.1
 Jd (InQA k l h o) (Jv (CV h v (iR h ((l.drop k.toNat).map (aQ h)) a s o)))
def qqr (k:Int) (l:List Int) (a:Int) (h:ap.den) (v:az.den) (o:List af.den) (s:af.den) (hinv:InQA k l h o) (Q:n8.Out->Prop)
  (hq:Q (CV h v (iR h ((l.drop k.toNat).map (aQ h)) a s o))) :
  (Il ((k,l,a,()),(h,v,o,s,()))).satP λ
   |.next x'=>InQA x'.1.1 x'.1.2.1 x'.2.1 x'.2.2.2.1/\((List.length (α:=Int) x'.1.2.1:Int)-x'.1.1).toNat<((l.length:Int)-k).toNat/\(Nq x').satP Q
   |.out y=>Q (.out y)
   |.back z=>Q (.back z)
   |.pan p=>Q (.pan p):=by
 obtain⟨h1,h2,h3,h4,h5⟩:=hinv;refine⟨λhi=>?_,λhi=>?_⟩
 ·have hi':k<(l.length:Int):=ucv hi;obtain⟨k,rfl⟩:∃ n:Nat,k=n:=⟨k.toNat,by omega⟩;have hl:k<l.length:=by omega
  have hk:(k:Int).toNat=k:=by omega
  rw[hk] at hq h4;have hw:I6.wrap ((k:Int)+1)=k+1:=IntWalk.i64_in _ (by omega);have g1:l.getD (k:Int).toNat 0=l[k]:=by
   rw[hk,uah,uap hl]; rfl
  rw[ual hl,uei] at hq;have hmem:∀ i∈l,0<=i/\i<((aw h).length:Int):=λi him=>tc (by rw[<- h3]; exact him);have hC:h.2.2.2.1.getD (l[k]).toNat ar.dflt=aQ h l[k]:=rfl;rw[g1,hw,hC];have hN:(vj.f (h,l,(aQ h l[k]).2.1,())).1=fi h (aQ h l[k]).2.1 (bQ h) (ii h):=ufv (λm=>fi h (aQ h l[k]).2.1 m (ii h)) h3;rw[hN];have hk1:((k:Int)+1).toNat=k+1:=by omega
  have hμ:((l.length:Int)-((k:Int)+1)).toNat<((l.length:Int)-(k:Int)).toNat:=by omega
  refine⟨⟨by omega,by omega⟩,hmem _ (udg hl),hmem,λhb=>?_,λhb=>?_⟩
  ·have hb':=hb;have e:iR h (aQ h l[k]::(l.drop (k+1)).map (aQ h)) a s o=iR h ((l.drop (k+1)).map (aQ h)) a s o:=if_pos hb';rw[e] at hq;have hI:InQA ((k:Int)+1) l h o:=⟨by omega,by omega,h3,by rw[hk1]; omega,h5⟩;refine⟨hI,hμ,hI,?_⟩;exact hq
  ·have hb':¬ jv s (fi h (aQ h l[k]).2.1 (bQ h) (ii h))=true:=by
    have:jv s (fi h (aQ h l[k]).2.1 (bQ h) (ii h))=false:=hb;rw[this];decide
   have e:iR h (aQ h l[k]::(l.drop (k+1)).map (aQ h)) a s o=iR h ((l.drop (k+1)).map (aQ h)) (aQ h l[k]).2.1 (fi h (aQ h l[k]).2.1 (bQ h) (ii h)) (o++[((a,(aQ h l[k]).2.1,()),s.2)]):=if_neg hb';rw[e] at hq;have hI:InQA ((k:Int)+1) l h (o++[((((a,(aQ h l[k]).2.1,()),s.2):af.den))]):=⟨by omega,by omega,h3,by rw[hk1,ub4,ua5]; omega,h5⟩;refine⟨Uv (by show o.length+1<=_; omega),hI,hμ,hI,?_⟩;exact hq
 ·have hi':¬ k<(l.length:Int):=ucf hi;have:l.drop k.toNat=[]:=ua0 (by omega);rw[this] at hq;exact hq
def qrm:ah prog (.loop (aC f197 0)) n8.M n8 Nq:=by
 refine ah.loop za0 (μ:=λx=>((List.length x.1.2.1:Int)-x.1.1).toNat) ?_ (λx Q h=>h.1);rintro⟨⟨k,l,a,_⟩,h,v,o,s,_⟩ hinv Q hq;exact qqr k l a h v o s hinv Q hq.2
def Im (x:n9.M.X):Fr n9.Out:=
 let k:Int:=x.1.1; let o:List af.den:=x.2.1; let v:az.den:=x.2.2.1
 let s:af.den:=o.getD k.toNat af.dflt
 Jb (decide (k<(o.length:Int)))
  (Jd (0<=k/\k<(o.length:Int)) (Jd (k.toNat<o.length)
   (Jb (!s.2.1) (Jv (Rd.next ((I6.wrap (k+1),()),(o,v,()))))
    (Jd (0<=k/\k<(o.length:Int)) (Jd (k.toNat<o.length) (Jd (0<=k/\k<(o.length:Int)) (Jd (k.toNat<o.length)
     (Jd (List.length (α:=ak.den) s.2.2.2.1<=1000000)
      (Jb ((yJ.f (v,s.2.2.1,s.2.2.2.1,())).2.1 != 0) (Jv (Rd.back (([],(yJ.f (v,s.2.2.1,s.2.2.2.1,())).2.1,()),())))
       (Jd (0<=k/\k<(o.length:Int)) (Jd (k.toNat<o.length)
        (Jv (Rd.next ((I6.wrap (k+1),()),(o.set k.toNat (fq s (yJ.f (v,s.2.2.1,s.2.2.2.1,())).1),v,())))))))))))))))
  (Jv (Rd.out ((),(o,()))))
def za1:ah prog (aC f197 1) n9.M n9 Im:=ah.of_run FN (bs:=0) rfl rfl rfl (λ_=>bL _ 0) (λx=>by kernel_rfl)
structure InQB (k:Int) (o:List af.den):Prop where
 k0:0<=k
 kl:k<=o.length
 big:o.length<=1000002
 few:∀ s∈o,s.2.2.2.1.length<=1000000
def Ee (l:List af.den) (e:Int):Fr n9.Out:=Jb (e != 0) (Jv (Rd.back (([],e,()),()))) (Jv (Rd.out ((),(l,()))))
def Nr (x:n9.M.X):Fr n9.Out:=
 let k:Int:=x.1.1; let o:List af.den:=x.2.1; let v:az.den:=x.2.2.1
 Jd (InQB k o) (Ee (o.take k.toNat++(o.drop k.toNat).map (fW v)) (co v (o.drop k.toNat)))
def qqs (k:Int) (l:List af.den) (v:az.den) (hinv:InQB k l) (Q:n9.Out->Prop) (hq:(Ee (l.take k.toNat++(l.drop k.toNat).map (fW v)) (co v (l.drop k.toNat))).satP Q) :
  (Im ((k,()),(l,v,()))).satP λ
   |.next x'=>InQB x'.1.1 x'.2.1/\((List.length (α:=af.den) x'.2.1:Int)-x'.1.1).toNat<((l.length:Int)-k).toNat/\(Nr x').satP Q
   |.out y=>Q (.out y)
   |.back z=>Q (.back z)
   |.pan p=>Q (.pan p):=by
 obtain⟨h0,h1,h2,h3⟩:=hinv;obtain⟨i',rfl⟩:∃ n:Nat,k=n:=⟨k.toNat,by omega⟩;simp only[ucy] at hq;dsimp only[Im,Ty.den,PT.den];simp only[ucy];refine⟨λhi=>?_,λhi=>?_⟩
 ·have hlt:i'<l.length:=by have:(i':Int)<(l.length:Int):=ucv hi; omega
  have w:I6.wrap ((i':Int)+1)=(i'+1:Nat):=pD (by omega);rw[w];have hg:l.getD i' af.dflt=l[i']:=by rw[uah,uap hlt]; rfl
  have hd:l.drop i'=l.getD i' af.dflt::l.drop (i'+1):=by rw[hg]; exact ual hlt
  have hμ:((l.length:Int)-((i'+1:Nat):Int)).toNat<((l.length:Int)-(i':Int)).toNat:=by omega
  have hb:0<=(i':Int)/\(i':Int)<(l.length:Int):=⟨by omega,by omega⟩;have hmem:l.getD i' af.dflt∈l:=by rw[hg]; exact udg hlt
  have hfew:=h3 _ hmem;rw[hd] at hq;generalize hs:l.getD i' af.dflt=s at *;have htk:l.take (i'+1)=l.take i'++[s]:=by
   rw[hg];exact(uas hlt).symm
  refine⟨hb,hlt,λhoff=>?_,λhon=>⟨hb,hlt,hb,hlt,hfew,λhe=>?_,λhe=>⟨hb,hlt,?_⟩⟩⟩
  ·have hoff':¬ s.2.1=true:=by
    intro hx;rw[hx] at hoff;cases hoff
   have hI:InQB ((i'+1:Nat):Int) l:=⟨by omega,by omega,h2,h3⟩;refine⟨hI,hμ,hI,?_⟩;have e1:co v (s::l.drop (i'+1))=co v (l.drop (i'+1)):=if_neg hoff';have e2:fW v s=s:=if_neg hoff';rw[e1,uei,e2] at hq;show(Ee (l.take (i'+1)++(l.drop (i'+1)).map (fW v)) (co v (l.drop (i'+1)))).satP Q;rw[htk,ucp];exact hq
  ·have hon':s.2.1=true:=by
    cases hx:s.2.1 with
    |true=>rfl
    |false=>rw[hx] at hon; cases hon
   have he':¬ (dB v s).2=0:=ufm.1 he;have e1:co v (s::l.drop (i'+1))=(dB v s).2:=by
    unfold co;rw[if_pos hon',if_neg he']
   rw[e1] at hq;exact hq.1 he
  ·have hon':s.2.1=true:=by
    cases hx:s.2.1 with
    |true=>rfl
    |false=>rw[hx] at hon; cases hon
   have he':(dB v s).2=0:=by
    have:((dB v s).2 != 0)=false:=he;simpa using this
   have hlen:(l.set i' (fq s (dB v s).1)).length=l.length:=udm;have hI:InQB ((i'+1:Nat):Int) (l.set i' (fq s (dB v s).1)):=⟨by omega,by rw[hlen]; omega,by rw[hlen]; exact h2,λt ht=>by
    rcases uao ht with ht|rfl
    ·exact h3 t ht
    ·exact hfew⟩
   refine⟨hI,by show((List.length (l.set i' (fq s (dB v s).1)):Int)-((i'+1:Nat):Int)).toNat<_; rw[hlen]; exact hμ,hI,?_⟩;have e1:co v (s::l.drop (i'+1))=co v (l.drop (i'+1)):=by
    conv=>lhs; unfold co
    rw[if_pos hon',if_pos he']
   have e2:fW v s=fq s (dB v s).1:=if_pos hon';rw[e1,uei,e2] at hq;show(Ee ((l.set i' (fq s (dB v s).1)).take (i'+1)++((l.set i' (fq s (dB v s).1)).drop (i'+1)).map (fW v)) (co v ((l.set i' (fq s (dB v s).1)).drop (i'+1)))).satP Q;have e3:(l.set i' (fq s (dB v s).1)).drop (i'+1)=l.drop (i'+1):=List.drop_set_of_lt (by omega);have e4:(l.set i' (fq s (dB v s).1)).take (i'+1)=l.take i'++[fq s (dB v s).1]:=by
    rw[List.take_add_one,List.take_set_of_le (by omega)];simp[hlt]
   rw[e3,e4,ucp];exact hq
 ·have hge:¬ i'<l.length:=by have:¬ (i':Int)<(l.length:Int):=ucf hi; omega
  rw[ua0 (by omega),ua1 (by omega)] at hq;have hq':=hq.2 rfl;simp at hq';exact hq'
def qrp:ah prog (.loop (aC f197 1)) n9.M n9 Nr:=by
 refine ah.loop za1 (μ:=λx=>((List.length x.2.1:Int)-x.1.1).toNat) ?_ (λx Q h=>h.1);rintro⟨⟨k,_⟩,l,v,_⟩ hinv Q hq;exact qqs k l v hinv Q hq.2
open Go.Ab.Fr renaming val->Jv,need->Jd,br->Jb
def z7 (v:az.den) (L:List af.den):Fr (ae [bY,i64]):=
 let a:=L.drop (0:Int).toNat;Jd (InQB 0 L) (Jb (co v a != 0) (Jv ([],co v a,())) (Jv (L.take (0:Int).toNat++a.map (fW v),0,())))
def wt (b:Int) (r:Int×af.den×List af.den):af.den:=((r.1,b,()),r.2.1.2)
def qmi (v:az.den) (b:Int) (r:Int×af.den×List af.den):Fr (ae [bY,i64]):=
 Jd (Lk r.2.2.length [wt b r].length) (z7 v (r.2.2++[wt b r]))
def mz (h:ap.den):Int×af.den×List af.den:=iR h (((bQ h).drop (0:Int).toNat).map (aQ h)) h.2.2.1.1.1 (vj.f (h,bQ h,h.2.2.1.1.1,())).1 []
def Dt (x:aq [.d ap,.d aP]):Fr (ae [bY,i64]):=
 let h:ap.den:=x.1; let t:aP.den:=x.2.1
 Jb (!(vi.f (h,())).1) (Jv ([],1,()))
  (Jb ((yH.f (t,h.2.2.1.1.1,())).2.1 != 0) (Jv ([],(yH.f (t,h.2.2.1.1.1,())).2.1,()))
   (Jd (((aw h).length:Int)<=1000000)
    (Jd (∀ i∈bQ h,0<=i/\i<((aw h).length:Int))
     (Jd (InQA 0 (bQ h) h [])
      (qmi (yH.f (t,h.2.2.1.1.1,())).1 h.2.2.1.1.2.1 (mz h))))))
def qx5:aa prog 197 (aL [.d ap,.d aP] [bY,i64] Dt):=
 zr FN qrm qrp
def RM (h:ap.den) (d:Int):(l:List Int)->(s:af.den)->(fi h d l s).2.2.2.2.1=s.2.2.2.2.1
 |[],_=>rfl
 |i::l,s=>by
  unfold fi;rw[RM h d l];split
  ·rfl
  ·exact(PD s _).2
def DW (h:ap.den) (d:Int):af.den:=fi h d (bQ h) (ii h)
def Aj (h:ap.den) (d:Int):cA (DW h d)=kp h d:=RL h d (bQ h) (ii h)
def SQ (h:ap.den) (d:Int):(DW h d).2.2.2.2.1=(0:Int):=RM h d (bQ h) (ii h)
def Mh {st:Int->eJ} {m n:Int} {s:af.den} (h1:s.1.1=m) (h2:s.1.2.1=n) (h3:m<n) (h4:s.2.2.2.2.1=(0:Int)) (h5:∀ d,m<=d->d<n->cA s=st d) :
  {a:Int} -> {l:List af.den}->cz st m a l->(∀ t,l.getLast? = some t->cA t≠cA s)->cz st n a (l++[s])
 |a,[],h,_=>by
  have h0:=h;subst h0;exact⟨h1,by rw[h2]; exact h3,h4,by rw[h2]; exact h5,λt ht=>(by cases ht),h2⟩
 |a,t::l,h,hl=>by
  obtain⟨k1,k2,k3,k4,k5,k6⟩:=h;refine⟨k1,k2,k3,k4,?_,Mh h1 h2 h3 h4 h5 k6 (λu hu=>hl u ?_)⟩
  ·intro u hu;cases l with
   |nil=>
    have hu':=hu;cases hu';exact hl t rfl
   |cons x l=>exact k5 u hu
  ·cases l with
   |nil=>cases hu
   |cons x l=>rw[List.getLast?_cons_cons]; exact hu
def Vb {h:ap.den} {a d:Int} (had:a<=d) (hn:∀ c∈gE h,c.2.1<=a\/d<c.2.1):kp h d=kp h a:=by
 unfold kp;rw[<- D6 d (gE h),<- D6 a (gE h)];have:((gE h).filter λc=>decide (c.2.1<=d))=(gE h).filter λc=>decide (c.2.1<=a):=by
  apply List.filter_congr;intro c hc;rw[udf];rcases hn c hc with q|q
  ·exact⟨λ_=>q,λ_=>ue3 q had⟩
  ·exact⟨λq2=>absurd q (ufl.2 q2),λq2=>ue3 q2 had⟩
 rw[this];refine zR (λc hc=>?_) (λc hc=>?_) _
 ·have:=ucv (List.mem_filter.1 hc).2;exact ue3 this had
 ·exact ucv (List.mem_filter.1 hc).2
def Q1 (b:Int) (r:Int×af.den×List af.den):List af.den:=r.2.2++[wt b r]
def J7 {h:ap.den} {a0 b:Int}:(l p:List ar.den)->p++l=gE h->(a lo:Int)->(s:af.den)->(o:List af.den)->(∀ x∈p,x.2.1<=lo)->a<=lo->lo<b->(∀ d,a<=d->d<=lo->kp h d=cA s)->s.2.2.2.2.1=(0:Int) ->
  cz (kp h) a a0 o->(∀ t,o.getLast? = some t->cA t≠cA s)->(∀ x∈l,lo<=x.2.1/\x.2.1<b)->l.Pairwise (λx y=>x.2.1<=y.2.1)->cz (kp h) b a0 (Q1 b (iR h l a s o))
 |[],p,hp,a,lo,s,o,h1,h2,h3,h4,h5,h6,h7,_,_=>by
  rw[udp] at hp;refine Mh (s:=((a,b,()),s.2)) rfl rfl (Int.lt_of_le_of_lt h2 h3) h5 (λd q1 q2=>?_) h6 h7;by_cases hd:d<=lo
  ·exact(h4 d q1 hd).symm
  ·rw[Vb (ues (ufk.1 hd)) (λc hc=>.inl (h1 c (by rw[hp]; exact hc)))];exact(h4 lo h2 (ufb _)).symm
 |c::l,p,hp,a,lo,s,o,h1,h2,h3,h4,h5,h6,h7,h8,h9=>by
  obtain⟨c1,c2⟩:=h8 c (uca ..);have hpw:=ub8.1 h9;have hcut:∀ x∈gE h,x.2.1<=lo\/c.2.1<=x.2.1:=λx hx=>by
   rw[<- hp,udq] at hx;rcases hx with hx|hx
   ·exact .inl (h1 x hx)
   ·rcases ueg.1 hx with rfl|hx
    ·exact .inr (ufb _)
    ·exact .inr (hpw.1 x hx)
  have hmid:=λd q1 q2=>by
   by_cases hd:d<=lo
   ·exact h4 d q1 hd
   ·rw[Vb (ues (ufk.1 hd)) (λx hx=>(hcut x hx).imp_right λq=>Int.lt_of_lt_of_le q2 q)];exact h4 lo h2 (ufb _)
  have hp':(p++[c])++l=gE h:=by
   rw[ucp];exact hp
  have hpl:∀ x∈p++[c],x.2.1<=c.2.1:=λx hx=>by
   rcases udq.1 hx with hx|hx
   ·exact ue3 (h1 x hx) c1
   ·rw[ucd.1 hx];exact ufb _
  have hll:∀ x∈l,c.2.1<=x.2.1/\x.2.1<b:=λx hx=>⟨hpw.1 x hx,(h8 x (ubg _ hx)).2⟩;unfold iR;by_cases hlike:jv s (fi h c.2.1 (bQ h) (ii h))=true
  ·rw[if_pos hlike];have hc:=(D7.1 hlike).trans (Aj h c.2.1);refine J7 l (p++[c]) hp' a c.2.1 s o hpl (ue3 h2 c1) c2 (λd q1 q2=>?_) h5 h6 h7 hll hpw.2;by_cases hd:d<c.2.1
   ·exact hmid d q1 hd
   ·have:=Int.le_antisymm q2 (ufl.1 hd);rw[this];exact hc.symm
  ·rw[if_neg hlike];have hne:cA s≠kp h c.2.1:=λhh=>hlike (D7.2 (hh.trans (Aj h c.2.1).symm));have hlt:a<c.2.1:=by
    apply Classical.byContradiction;intro hn;have hge:=ufl.1 hn;have e:=Int.le_antisymm hge (ue3 h2 c1);exact hne (by rw[e]; exact(h4 a (ufb _) h2).symm)
   refine J7 l (p++[c]) hp' c.2.1 c.2.1 (DW h c.2.1) (o++[((a,c.2.1,()),s.2)]) hpl (ufb _) c2 (λd q1 q2=>?_) (SQ h c.2.1) ?_ ?_ hll hpw.2
   ·have:=Int.le_antisymm q2 q1;rw[this];exact(Aj h c.2.1).symm
   ·exact Mh (s:=((a,c.2.1,()),s.2)) rfl rfl hlt h5 (λd q1 q2=>(hmid d q1 q2).symm) h6 h7
   ·intro t ht;rw[List.getLast?_concat] at ht;cases ht;rw[Aj];exact hne
def J6 (h:ap.den):(l:List ar.den)->(a:Int)->(s:af.den)->(o:List af.den)->(iR h l a s o).2.2.length<=o.length+l.length
 |[],_,_,_=>ufa _
 |c::l,a,s,o=>by
  unfold iR;split
  ·have:=J6 h l a s o;rw[uc7];omega
  ·have:=J6 h l c.2.1 (fi h c.2.1 (bQ h) (ii h)) (o++[((a,c.2.1,()),s.2)]);rw[ub4,ua5] at this;rw[uc7];omega
def qzy {h:ap.den} (hh:gq h=true):Q1 h.2.2.1.1.2.1 (mz h)=ez h:=by
 have ho:=RK hh;refine W7 ?_ (Pf hh);refine J7 (gE h) [] rfl h.2.2.1.1.1 h.2.2.1.1.1 (DW h h.2.2.1.1.1) [] (λx hx=>(by cases hx)) (ufb _) ho.ab (λd q1 q2=>?_) (SQ h _) rfl (λt ht=>(by cases ht)) (λx hx=>?_) (OG h)
 ·have:=Int.le_antisymm q2 q1;rw[this];exact(Aj h _).symm
 ·exact(ho.chs x (CA hx)).2
def cz.memQ {st:Int->eJ} {b:Int}:{a:Int} -> {l:List af.den}->cz st b a l->∀ s∈l,a<=s.1.1/\s.1.1<s.1.2.1/\s.1.2.1<=b/\∀ d,s.1.1<=d->d<s.1.2.1->cA s=st d
 |_,[],_,_,hs=>by cases hs
 |a,t::l,h,s,hs=>by
  obtain⟨h1,h2,h3,h4,h5,h6⟩:=h;rcases ueg.1 hs with rfl|hs
  ·rw[h1];exact⟨ufb _,h2,h6.le,h4⟩
  ·obtain⟨q1,q2⟩:=cz.memQ h6 s hs;exact⟨ue3 (ues h2) q1,q2⟩
def RN {d:Int} {n:Nat}:(l:List ar.den)->(k:eJ)->(∀ c∈l,c.2.2.2.2.1.length<=n)->k.2.2.length<=n->(ej d l k).2.2.length<=n
 |[],_,_,hk=>hk
 |c::l,k,hl,hk=>by
  refine RN l _ (λx hx=>hl x (ubg _ hx)) ?_;split
  ·exact hk
  ·unfold vJ
   repeat' split
   all_goals first|exact hk|exact hl c (uca ..)
def qed {h:ap.den} (hh:gq h=true) (hf:bD h):∀ s∈ez h,s.2.2.2.1.length<=1000000:=λs hs=>by
 obtain⟨_,m2,_,m4⟩:=(Pf hh).memQ s hs;have hc:=m4 s.1.1 (ufb _) m2;have e:s.2.2.2.1=(kp h s.1.1).2.2:=ufv (λk:eJ=>k.2.2) hc;rw[e];exact RN (gE h) _ (λc hc=>hf.2.2 c (CA hc)) hf.2.1
def qx3 {v:az.den} {L:List af.den} (hl:L.length<=1000002) (hf:∀ s∈L,s.2.2.2.1.length<=1000000) :
  (z7 v L).ok/\(z7 v L).get=if co v L=0 then (L.map (fW v),0,()) else ([],co v L,()):=by
 refine au ⟨ufb _,ub2 _,hl,hf⟩ ?_;by_cases he:co v L=0
 ·rw[if_pos he];exact ax (by show(co v L != 0)=false; rw[he]; rfl) ⟨uT,rfl⟩
 ·rw[if_neg he];exact ay (ufm.2 he) ⟨uT,rfl⟩
def Kw:aa prog 197 ew:=
 cg qx5 _ _ (λw F x vs hr hok=>by
  obtain⟨h,t,_⟩:=x;obtain⟨hf,f4⟩:bD h/\bT t:=hok;unfold bJ;cases hh:gq h with
  |false=>
   refine ay ?_ ⟨uT,rfl⟩;show(!(gq h))=true;rw[hh];rfl
  |true=>
   refine ax ?_ ?_
   ·show(!(gq h))=false;rw[hh];rfl
   ·by_cases hv:(bB h.2.2.1.1.1 t.1.reverse).2=0
    ·rw[if_pos hv];have hlen:=Al h;have hf1:=hf.1;have hgo:(mz h).2.2.length<=(aw h).length:=by
      have:=J6 h (((bQ h).drop (0:Int).toNat).map (aQ h)) h.2.2.1.1.1 (vj.f (h,bQ h,h.2.2.1.1.1,())).1 [];have e:(((bQ h).drop (0:Int).toNat).map (aQ h)).length=(aw h).length:=by
       rw[ud0];exact hlen
      rw[e] at this;have h2:(mz h).2.2.length<=0+(aw h).length:=this;omega
     refine ax ?_ (au ?_ (au (λi hi=>tc hi) (au ⟨ufb _,ub2 _,rfl,?_,?_⟩ (au (Uv ?_) ?_))))
     ·show((bB h.2.2.1.1.1 t.1.reverse).2 != 0)=false;rw[hv];rfl
     ·show((aw h).length:Int)<=1000000;omega
     ·show 0+((bQ h).length-0)<=1000000;omega
     ·show(bQ h).length<=1000000;omega
     ·show(mz h).2.2.length+1<=1000000;omega
     ·have hfin:(mz h).2.2++[wt h.2.2.1.1.2.1 (mz h)]=ez h:=qzy hh;have hcl:(ez h).length<=1000002:=by
       rw[<- hfin,ub4,ua5];omega
      rw[hfin];have:=qx3 (v:=(bB h.2.2.1.1.1 t.1.reverse).1) hcl (qed hh hf);refine⟨this.1,this.2.trans ?_⟩;split<;>rfl
    ·rw[if_neg hv];refine ay ?_ ⟨uT,rfl⟩;exact ufm.2 hv)
open Go.Ab.Fr renaming val->Jv,need->Jd,br->Jb
noncomputable def X3:Cx:=cx [(197,ew),(211,yE),(212,C6),(213,oF),(214,gj)] []
def X4:CxOK prog X3:=aJ aG ⟨Kw,zec,zfd,qbs,NZ,uT⟩ trivial
def IT (h x:ap.den) (t:aP.den) (a:Int):Fr (ae [i64,i64]):=
 let day:Int:=((aw h).getD a.toNat ar.dflt).2.1
 let B:ae [i64,i64]:=oF.f ((ew.f (x,t,())).1,(day,h.2.2.1.1.2.1,()),())
 Jd (bD x) (Jd (bT t)
  (Jb ((ew.f (x,t,())).2.1 != 0) (Jv (0,(ew.f (x,t,())).2.1,()))
   (Jd (0<=a/\a<((aw h).length:Int))
    (Jb (B.2.1 != 0) (Jv (0,B.2.1,())) (Jv ((gj.f (B.1,1000,())).1,(gj.f (B.1,1000,())).2.1,()))))))
def Dn (x:aq [.d ap,.d aP]):Fr (ae [i64,i64]):=
 let h:ap.den:=x.1; let t:aP.den:=x.2.1
 let a:Int:=(yE.f (h,())).1
 Jd (bD h) (Jd (bT t) (Jb ((ew.f (h,t,())).2.1 != 0) (Jv (0,(ew.f (h,t,())).2.1,()))
  (Jd (((aw h).length:Int)<=1000000)
   (Jd (decide (a<0)=false->0<=a/\a<((aw h).length:Int))
    (Jd ((bif decide (a<0) then true else ((aw h).getD a.toNat ar.dflt).2.2.1 != 3)=false->0<=a/\a<((aw h).length:Int))
     (Jb (bif bif decide (a<0) then true else ((aw h).getD a.toNat ar.dflt).2.2.1 != 3 then true else ((aw h).getD a.toNat ar.dflt).2.2.2.2.2.1 != 1) (Jv (0,0,()))
      (Jd ((aw h).length<=500000) (IT h (C6.f (h,a,())).1 t a))))))))
def qpj:aa prog 196 (aL [.d ap,.d aP] [i64,i64] Dn):=
 aH X4 f196 (fr:=Dn) (ps:=[.d ap,.d aP]) (rs:=[i64,i64])
def qpu {h x:ap.den} {t:aP.den} {a:Int} (hx:bD x) (ht:bT t) (ha:0<=a/\a<((aw h).length:Int)):(IT h x t a).ok/\(IT h x t a).get =
  (let r:Int×Int:=if (bJ x t).2=0 then (if (dC (bJ x t).1 ((aQ h a).2.1,h.2.2.1.1.2.1,())).2=0 then dP (dC (bJ x t).1 ((aQ h a).2.1,h.2.2.1.1.2.1,())).1 1000 else (0,(dC (bJ x t).1 ((aQ h a).2.1,h.2.2.1.1.2.1,())).2)) else (0,(bJ x t).2)
   (r.1,r.2,())):=by
 refine au hx (au ht ?_);by_cases h1:(bJ x t).2=0
 ·refine ax (by show((bJ x t).2 != 0)=false; simp[h1]) (au ha ?_);simp only[h1,if_true];by_cases h2:(dC (bJ x t).1 ((aQ h a).2.1,h.2.2.1.1.2.1,())).2=0
  ·refine ax (by show((dC (bJ x t).1 ((aQ h a).2.1,h.2.2.1.1.2.1,())).2 != 0)=false; simp[h2]) ⟨uT,?_⟩;simp only[h2,if_true];rfl
  ·refine ay (by show((dC (bJ x t).1 ((aQ h a).2.1,h.2.2.1.1.2.1,())).2 != 0)=true; simp[h2]) ⟨uT,?_⟩;simp only[h2,ufu];rfl
 ·refine ay (by show((bJ x t).2 != 0)=true; simp[h1]) ⟨uT,?_⟩;simp only[h1,ufu];rfl
def qph (h:ap.den) (t:aP.den) (hf:bD h) (ht:bT t):(Dn (h,t,())).ok/\(Dn (h,t,())).get=((fj h t).1,(fj h t).2,()):=by
 have hl:(aw h).length<=500000:=hf.1;refine au hf (au ht ?_);unfold fj;by_cases h1:(bJ h t).2=0
 ·refine ax (by show((bJ h t).2 != 0)=false; simp[h1]) (au (show((aw h).length:Int)<=1000000 by omega) ?_);rw[if_pos h1];cases ho:iX h with
  |none=>
   have e1:(yE.f (h,())).1 = -1:=by show(iX h).getD (-1) = -1; rw[ho]; rfl
   rw[e1];exact au (λhh=>by cases hh) (au (λhh=>by cases hh) (ay rfl ⟨uT,rfl⟩))
  |some a=>
   obtain⟨⟨a0,a1⟩,hT⟩:=VP ho;have e1:(yE.f (h,())).1=a:=by show(iX h).getD (-1)=a; rw[ho]; rfl
   have e2:decide (a<0) = !true:=udt (by omega);rw[e1,e2];refine au (λ_=>⟨a0,a1⟩) (au (λ_=>⟨a0,a1⟩) ?_);show _/\_=((nj h t a).1,(nj h t a).2,());cases hb:(bif bif !true then true else ((aw h).getD a.toNat ar.dflt).2.2.1 != 3 then true else ((aw h).getD a.toNat ar.dflt).2.2.2.2.2.1 != 1) with
   |true=>
    refine ay rfl ⟨uT,?_⟩;have hn:¬ ((aQ h a).2.2.1=3/\(aQ h a).2.2.2.2.2.1=1):=λhh=>by
     have hb':(bif bif !true then true else (aQ h a).2.2.1 != 3 then true else (aQ h a).2.2.2.2.2.1 != 1)=true:=hb;rw[BU.2 ⟨rfl,hh⟩] at hb';cases hb'
    unfold nj;rw[if_neg hn];rfl
   |false=>
    obtain⟨_,k1,k2⟩:=BU.1 hb;obtain⟨n,rfl⟩:∃ n:Nat,a=n:=⟨a.toNat,by omega⟩;have hwf:=Wp hf n;refine ax rfl (au hl ?_);have hx:(C6.f (h,(n:Int),())).1=mG h n:=by
     show qS h (gz (aw h) n (aw h).length)=qS h _;rw[zfe]
    rw[hx];have:=qpu (h:=h) (x:=mG h n) (t:=t) (a:=n) hwf ht ⟨a0,a1⟩;refine⟨this.1,this.2.trans ?_⟩;unfold nj;have hk:(aQ h n).2.2.1=3/\(aQ h n).2.2.2.2.2.1=1:=⟨k1,k2⟩;rw[if_pos hk,ucy]
 ·refine ay (by show((bJ h t).2 != 0)=true; simp[h1]) ⟨uT,?_⟩;rw[if_neg h1];rfl
def qpi:aa prog 196 sj:=
 cg qpj _ _ (λw F x vs hr hok=>by
  obtain⟨h,t,_⟩:=x;exact qph h t hok.1 hok.2)
noncomputable def WQ:Cx:=cx [(196,sj),(197,ew),(198,ss)] []
def WR:CxOK prog WQ:=aJ aG ⟨qpi,Kw,zfi,uT⟩ trivial
def QG (x:aq [.d ap,.d aP]):Fr (ae [i64,i64]):=
 let a:=(x.1,x.2.1,());Dh x.1 x.2.1 (decide (I6.wrap ((ss.f ((ew.f a).1,())).1+(sj.f a).1)>4000000000000000000))
def qgq:aa prog 167 (aL [.d ap,.d aP] [i64,i64] QG):=
 aH WR f167 (fr:=QG) (ps:=[.d ap,.d aP]) (rs:=[i64,i64])
def qgp:aa prog 167 vd:=
 cg qgq _ _ (λw F x vs hr hok=>by
  obtain⟨h,t,_⟩:=x;have k:=Kb h t;have u:=Gv (bJ h t).1 292195;refine PK hok.1 hok.2 ?_;show decide (I6.wrap ((dg (bJ h t).1 292195).1+(fj h t).1)>4000000000000000000)=_;rw[cD (by omega)])
open Go.Ab.Fr renaming val->Jv,need->Jd,br->Jb
abbrev nD:Pt:=⟨25,0,⟨[(0,.d (.sl ak)),(1,.d i64),(6,.d i64)],[.x 4 86 ak,.r 4 4 0]⟩,⟨[],[.x 4 86 ak,.r 4 4 0]⟩,⟨[(5,.d .bool)],[.x 4 86 ak,.r 4 4 0]⟩⟩
def IR (z:nD.M.X):Fr nD.Out:=
 let l:List ak.den:=z.1.1; let p:Int:=z.1.2.1; let i:Int:=z.1.2.2.1; let o:ak.den:=z.2.1
 let e:ak.den:=l.getD i.toNat ak.dflt
 Jb (decide (i<(l.length:Int)))
  (Jd (0<=i/\i<(l.length:Int)) (Jb (e.1==p) (Jd (0<=i/\i<(l.length:Int)) (Jv (Rd.back ((true,()),(e,()))))) (Jv (Rd.next ((l,p,I6.wrap (i+1),()),(o,()))))))
  (Jv (Rd.out ((),(o,()))))
def zav:ah prog (aC f173 0) nD.M nD IR:=ah.of_run eI (bs:=0) (Λ:=dM) rfl rfl rfl (λ_=>bL _ 0) (λx=>by kernel_rfl)
structure InFR (i:Int) (l:List ak.den):Prop where
 i0:0<=i
 il:i<=l.length
 big:(l.length:Int)<=9223372036854775807
def Tg (o:ak.den) (r:ak.den×Bool):Fr nD.Out:=Jb r.2 (Jv (Rd.back ((true,()),(r.1,())))) (Jv (Rd.out ((),(o,()))))
def Nj (z:nD.M.X):Fr nD.Out:=Jd (InFR z.1.2.2.1 z.1.1) (Tg z.2.1 (cI z.1.2.1 (List.drop (α:=ak.den) z.1.2.2.1.toNat z.1.1)))
def qqf (l:List ak.den) (p i:Int) (o:ak.den) (hinv:InFR i l) (Q:nD.Out->Prop) (hq:(Tg o (cI p (l.drop i.toNat))).satP Q):(IR ((l,p,i,()),(o,()))).satP λ
   |.next x'=>InFR x'.1.2.2.1 x'.1.1/\((List.length (α:=ak.den) x'.1.1:Int)-x'.1.2.2.1).toNat<((l.length:Int)-i).toNat/\(Nj x').satP Q
   |.out y=>Q (.out y)
   |.back z=>Q (.back z)
   |.pan p=>Q (.pan p):=by
 obtain⟨h0,h1,h4⟩:=hinv;obtain⟨k,rfl⟩:∃ k:Nat,i=k:=⟨i.toNat,by omega⟩;dsimp only[IR,Fr.satP];rw[ucy] at hq |-;refine⟨λhi=>?_,λhi=>?_⟩
 ·have hk:k<l.length:=by have:(k:Int)<(l.length:Int):=ucv hi; omega
  have w1:I6.wrap ((k:Int)+1)=((k+1:Nat):Int):=by rw[cD (by omega)]; omega
  have ea:l.getD k ak.dflt=l[k]:=by rw[uah,uap hk]; rfl
  rw[ual hk] at hq;rw[ea,w1];refine⟨⟨by omega,by omega⟩,λhb=>?_,λhb=>?_⟩
  ·have hb':=ufh.1 hb;have e:cI p (l[k]::l.drop (k+1))=(l[k],true):=if_pos hb';rw[e] at hq;exact⟨⟨by omega,by omega⟩,hq.1 rfl⟩
  ·have hb':=ubu.1 hb;have e:cI p (l[k]::l.drop (k+1))=cI p (l.drop (k+1)):=if_neg hb';rw[e] at hq;have hI:InFR ((k+1:Nat):Int) l:=⟨by omega,by omega,h4⟩;exact⟨hI,by omega,hI,hq⟩
 ·have hk:=ucf hi;have:l.drop k=[]:=ua0 (by omega);rw[this] at hq;exact hq.2 rfl
def qrw:ah prog (.loop (aC f173 0)) nD.M nD Nj:=by
 refine ah.loop zav (μ:=λx=>((List.length x.1.1:Int)-x.1.2.2.1).toNat) ?_ (λx Q h=>h.1);rintro⟨⟨l,p,i,_⟩,o,_⟩ hinv Q hq;exact qqf l p i o hinv Q hq.2
def qme (x:aq [.d (.sl ak),.d i64]):Fr (ae [ak,.bool]):=
 let l:List ak.den:=x.1; let p:Int:=x.2.1
 Jd (InFR 0 l) (Jb (cI p (l.drop (0:Int).toNat)).2 (Jv ((cI p (l.drop (0:Int).toNat)).1,true,())) (Jv (iu,false,())))
def qlx:aa prog 173 sg:=
 cg (bz eI qrw (fr:=qme)) _ _
  (λw F x vs hr _=>by
   obtain⟨l,p,_⟩:=x;obtain⟨v1,vs1,rfl,h1,_⟩:=hr;have hlen:(List.length l:Int)<=9223372036854775807:=(np (aD.wf h1.2.2).1);have hI:InFR 0 l:=⟨ufb _,ub2 _,hlen⟩;refine au hI ?_;show(Jb (cI p l).2 (Jv ((cI p l).1,true,())) (Jv (iu,false,())):Fr (ae [ak,.bool])).ok/\(Jb (cI p l).2 (Jv ((cI p l).1,true,())) (Jv (iu,false,())):Fr (ae [ak,.bool])).get=((cI p l).1,(cI p l).2,());cases hf:(cI p l).2 with
   |true=>exact ay rfl ⟨uT,rfl⟩
   |false=>
    rw[I7 hf];exact ax rfl ⟨uT,rfl⟩)
abbrev mZ:List YF:=[(none,i64),(none,i64),(none,i64),(none,i64),(none,i64),(none,i64),(none,i64),(none,i64),(none,.sl ak),(some 38,ar)]
def C9 (y:dG mZ):List ar.den:=y.2.2.2.2.2.2.2.2.2.1
def xb (y:dG mZ) (l:List ar.den):dG mZ:=(y.1,y.2.1,y.2.2.1,y.2.2.2.1,y.2.2.2.2.1,y.2.2.2.2.2.1,y.2.2.2.2.2.2.1,y.2.2.2.2.2.2.2.1,y.2.2.2.2.2.2.2.2.1,l,())
abbrev oZ:Pt:=⟨46,0,⟨[(1,.d i64),(7,.d i64)],[.x 2 54 ap,.r 2 2 0,.x 4 54 ap,.r 4 4 0,.y 6 54 mZ,.r 6 6 0]⟩,⟨[],[.x 4 54 ap,.r 4 4 0,.y 6 54 mZ,.r 6 6 0]⟩,⟨[],[]⟩⟩
def IA (x:oZ.M.X):Fr oZ.Out:=
 let d:Int:=x.1.1; let i:Int:=x.1.2.1; let h:ap.den:=x.2.1; let z:ap.den:=x.2.2.1; let y:dG mZ:=x.2.2.2.1
 let l:List ar.den:=h.2.2.2.1; let c:ar.den:=l.getD i.toNat ar.dflt
 Jb (decide (i<(l.length:Int)))
  (Jd (0<=i/\i<(l.length:Int)) (Jb (decide (c.1<=d))
   (Jd (0<=i/\i<(l.length:Int)) (Jd (pw (C9 y).length (List.length [c])) (Jv (Rd.next ((d,I6.wrap (i+1),()),(h,z,xb y (C9 y++[c]),()))))))
   (Jv (Rd.next ((d,I6.wrap (i+1),()),(h,z,y,()))))))
  (Jv (Rd.out ((),(z,y,()))))
def zal:ah prog (aC f200 0) oZ.M oZ IA:=ah.of_run eI (bs:=0) (Λ:=dM) rfl rfl rfl (λ_=>bL _ 0) (λx=>by kernel_rfl)
structure InAR (d i:Int) (l:List ar.den) (y:dG mZ):Prop where
 i0:0<=i
 il:i<=l.length
 few:l.length<=500000
 yy:C9 y=gy d (l.take i.toNat)
def Nf (x:oZ.M.X):Fr oZ.Out:=Jd (InAR x.1.1 x.1.2.1 x.2.1.2.2.2.1 x.2.2.2.1) (Jv (Rd.out ((),(x.2.2.1,xb x.2.2.2.1 (gy x.1.1 x.2.1.2.2.2.1),()))))
def qp6 (d i:Int) (h z:ap.den) (y:dG mZ) (hinv:InAR d i h.2.2.2.1 y) (Q:oZ.Out->Prop) (hq:Q (Rd.out ((),(z,xb y (gy d h.2.2.2.1),())))):(IA ((d,i,()),(h,z,y,()))).satP λ
   |.next x'=>InAR x'.1.1 x'.1.2.1 x'.2.1.2.2.2.1 x'.2.2.2.1/\((List.length (α:=ar.den) x'.2.1.2.2.2.1:Int)-x'.1.2.1).toNat<((List.length (α:=ar.den) h.2.2.2.1:Int)-i).toNat/\(Nf x').satP Q
   |.out y=>Q (.out y)
   |.back z=>Q (.back z)
   |.pan p=>Q (.pan p):=by
 obtain⟨h0,h1,h4,h5⟩:=hinv;obtain⟨k,rfl⟩:∃ k:Nat,i=k:=⟨i.toNat,by omega⟩;dsimp only[IA,Fr.satP];rw[ucy] at h5 |-;obtain⟨l,hl⟩:∃ l:List ar.den,h.2.2.2.1=l:=⟨_,rfl⟩;rw[hl] at h1 h4 h5 hq |-;refine⟨λhi=>?_,λhi=>?_⟩
 ·have hk:k<l.length:=by have:(k:Int)<(l.length:Int):=ucv hi; omega
  have w1:I6.wrap ((k:Int)+1)=((k+1:Nat):Int):=by rw[cD (by omega)]; omega
  have ea:l.getD k ar.dflt=l[k]:=by rw[uah,uap hk]; rfl
  have ht:gy d (l.take (k+1))=gy d (l.take k)++(if l[k].1<=d then [l[k]] else []):=by
   unfold gy;rw[List.take_add_one,uch,uap hk];by_cases hc:l[k].1<=d<;>simp[hc]
  have hlen:(gy d (l.take k)).length<=500000:=by
   have e1:=List.length_filter_le (λx:ar.den=>decide (x.1<=d)) (l.take k);have e2:(l.take k).length<=l.length:=by rw[uc3]; omega
   unfold gy;omega
  rw[ea,w1];refine⟨⟨by omega,by omega⟩,λhb=>?_,λhb=>?_⟩
  ·have hc:=ucv hb;rw[if_pos hc] at ht;have hI:InAR d ((k+1:Nat):Int) l (xb y (C9 y++[l[k]])):=⟨by omega,by omega,h4,by rw[ucy,ht,<- h5]; rfl⟩;refine⟨⟨by omega,by omega⟩,Ll (by rw[h5]; show _+1<=1000000; omega),?_⟩;exact⟨hI,by omega,by rw[hl]; exact hI,by rw[hl]; exact hq⟩
  ·have hc:=ucf hb;rw[if_neg hc,udp] at ht;have hI:InAR d ((k+1:Nat):Int) l y:=⟨by omega,by omega,h4,by rw[ucy,ht,<- h5]⟩;exact⟨hI,by omega,by rw[hl]; exact hI,by rw[hl]; exact hq⟩
 ·have hk:=ucf hi;rw[ua1 (by omega)] at h5;have e:xb y (gy d l)=y:=by rw[<- h5]; rfl
  rw[e] at hq;exact hq
def qrn:ah prog (.loop (aC f200 0)) oZ.M oZ Nf:=by
 refine ah.loop zal (μ:=λx=>((List.length x.2.1.2.2.2.1:Int)-x.1.2.1).toNat) ?_ (λx Q h=>h.1);rintro⟨⟨d,i,_⟩,h,z,y,_⟩ hinv Q hq;exact qp6 d i h z y hinv Q hq.2
open Go.Ab.Fr renaming val->Jv,need->Jd,br->Jb
def y0 (h:ap.den):dG mZ:=(h.1,h.2.1,h.2.2.1.1.1,h.2.2.1.1.2.1,h.2.2.1.2.1.1,h.2.2.1.2.1.2.1,h.2.2.1.2.1.2.2.1,h.2.2.1.2.1.2.2.2.1,h.2.2.1.2.2.1,[],())
def ofK (y:dG mZ):ap.den:=(y.1,y.2.1,((y.2.2.1,y.2.2.2.1,()),(y.2.2.2.2.1,y.2.2.2.2.2.1,y.2.2.2.2.2.2.1,y.2.2.2.2.2.2.2.1,()),y.2.2.2.2.2.2.2.2.1,()),y.2.2.2.2.2.2.2.2.2.1,())
def Dd (x:aq [.d ap,.d i64]):Fr (ae [ap,i64]):=
 let h:ap.den:=x.1; let d:Int:=x.2.1
 Jb (decide (h.2.1>d)) (Jv (Kt,7,())) (Jd (InAR d 0 h.2.2.2.1 (y0 h)) (Jv (ofK (xb (y0 h) (gy d h.2.2.2.1)),0,())))
def qa8:aa prog 200 (aL [.d ap,.d i64] [ap,i64] Dd):=
 bz eI qrn (fr:=Dd) (ps:=[.d ap,.d i64]) (rs:=[ap,i64])
def qa6 (h:ap.den) (d:Int) (hf:bD h):(Dd (h,d,())).ok/\(Dd (h,d,())).get=((g8 h d).1,(g8 h d).2,()):=by
 unfold g8;by_cases h1:d<h.2.1
 ·rw[if_pos h1];exact ay (by simpa using h1) ⟨uT,rfl⟩
 ·rw[if_neg h1];exact ax (by simpa using h1) (au ⟨ufb _,ub2 _,hf.1,rfl⟩ ⟨uT,rfl⟩)
def qa7:aa prog 200 oK:=
 cg qa8 _ _ (λw F x vs hr hok=>by
  obtain⟨h,d,_⟩:=x;exact qa6 h d hok)
noncomputable def Yb:Cx:=cx [(200,oK),(197,ew)] []
def Yc:CxOK prog Yb:=aJ (ps:=[]) aG ⟨qa7,Kw,uT⟩ trivial
def zb2:aa prog 171 l7:=
 cg (aH Yc f171 (fr:=zx) (ps:=[.d ap,.d aP,.d i64]) (rs:=[bY,i64])) _ _
  (λw F x vs hr hok=>by
   obtain⟨h,t,d,_⟩:=x;exact Sk h t d hok.1 hok.2)
noncomputable def XZ:Cx:=cx [(170,uV),(171,l7),(172,oE),(173,sg)] []
def Ya:CxOK prog XZ:=aJ (ps:=[]) aG ⟨qyf,zb2,qyb,qlx,uT⟩ trivial
def nh (b:Bool) (e:Int) (k:Fr (ae [ak,i64])):Fr (ae [ak,i64]):=Jb b (Jv ((0,0,0,0,0,()),e,())) k
def Dg (x:aq [.d ap,.d aP,.d cO]):Fr (ae [ak,i64]):=
 let h:ap.den:=x.1; let t:aP.den:=x.2.1; let c:cO.den:=x.2.2.1
 let q:ae [bY,i64]:=l7.f (h,t,c.2.2.2.2.1,()); let s:ae [af,.bool]:=oE.f (q.1,c.2.2.2.1,()); let f:ae [ak,.bool]:=sg.f (s.1.2.2.2.1,c.2.2.1,())
 nh (!(uV.f (c,())).1) 1 (nh (decide (c.2.2.2.2.1<c.2.2.2.1)) 4 (nh (c.2.1 != h.1) 7 (Jd (bD h) (Jd (bT t)
  (nh (q.2.1 != 0) q.2.1 (nh (bif !s.2.1 then true else !s.1.2.1) 11 (nh (!f.2.1) 11 (Jv (f.1,0,())))))))))
def qdq:aa prog 130 (aL [.d ap,.d aP,.d cO] [ak,i64] Dg):=
 aH Ya f130 (fr:=Dg) (ps:=[.d ap,.d aP,.d cO]) (rs:=[ak,i64])
def sN {b:Bool} {e:Int} {k:Fr (ae [ak,i64])} (hb:b=true):(nh b e k).ok/\(nh b e k).get=(iu,e,()):=ay hb ⟨uT,rfl⟩
def wn {b:Bool} {e:Int} {k:Fr (ae [ak,i64])} {y:ae [ak,i64]} (hb:b=false) (hk:k.ok/\k.get=y):(nh b e k).ok/\(nh b e k).get=y:=ax hb hk
def qdo (h:ap.den) (t:aP.den) (c:cO.den) (hf:bD h) (ht:bT t):(Dg (h,t,c,())).ok/\(Dg (h,t,c,())).get=((lC h t c).1,(lC h t c).2,()):=by
 unfold lC;by_cases h1:yT c=true
 ·rw[if_pos h1];refine wn (by show(!(yT c))=false; rw[h1]; rfl) ?_;by_cases h2:c.2.2.2.1<=c.2.2.2.2.1
  ·rw[if_pos h2];refine wn (udt (ufl.2 h2)) ?_;by_cases h3:c.2.1=h.1
   ·rw[if_pos h3];refine wn (by simp[h3]) (au hf (au ht ?_));by_cases h4:(dL h t c.2.2.2.2.1).2=0
    ·rw[if_pos h4];refine wn (by show((dL h t c.2.2.2.2.1).2 != 0)=false; simp[h4]) ?_;unfold H5;cases h5:(cu (dL h t c.2.2.2.2.1).1 c.2.2.2.1).2 with
     |false=>exact sN (by show(bif !(cu (dL h t c.2.2.2.2.1).1 c.2.2.2.1).2 then true else _)=true; rw[h5]; rfl)
     |true=>
      cases h6:(cu (dL h t c.2.2.2.2.1).1 c.2.2.2.1).1.2.1 with
      |false=>exact sN (by show(bif !(cu (dL h t c.2.2.2.2.1).1 c.2.2.2.1).2 then true else !(cu (dL h t c.2.2.2.2.1).1 c.2.2.2.1).1.2.1)=true; rw[h5,h6]; rfl)
      |true=>
       refine wn (by show(bif !(cu (dL h t c.2.2.2.2.1).1 c.2.2.2.1).2 then true else !(cu (dL h t c.2.2.2.2.1).1 c.2.2.2.1).1.2.1)=false; rw[h5,h6]; rfl) ?_;cases h7:(cI c.2.2.1 (cu (dL h t c.2.2.2.2.1).1 c.2.2.2.1).1.2.2.2.1).2 with
       |false=>exact sN (by show(!(cI c.2.2.1 (cu (dL h t c.2.2.2.2.1).1 c.2.2.2.1).1.2.2.2.1).2)=true; rw[h7]; rfl)
       |true=>exact wn (by show(!(cI c.2.2.1 (cu (dL h t c.2.2.2.2.1).1 c.2.2.2.1).1.2.2.2.1).2)=false; rw[h7]; rfl) ⟨uT,rfl⟩
    ·rw[if_neg h4];exact sN (by show((dL h t c.2.2.2.2.1).2 != 0)=true; simp[h4])
   ·rw[if_neg h3];exact sN (by simpa using h3)
  ·rw[if_neg h2];exact sN (ud8 (ufk.1 h2))
 ·rw[if_neg h1];exact sN (by show(!(yT c))=true; rw[ucx.2 h1]; rfl)
def qdp:aa prog 130 uW:=
 cg qdq _ _ (λw F x vs hr hok=>by
  obtain⟨h,t,c,_⟩:=x;exact qdo h t c hok.1 hok.2)
open Go.Ab.Fr renaming val->Jv,need->Jd,br->Jb
noncomputable def qd7:List (FuncId×Ct):=[(167,vd),(127,sn),(125,jN),(129,jc),(130,uW),(131,Ch),(132,yp),(128,oM)]
noncomputable def Zg:Cx:=cx qd7 []
def FU:CxOK prog Zg:=aJ aG ⟨qgp,Pp,Ph,qen,qdp,qel,qev,TL,uT⟩ trivial
def qi6 (x:aq [.d (.sl av),.d av,.d i64]):Fr (ae [.bool]):=
 let a:=(x.1,x.2.2.1,x.2.1);let b:=Rq a ();Jb (bif bif x.2.1.2.1 != 1 then true else decide (x.2.2.1<x.2.1.2.2.1.1) then true else decide (x.2.2.1>=x.2.1.2.2.1.2.1)) (Jv (false,())) (Jd (InK 8 0 (List.replicate 8 ()).length) (Jd (qu1 a ()) (Jb (bi b) (Jv (false,())) (Jv ((ba (aW _,aZ _) b).1.1,())))))
def qi7:aa prog 133 (aL [.d (.sl av),.d av,.d i64] [.bool] qi6):=
 bz B5 qs3
def qi1 (x:aq [.d ag,.d i64,.d ap,.d i64]):Fr (ae [ag,i64]):=
 let a:=vd.f (x.2.2.1,(x.1.1.1,()),());Jd (bD x.2.2.1) (Jd (bT (x.1.1.1,())) (Jb (a.2.1 != 0) (Jv ((([],()),[],[],[],0,()),a.2.1,())) (Jd ((bP x.1).length<=400000) (Jv ((sn.f (x.1,x.2.1,x.2.2,())).1,0,())))))
def qi2:aa prog 126 (aL [.d ag,.d i64,.d ap,.d i64] [ag,i64] qi1):=
 aH FU f126
def qjo (x:aq [.d ag,.d factT]):Fr (ae [ag,i64]):=
 let g:=x.2.1.2.2.2.2.2.2.2.1;let c:=(([],()),[],[],[],0,());let a:=jN.f (x.1,g.2.1,());let b:=uW.f ((List.getD x.1.2.1 (Int.toNat a.1) aT.dflt).1,(x.1.1.1,()),g,());Jb (decide ((jc.f (x.1,g.1,())).1>=0)) (Jv (c,8,())) (Jb (decide (((List.length x.1.2.2.1):Int)>=2000)) (Jv (c,2,())) (Jb (decide (a.1<0)) (Jv (c,7,())) (Jd (0<=a.1/\a.1<((List.length x.1.2.1):Int)) (Jd (bD (List.getD x.1.2.1 (Int.toNat a.1) aT.dflt).1) (Jd (bT (x.1.1.1,())) (Jb (b.2.1 != 0) (Jv (c,b.2.1,())) (Jd ((bU x.1).length<=400000) (Jv ((Ch.f (x.1,-1,(g,[],()),())).1,0,())))))))))
def qjp:aa prog 85 (aL [.d ag,.d factT] [ag,i64] qjo):=
 aH FU f85
def qil (x:aq [.d ag,.d factT]):Fr (ae [ag,i64]):=
 let c:=(([],()),[],[],[],0,());let b:=jc.f (x.1,x.2.1.2.2.1,());let a:=yp.f ((List.getD x.1.2.2.1 (Int.toNat b.1) aB.dflt),x.2.1.2.2.2.2.2.2.2.2.1,());Jb (decide (b.1<0)) (Jv (c,7,())) (Jd (0<=b.1/\b.1<((List.length x.1.2.2.1):Int)) (Jd (q8 (List.getD x.1.2.2.1 (Int.toNat b.1) aB.dflt)) (Jb (a.2.1 != 0) (Jv (c,a.2.1,())) (Jd ((bU x.1).length<=400000) (Jv ((Ch.f (x.1,b.1,a.1,())).1,0,()))))))
def qim:aa prog 86 (aL [.d ag,.d factT] [ag,i64] qil):=
 aH FU f86
open Go.Ab.Fr renaming val->Jv,need->Jd,br->Jb
def xL (l:List av.den) (d p s:Int):Int:=l.foldl (λs e=>bif rW e d p then I6.wrap (s+e.2.2.2.1) else s) s
def ou (k:kU) (i:Int):Bool:=bif kR k.2.2 i then decide (xL k.1 k.2.1 i k.2.2.2.2.2.1>10000) else false
def rZ (k:kU):Nat->Int->Bool
 |0,_=>false
 |n+1,i=>bif ou k i then true else rZ k n (i+1)
def qw3 (k:kU) (i:Int) (hi:0<=i/\i<=7) (s:Int):fF (xw k i) 0 (wx k i) s/\(kR k.2.2 i=true->cf (xw k i) 0 (wx k i) s=xL k.1 k.2.1 i s):=by
 refine⟨DY (stp:=xw k i) (λ_ _ _=>⟨uT,hi,uT,λ_=>uT,λ_=>uT,λ_=>⟨uT,uT⟩,λ_=>uT⟩) _ _ _,λhm=>?_⟩;have e:wx k i=k.1:=by
  show(bif kR k.2.2 i then k.1 else [])=k.1;rw[hm]; rfl
 rw[e];exact D2 (λj e s=>by
  show(Jb (rW e k.2.1 i) (Jd True (Jv (I6.wrap (s+e.2.2.2.1)))) (Jv s)).get=_;cases rW e k.2.1 i<;>rfl) _ _ _
def qw4 (k:kU) (hl:((List.length (α:=av.den) k.1:Nat):Int)<=9223372036854775807) (i:Int) (hi:0<=i/\i<=7):(lj k True i () ()).ok/\(lj k True i () ()).get=bif ou k i then .inr ((true,()),()) else .inl ():=by
 have h:=qw3 k i hi k.2.2.2.2.2.1;refine au hi (iO (kS hl) h.1 ?_);have hc:(bif DT k i then decide (cf (xw k i) 0 (wx k i) k.2.2.2.2.2.1>10000) else false)=ou k i:=by
  show(bif kR k.2.2 i then _ else false)=bif kR k.2.2 i then _ else false;cases hm:kR k.2.2 i
  ·rfl
  ·rw[h.2 hm]
 cases ht:ou k i
 ·exact ax (hc.trans ht) ⟨uT,rfl⟩
 ·exact ay (hc.trans ht) ⟨uT,rfl⟩
def Tu (k:kU) (hl:((List.length (α:=av.den) k.1:Nat):Int)<=9223372036854775807):(n:Nat)->(i:Int)->0<=i->i+n<=8->gS (lj k True) i (List.replicate n ()) ()/\dJ (lj k True) i (List.replicate n ()) ()=bif rZ k n i then .inr ((true,()),()) else .inl ()
 |0,_,_,_=>⟨uT,rfl⟩
 |n+1,i,h0,h1=>by
  have h:=qw4 k hl i ⟨h0,by omega⟩;have ih:=Tu k hl n (i+1) (by omega) (by omega);unfold rZ;rw[List.replicate_succ];unfold gS dJ;rw[h.2];cases ou k i
  ·exact⟨⟨h.1,ih.1⟩,ih.2⟩
  ·exact⟨⟨h.1,uT⟩,rfl⟩
def gT (l:List av.den) (t:av.den) (d:Int):Bool:=bif (bif bif t.2.1 != 1 then true else decide (d<t.2.2.1.1) then true else decide (d>=t.2.2.1.2.1)) then false else rZ (l,d,t) 8 0
def yz:Ct:=⟨[.d (.sl av),.d av,.d i64],[.bool],λx=>(gT x.1 x.2.1 x.2.2.1,()),λ_=>[]⟩
def Po:aa prog 133 yz:=conv qi7 _ _ (λw F x vs hr _=>by
 obtain⟨l,t,d,_⟩:=x;obtain⟨v,vs',rfl,hv,_⟩:=hr;have h:=Tu (l,d,t) (fw hv) 8 0 (by decide) (by decide);show _/\_=(gT l t d,());unfold gT;cases hc:(bif bif t.2.1 != 1 then true else decide (d<t.2.2.1.1) then true else decide (d>=t.2.2.1.2.1))
 ·refine ax hc (iO ⟨rfl,by decide,by decide,by decide⟩ h.1 ?_);refine(λ(h2:dJ (lj (l,d,t) True) 0 (List.replicate 8 ()) ()=_)=>?_) h.2;show(Jb (bi (dJ (lj (l,d,t) True) 0 (List.replicate 8 ()) ())) (Jv (false,())) (Jv ((ba _ (dJ (lj (l,d,t) True) 0 (List.replicate 8 ()) ())).1.1,()))).ok/\(Jb (bi (dJ (lj (l,d,t) True) 0 (List.replicate 8 ()) ())) (Jv (false,())) (Jv ((ba _ (dJ (lj (l,d,t) True) 0 (List.replicate 8 ()) ())).1.1,()))).get=_;rw[h2];cases rZ (l,d,t) 8 0<;>exact⟨⟨λ_=>uT,λ_=>uT⟩,rfl⟩
 ·exact ay hc ⟨uT,rfl⟩)
def eQ (r:ag.den×Int):ag.den×Int:=bif r.2 != 0 then (cR,r.2) else (r.1,0)
def qy (s:ag.den) (i:Int) (h:ap.den) (p:Int):ag.den×Int:=eQ (jG s (mv fZ (bP s) i (h,p,())),(lE h s.1).2)
def Cp:Ct:=⟨[.d ag,.d i64,.d ap,.d i64],[ag,i64],λx=>((qy x.1 x.2.1 x.2.2.1 x.2.2.2.1).1,(qy x.1 x.2.1 x.2.2.1 x.2.2.2.1).2,()),λx=>[bg x.1,bD x.2.2.1]⟩
def qer:aa prog 126 Cp:=conv qi2 _ _ (λ_ _ x _ _ h=>by
 obtain⟨s,i,h0,p,_⟩:=x;obtain⟨hs,hh⟩:bg s/\bD h0:=h;show _/\_=((qy s i h0 p).1,(qy s i h0 p).2,());unfold qy eQ;refine au hh (au hs.1 ?_);cases h1:(lE h0 s.1).2 != 0
 ·exact ax (by first|rfl|exact h1) (au (uen hs.2.1 (by decide)) ⟨uT,rfl⟩)
 ·exact ay (by first|rfl|exact h1) ⟨uT,rfl⟩)
def Hn:Ct:=⟨[.d ag,.d factT],[ag,i64],λx=>((eQ (fR x.1 x.2.1)).1,(eQ (fR x.1 x.2.1)).2,()),λx=>[bg x.1]⟩
def qfp:aa prog 85 Hn:=conv qjp _ _ (λ_ _ x _ _ h=>by
 obtain⟨s,f,_⟩:=x;have hs:bg s:=h;show _/\_=((eQ (fR s f)).1,(eQ (fR s f)).2,());unfold fR eQ;cases h1:decide (fC s (dk f).1>=0)
 ·refine ax (by first|rfl|exact h1) ?_;cases h2:decide (((List.length (bU s):Nat):Int)>=2000)
  ·refine ax (by first|rfl|exact h2) ?_;cases h3:decide (dY s (dk f).2.1<0)
   ·refine ax (by first|rfl|exact h3) ?_;have hi:=ucf h3;have e:lA s f=(dO s (dY s (dk f).2.1),true):=by
     show iC s (dk f).2.1=_;unfold iC;split
     ·rfl
     ·omega
    rw[e];refine au (ls hi) (au (qu hs hi) (au hs.1 ?_));cases h4:(lC (dO s (dY s (dk f).2.1)).1 s.1 (dk f)).2 != 0
    ·refine ax (by first|rfl|exact h4) (au (uen hs.2.2.1 (by decide)) ⟨uT,?_⟩);simp only[Bool.not_true,ufj,h4];rfl
    ·refine ay (by first|rfl|exact h4) ⟨uT,?_⟩;simp only[Bool.not_true,ufj,h4];rfl
   ·refine ay (by first|rfl|exact h3) ⟨uT,?_⟩;have hi:=ucv h3;have e:(lA s f).2=false:=by
     show(iC s (dk f).2.1).2=_;unfold iC;split
     ·omega
     ·rfl
    rw[e];rfl
  ·exact ay (by first|rfl|exact h2) ⟨uT,rfl⟩
 ·exact ay (by first|rfl|exact h1) ⟨uT,rfl⟩)
def GH:Ct:=⟨[.d ag,.d factT],[ag,i64],λx=>((eQ (fA x.1 x.2.1)).1,(eQ (fA x.1 x.2.1)).2,()),λx=>[bg x.1,∀ g∈bU x.1,q8 g]⟩
def qeg:aa prog 86 GH:=conv qim _ _ (λ_ _ x _ _ h=>by
 obtain⟨s,f,_⟩:=x;obtain⟨hs,hg⟩:bg s/\∀ g∈bU s,q8 g:=h;show _/\_=((eQ (fA s f)).1,(eQ (fA s f)).2,());unfold fA eQ;cases h1:decide (gI s f<0)
 ·refine ax (by first|rfl|exact h1) ?_;have hi:=ucf h1;refine au (zo hi) (au (hg _ (eh (zo hi))) ?_);cases h2:(pG s f).2 != 0
  ·refine ax (by first|rfl|exact h2) (au (uen hs.2.2.1 (by decide)) ⟨uT,?_⟩);show(um s (mv gO (bU s) (gI s f) (pG s f).1),0,())=_;unfold mv;rw[if_neg hi];simp only[ufj,h2]
  ·refine ay (by first|rfl|exact h2) ⟨uT,?_⟩;simp only[ufj,h2];rfl
 ·exact ay (by first|rfl|exact h1) ⟨uT,rfl⟩)
open Go.Ab.Fr renaming val->Jv,need->Jd,br->Jb
def Rg {f:factT.den} (h:cC f=true) (hk:aF f=6):dN (cp f)=true:=by
 unfold cC at h;rw[uc9,uc9,uc9] at h;have hb:=h.2.2;rw[uc9] at hb;have hb2:=hb.2;unfold sf at hb2;rw[hk] at hb2;exact hb2
open Go.Ab.Fr renaming val->Jv,need->Jd,br->Jb
def Uo {t:av.den} (h:dN t=true):1<=t.2.2.1.1/\t.2.2.1.2.1<=292195:=by
 have hz:kV t.2.2.1.1 t.2.2.1.2.1≠0:=by
  intro hc;unfold dN qv at h;simp only[l5,jE] at h;have hc':((mO.f (t.2.2.1,())).1==0)=true:=by
   show(kV t.2.2.1.1 t.2.2.1.2.1==0)=true;rw[hc]; rfl
  simp only[hc'] at h;cases h1:(dv.f ((1,1000000000,()),[t.1],())).1<;>simp only[h1] at h<;>cases h
 unfold kV dd at hz;split at hz
 ·rename_i h;simp only[uc9,ucs] at h;exact⟨h.1,h.2.2⟩
 ·exact absurd rfl hz
def qah {e:av.den} {d p:Int} (h:dN e=true) (hp:0<=p/\p<=7):rW e d p=cT e d p:=by
 have hb:(si.f (e,p,())).1=(per e).toNat.testBit p.toNat:=JL ⟨ue3 (by decide) (wX h).1,(wX h).2⟩ hp;have hs:=Uo h;unfold rW cT;rw[hb];have hi:cE e.2.2.1.1 e.2.2.1.2.1 d=(decide (e.2.2.1.1<=d)&&decide (d<e.2.2.1.2.1)):=by
  rw[udv,uc9,ucs,ucs];exact⟨λh=>(sK.1 h).2.2,λh=>sK.2 ⟨hs.1,hs.2,h⟩⟩
 rw[hi];cases e.2.1==1<;>cases (per e).toNat.testBit p.toNat<;>cases decide (e.2.2.1.1<=d)<;>cases decide (d<e.2.2.1.2.1)<;>rfl
def En {t:av.den} (h:dN t=true):0<=per t/\per t<=255:=⟨ue3 (by decide) (wX h).1,(wX h).2⟩
def LH {d p:Int} (hp:0<=p/\p<=7):(l:List av.den)->(s:Int)->(∀ t∈l,dN t=true)->0<=s->s+10000*(l.length:Int)<=1000000000->xL l d p s=s+c9 (λt=>bM t d p) l
 |[],s,_,_,_=>(ue5 s).symm
 |t::l,s,h,h0,h1=>by
  rw[uc7] at h1;have ht:=h t uca;have hb:=Fl (ui ht) (d:=d) hp;rw[Ff];have e:xL (t::l) d p s=xL l d p (bif rW t d p then I6.wrap (s+jL t) else s):=rfl;rw[e,qah ht hp];rw[nC (En ht) hp] at hb |-;cases ha:cT t d p
  ·rw[ufj,LH hp l s (λx hx=>h x (ubg _ hx)) h0 (by omega),if_neg (by decide)];omega
  ·rw[ha,if_pos rfl] at hb;rw[ufr,if_pos rfl,IntWalk.i64_in _ (by omega),LH hp l _ (λx hx=>h x (ubg _ hx)) (by omega) (by omega)];omega
def NI (k:kU):(n:Nat)->(i:Int)->(rZ k n i=true↔∃ p:Int,(i<=p/\p<i+n)/\ou k p=true)
 |0,i=>⟨λh=>(by cases h),λ⟨p,h,_⟩=>by omega⟩
 |n+1,i=>by
  have ih:=NI k n (i+1);unfold rZ;cases h:ou k i
  ·rw[ufj,ih];refine⟨λ⟨p,hp,h2⟩=>⟨p,by omega,h2⟩,λ⟨p,hp,h2⟩=>⟨p,?_,h2⟩⟩;have:p≠i:=λe=>by rw[e,h] at h2; cases h2
   omega
  ·exact⟨λ_=>⟨i,by omega,h⟩,λ_=>rfl⟩
def Tq {l:List av.den} {t:av.den} {d:Int} (hl:∀ x∈l,dN x=true) (ht:dN t=true) (hn:l.length<=1000):gT l t d=true↔∃ p,(0<=p/\p<=7)/\cT t d p=true/\bM t d p+c9 (λx=>bM x d p) l>10000:=by
 have key:∀ p,0<=p/\p<=7->cT t d p=true->(ou (l,d,t) p=true↔bM t d p+c9 (λx=>bM x d p) l>10000):=λp hp ha=>by
  have hk:=G0 ha;have hb:=Un ht hk;unfold ou;rw[show kR t p=true from (JL (En ht) hp).trans (ND ha),ufr,ucs,nC (En ht) hp,if_pos ha];show xL l d p (jL t)>10000↔_;rw[LH hp l _ hl (by omega) (by omega)]
 unfold gT;cases hc:(bif bif t.2.1 != 1 then true else decide (d<t.2.2.1.1) then true else decide (d>=t.2.2.1.2.1))
 ·obtain⟨h1,h3⟩:=oY hc;obtain⟨h1,h2⟩:=oY h1;have h1:(t.2.1==1)=true:=by simpa using h1
  have h2:=ucf h2;have h3:=ucf h3;have hs:=Uo ht;have hin:cE t.2.2.1.1 t.2.2.1.2.1 d=true:=sK.2 ⟨hs.1,hs.2,by omega,by omega⟩;rw[ufj,NI];refine⟨λ⟨p,hp,h⟩=>?_,λ⟨p,hp,ha,h⟩=>⟨p,by omega,(key p hp ha).2 h⟩⟩;have hp:0<=p/\p<=7:=by omega
  have hh:kR t p=true:=by
   cases hh:kR t p
   ·unfold ou at h; rw[hh] at h; cases h
   ·rfl
  have ha:cT t d p=true:=by
   unfold cT;rw[h1,hin];exact(JL (En ht) hp).symm.trans hh
  exact⟨p,hp,ha,(key p hp ha).1 h⟩
 ·refine⟨λh=>(by cases h),λ⟨p,hp,ha,h⟩=>?_⟩;have hk:=G0 ha;unfold cT at ha;rw[uc9,uc9] at ha;have hb:=(sK.1 ha.1.2).2.2;rw[hk,udt (show ¬ d<t.2.2.1.1 by omega),udt (show ¬ d>=t.2.2.1.2.1 by omega)] at hc;cases hc
def qwx {l:List av.den} {t:av.den} (hl:∀ x∈l,dN x=true) (ht:dN t=true) (hn:l.length<=1000):(bif l.any (λx=>gT l t x.2.2.1.1) then true else gT l t t.2.2.1.1)=gu l t:=by
 cases ho:gu l t
 ·have hno:∀ d,gT l t d=false:=λd=>by
   cases h:gT l t d
   ·rfl
   ·obtain⟨p,hp,ha,h⟩:=(Tq hl ht hn).1 h;have:=Ts (λx hx=>ui (hl x hx)) (ui ht) hn ho hp ha;omega
  rw[hno,show(λx:av.den=>gT l t x.2.2.1.1)=λ_=>false from funext λx=>hno _];simp
 ·cases hc:(bif l.any (λx=>gT l t x.2.2.1.1) then true else gT l t t.2.2.1.1)
  ·obtain⟨h1,h2⟩:=oY hc;rw[uc1] at h1;have hno:gu l t=false:=qwz (λx hx=>ui (hl x hx)) (ui ht) hn λx hx p hp ha=>by
    have hd:gT l t x.2.2.1.1=false:=by
     rw[uO] at hx;rcases ueg.1 hx with rfl|hx
     ·exact h2
     ·obtain⟨z,hz,rfl⟩:=ue7.1 hx;exact ucx.2 (h1 z hz)
    refine ufl.1 λhbig=>?_;rw[(Tq hl ht hn).2 ⟨p,hp,ha,hbig⟩] at hd;cases hd
   rw[hno] at ho; cases ho
  ·rfl
open Go.Ab.Fr renaming val->Jv,need->Jd,br->Jb
noncomputable def Zj:Cx:=cx [(133,yz)] []
def MS:CxOK prog Zj:=aJ aG ⟨Po,uT⟩ trivial
abbrev wJ:Pt:=⟨78,0,⟨[(6,.d i64)],[.x 2 29 ag,.r 2 2 0,.x 3 46 factT,.r 3 3 0,.x 4 29 ag,.r 4 4 0]⟩,⟨[],[.x 2 29 ag,.r 2 2 0,.x 3 46 factT,.r 3 3 0,.x 4 29 ag,.r 4 4 0]⟩,⟨[(5,.d i64)],[.x 4 29 ag,.r 4 4 0]⟩⟩
def Fa (k:ag.den×factT.den×ag.den) (b:Prop) (i:Int) (e:av.den) (s:Unit):Fr (Unit ⊕ wJ.R.X):=
 Jd b (Jb (e.1==k.2.1.2.2.2.2.2.2.2.2.2.1.1) (Jv (.inr ((8,()),(([],()),[],[],[],0,()),()))) (Jv (.inl ())))
def ZL:wJ.M.X->Fr wJ.Out:=FK (λx=>(x.1.1,(x.2.1,x.2.2.1,x.2.2.2.1),())) (λk=>(List.length k.1.2.2.2.1:Int)) (λk=>k.1.2.2.2.1) Fa (λk _=>((),k.1,k.2.1,k.2.2,())) (λ_ y=>Rd.back y) () (aW _,aZ _)
def qs0:ah prog (.loop (aC f87 0)) wJ.M wJ ZL:=
 rJ MS (λi k s=>((i,()),k.1,k.2.1,k.2.2,())) av.dflt
def qnn:=λk s=>dJ (Fa k True) 0 k.1.2.2.2.1 s
def quz:=λk s=>gS (Fa k True) 0 k.1.2.2.2.1 s
abbrev wK:Pt:=⟨78,2,⟨[(7,.d i64)],[.x 2 29 ag,.r 2 2 0,.x 3 46 factT,.r 3 3 0,.x 4 29 ag,.r 4 4 0]⟩,⟨[],[.x 2 29 ag,.r 2 2 0,.x 3 46 factT,.r 3 3 0,.x 4 29 ag,.r 4 4 0]⟩,⟨[(5,.d i64)],[.x 4 29 ag,.r 4 4 0]⟩⟩
def zf3 (k:ag.den×factT.den×ag.den) (b:Prop) (i:Int) (e:av.den) (s:Unit):Fr (Unit ⊕ wK.R.X):=
 Jd b (Jb ((yz.f (k.1.2.2.2.1,k.2.1.2.2.2.2.2.2.2.2.2.1,e.2.2.1.1,())).1) (Jv (.inr ((13,()),(([],()),[],[],[],0,()),()))) (Jv (.inl ())))
def ZM:wK.M.X->Fr wK.Out:=FK (λx=>(x.1.1,(x.2.1,x.2.2.1,x.2.2.2.1),())) (λk=>(List.length k.1.2.2.2.1:Int)) (λk=>k.1.2.2.2.1) zf3 (λk _=>((),k.1,k.2.1,k.2.2,())) (λ_ y=>Rd.back y) () (aW _,aZ _)
def qs1:ah prog (.loop (aC f87 1)) wK.M wK ZM:=
 rJ MS (λi k s=>((i,()),k.1,k.2.1,k.2.2,())) av.dflt
def qno:=λk s=>dJ (zf3 k True) 0 k.1.2.2.2.1 s
def qu0:=λk s=>gS (zf3 k True) 0 k.1.2.2.2.1 s
open Go.Ab.Fr renaming val->Jv,need->Jd,br->Jb
def mB (p:cn.den):Prop:=(0<=p.2.1/\p.2.1<=1000000000000000)/\(0<=p.2.2.2.1/\p.2.2.2.1<=1000000000000000)
def zc2 {g:aB.den} (h:mB (cL g)):q8 g:=⟨⟨ue3 (by decide) h.1.1,ue3 h.1.2 (by decide)⟩,⟨ue3 (by decide) h.2.1,ue3 h.2.2 (by decide)⟩⟩
def Wt {s m:Int} (hs:0<=s/\s<=1000000000000000) (hm:0<=m/\m<=1000000000000000) (h:¬ m>I6.wrap (1000000000000000-s)):0<=I6.wrap (s+m)/\I6.wrap (s+m)<=1000000000000000:=by
 rw[IntWalk.i64_in _ (by omega)] at h;rw[IntWalk.i64_in _ (by omega)];omega
def qxg {p m:Int} (hp:0<=p/\p<=4000000000000000000) (hm:1<=m/\m<=1000000000000000) (h:¬ m>I6.wrap (4000000000000000000-p)):0<=I6.wrap (p+m)/\I6.wrap (p+m)<=4000000000000000000:=by
 rw[IntWalk.i64_in _ (by omega)] at h;rw[IntWalk.i64_in _ (by omega)];omega
def qak {g:aB.den} {a:aN.den} (h:mB (cL g)) (ha:0<=a.2.2.1/\a.2.2.1<=1000000000000000) (ho:sm g a=false):mB (iD (cL g) a):=by
 unfold sm at ho;rw[ubm] at ho;unfold iD;cases dA a.2.1 1 5
 ·exact h
 ·cases h1:a.2.1==1
  ·cases h2:a.2.1==2
   ·cases h3:a.2.1==3
    ·cases h4:a.2.1==4<;>exact h
    ·have h:=ho.2;rw[h3] at h;exact⟨‹mB (cL g)›.1,Wt ‹mB (cL g)›.2 ha (ucf h)⟩
   ·have h:=ho.1;rw[h2] at h;exact⟨Wt ‹mB (cL g)›.1 ha (ucf h),‹mB (cL g)›.2⟩
  ·exact h
def qdz {g:aB.den} {a:aN.den} (h:mB (cL g)) (e:(jj g a).2=0):mB (cL (jj g a).1):=by
 unfold jj at e |-;cases h1:gD a
 ·rw[h1] at e; exact absurd (show(1:Int)=0 from e) (by decide)
 ·rw[h1] at e;cases h2:decide (((List.length (α:=aN.den) g.2.1:Nat):Int)>=2000)
  ·rw[h2] at e;cases h3:decide (a.1<lQ g)
   ·rw[h3] at e;cases h4:(cL g).2.2.2.2.2.1==(a.2.1==5)
    ·rw[h4] at e;cases h5:sm g a
     ·show mB ((g.2.1++[a]).foldl iD (0,0,0,0,0,true,()));rw[List.foldl_append];exact qak h (NC h1) h5
     ·rw[h5] at e; exact absurd (show(5:Int)=0 from e) (by decide)
    ·rw[h4] at e; exact absurd (show(10:Int)=0 from e) (by decide)
   ·rw[h3] at e; exact absurd (show(4:Int)=0 from e) (by decide)
  ·rw[h2] at e; exact absurd (show(2:Int)=0 from e) (by decide)
structure PI (s:ag.den):Prop where
 paid:∀ a∈bP s,0<=a.2.1/\a.2.1<=4000000000000000000
 sum:∀ g∈bU s,mB (cL g)
 tre:∀ t∈bw s,dN t=true
 len:(bw s).length<=100
def qxk (t:aP.den):PI (ir t):=⟨λa h=>(by cases h),λg h=>(by cases h),λt h=>(by cases h),ufg _⟩
def qxj {s:ag.den} {f:factT.den} (h:PI s) (hf:cC f=true) (e:(gn s f).2=0):PI (gn s f).1:=by
 have hk:=Dy hf;rw[zi] at e |-;rcases pz hk with k|k|k|k|k|k|k<;>rw[k] at e |-
 ·show PI (fP s f).1;unfold fP;cases decide (aI s f>=0)
  ·cases decide (((List.length (bP s):Nat):Int)>=2000)
   ·refine⟨λa ha=>?_,h.sum,h.tre,h.len⟩;rcases Eq ha with ha|rfl
    ·exact h.paid a ha
    ·exact⟨ufb _,(by decide:(0:Int)<=4000000000000000000)⟩
   ·exact h
  ·exact h
 ·show PI (gG s f).1;unfold gG;cases h1:decide (aI s f<0)
  ·cases (bU s).any (lv f)
   ·refine⟨λa ha=>?_,h.sum,h.tre,h.len⟩;rcases DQ ha with ha|rfl
    ·exact h.paid a ha
    ·exact h.paid (dO s (aI s f)) (eh (ls (ucf h1)))
   ·exact h
  ·exact h
 ·show PI (gJ s f).1;unfold gJ;cases h1:decide (aI s f<0)
  ·cases h2:decide (dy f>I6.wrap (4000000000000000000-(dO s (aI s f)).2.1))
   ·refine⟨λa ha=>?_,h.sum,h.tre,h.len⟩;rcases DQ ha with ha|rfl
    ·exact h.paid a ha
    ·have hp:=h.paid (dO s (aI s f)) (eh (ls (ucf h1)));have ha:=Rc hf k;have h2:=ucf h2;show 0<=I6.wrap ((dO s (aI s f)).2.1+dy f)/\I6.wrap ((dO s (aI s f)).2.1+dy f)<=4000000000000000000;have hp:0<=(dO s (aI s f)).2.1/\(dO s (aI s f)).2.1<=4000000000000000000:=hp;exact qxg hp ha h2
   ·exact h
  ·exact h
 ·show PI (fR s f).1;unfold fR;cases decide (fC s (dk f).1>=0)
  ·cases decide (((List.length (bU s):Nat):Int)>=2000)
   ·cases !(lA s f).2
    ·refine⟨h.paid,λg hg=>?_,h.tre,h.len⟩;rcases Eq hg with hg|rfl
     ·exact h.sum g hg
     ·exact(by decide:((0:Int)<=0/\(0:Int)<=1000000000000000)/\((0:Int)<=0/\(0:Int)<=1000000000000000))
    ·exact h
   ·exact h
  ·exact h
 ·have e:(fA s f).2=0:=e;show PI (fA s f).1;unfold fA at e |-;cases h1:decide (gI s f<0)
  ·rw[h1] at e;refine⟨h.paid,λg hg=>?_,h.tre,h.len⟩;rcases DQ hg with hg|rfl
   ·exact h.sum g hg
   ·exact qdz (h.sum _ (eh (zo (ucf h1)))) e
  ·exact h
 ·show PI (gK s f).1;unfold gK;cases rj s (cp f)
  ·cases h2:decide (((List.length (bw s):Nat):Int)>=100)
   ·cases gu (bw s) (cp f)
    ·have h2:=ucf h2;refine⟨h.paid,h.sum,λt ht=>?_,?_⟩
     ·rcases Eq ht with ht|rfl
      ·exact h.tre t ht
      ·exact Rg hf k
     ·show(fo (λt=>t.1) (bw s) (cp f)).length<=100;rw[KL]; omega
    ·exact h
   ·exact h
  ·exact h
 ·show PI (gH s f).1;unfold gH;cases decide (dp f<=gW s)
  ·exact⟨h.paid,h.sum,h.tre,h.len⟩
  ·exact h
structure DI (s:ag.den):Prop where
 few:bg s
 p:PI s
def HU {t:aP.den} (h:bT t):DI (ir t):=⟨vT h,qxk t⟩
def qfx {s:ag.den} (f:factT.den) (h:DI s):DI (qI s f):=by
 refine⟨Qn f h.few,?_⟩;unfold qI;cases h1:(db s f).2==0
 ·exact h.p
 ·obtain⟨h2,h3,h4⟩:=LF (eq_of_beq h1);show PI (db s f).1;rw[h4];exact qxj h.p (Kn h2).1 h3
def PB {b:Int} {s:ag.den} (f:factT.den) (h:DI s):DI (mC b s f):=by
 unfold mC;cases decide (bx f>b)
 ·exact qfx f h
 ·exact h
def PA {b:Int}:(l:List factT.den) -> {s:ag.den}->DI s->DI (zu b l s)
 |[],_,h=>h
 |f::l,_,h=>PA l (PB f h)
open Go.Ab.Fr renaming val->Jv,need->Jd,br->Jb
noncomputable def qd8:List (FuncId×Ct):=[(125,jN),(126,Cp),(127,sn),(128,oM),(134,Hp),(133,yz)]
noncomputable def Zk:Cx:=cx qd8 []
def FV:CxOK prog Zk:=aJ aG ⟨Ph,qer,Pp,TL,qfr,Po,uT⟩ trivial
def qin (x:aq [.d ag,.d factT]):Fr (ae [ag,i64]):=
 let b:=(([],()),[],[],[],0,());let a:=(x.2.1.2.2.1,x.2.1.1,x.2.1.2.2.2.2.2.1,[],());Jb (decide ((jN.f (x.1,x.2.1.2.2.1,())).1>=0)) (Jv (b,8,())) (Jb (decide (((List.length x.1.2.1):Int)>=2000)) (Jv (b,2,())) (Jd (bg x.1) (Jd (bD a) (Jv (Cp.f (x.1,-1,a,0,()))))))
def qio:aa prog 83 (aL [.d ag,.d factT] [ag,i64] qin):=
 aH FV f83
abbrev kF (s:ag.den) (f:factT.den):aT.den:=(bP s).getD (dY s (cw f)).toNat aT.dflt
abbrev C8 (s:ag.den) (f:factT.den):Unit ⊕ wI.R.X:=qnm (dY s (cw f),s,f,cR,kF s f) ()
def zB (s:ag.den) (f:factT.den):Fr (ae [ag,i64]):=
 let c:=ba (aW _,aZ _) (C8 s f);let b:=kF s f;let a:=oM.f (b.1,fB f,());Jb (decide (dY s (cw f)<0)) (Jv (cR,7,())) (Jd (0<=dY s (cw f)/\dY s (cw f)<((List.length (bP s):Nat):Int)) (Jb (aF f==3)
  (Jb (decide (b.2.1>I6.wrap (4000000000000000000-dy f))) (Jv (cR,5,())) (Jd ((bP s).length<=400000) (Jv ((sn.f (s,dY s (cw f),(b.1,I6.wrap (b.2.1+dy f),()),())).1,0,()))))
  (Jd (InK ((List.length (bU s):Nat):Int) 0 (bU s).length) (Jd (quu (dY s (cw f),s,f,cR,kF s f) ()) (Jb (bi (C8 s f))
   (Jd (bD b.1) (Jb (a.2.1 != 0) (Jv (cR,a.2.1,())) (Jd (bg s) (Jd (bD a.1) (Jv (Cp.f (s,dY s (cw f),a.1,b.2.1,())))))))
   (Jv (c.2.1,c.1.1,())))))))
def qip:aa prog 84 ⟨[.d ag,.d factT],[ag,i64],λxs=>(zB xs.1 xs.2.1).get,λxs=>[(zB xs.1 xs.2.1).ok]⟩:=
 bz FV qst (ps:=[.d ag,.d factT]) (rs:=[ag,i64]) (fr:=λxs=>zB xs.1 xs.2.1)
abbrev Ed (s:ag.den) (f:factT.den):Unit ⊕ wJ.R.X:=qnn (s,f,cR) ()
abbrev Ec (s:ag.den) (f:factT.den):Unit ⊕ wK.R.X:=qno (s,f,cR) ()
def zD (s:ag.den) (f:factT.den):Fr (ae [ag,i64]):=
 let g:=Ec s f;let d:=Ed s f;let b:=(aW _,aZ _);let a:=((List.length (bw s):Nat):Int);let c:=InK a 0 (bw s).length;Jb (aF f==7) (Jb (decide (dp f<=gW s)) (Jv (cR,12,())) (Jv ((s.1,s.2.1,s.2.2.1,s.2.2.2.1,dp f,()),0,())))
  (Jd c (Jd (quz (s,f,cR) ()) (Jb (bi d)
   (Jb (decide (a>=100)) (Jv (cR,2,()))
    (Jd c (Jd (qu0 (s,f,cR) ()) (Jb (bi g)
     (Jb (yz.f (bw s,cp f,(cp f).2.2.1.1,())).1 (Jv (cR,13,())) (Jd ((bw s).length<=400000) (Jv ((Hp.f (s,cp f,())).1,0,()))))
     (Jv ((ba b g).2.1,(ba b g).1.1,()))))))
   (Jv ((ba b d).2.1,(ba b d).1.1,())))))
def qi5:aa prog 87 ⟨[.d ag,.d factT],[ag,i64],λxs=>(zD xs.1 xs.2.1).get,λxs=>[(zD xs.1 xs.2.1).ok]⟩:=
 zr FV qs0 qs1 (ps:=[.d ag,.d factT]) (rs:=[ag,i64]) (fr:=λxs=>zD xs.1 xs.2.1)
open Go.Ab.Fr renaming val->Jv,need->Jd,br->Jb
def D3 {T σ ρ:Type} {stp:Int->T->σ->Fr (σ ⊕ ρ)} {g:T->Bool} {c:ρ} (h:∀ i e s,(stp i e s).get=bif g e then .inr c else .inl s):(l:List T)->(i:Int)->(s:σ)->dJ stp i l s=bif l.any g then .inr c else .inl s
 |[],_,_=>rfl
 |e::l,i,s=>by
  unfold dJ;rw[h,List.any_cons];cases g e
  ·exact D3 h l _ s
  ·rfl
def qbx {f:factT.den} (hf:cC f=true) (hk:aF f=1):bH f=((cw f,bx f,fS f,[],()),0):=by
 have hb:=Re hf;unfold sf at hb;rw[hk] at hb;have hb:(qz f&&ft (fS f))=true:=hb;rw[uc9] at hb;have hi:=hb.1;unfold qz at hi;rw[uc9,ucs,ucs] at hi;show lx (cw f) (bx f) (fS f)=_;unfold lx uP;rw[hb.2,show eO (bx f)=true from ud8 (qm8 hf),udt (show ¬ cw f<1 from ufl.2 hi.1),udt (show ¬ cw f>1000000000 from ufl.2 hi.2)];rfl
def GL:Ct:=⟨[.d ag,.d factT],[ag,i64],λx=>((eQ (fP x.1 x.2.1)).1,(eQ (fP x.1 x.2.1)).2,()),λx=>[bg x.1,cC x.2.1=true/\aF x.2.1=1]⟩
def qeh:aa prog 83 GL:=conv qio _ _ (λ_ _ x _ _ h=>by
 obtain⟨s,f,_⟩:=x;obtain⟨hs,hf,hk⟩:bg s/\cC f=true/\aF f=1:=h;have hb:=qbx hf hk;have hfew:bD (cw f,bx f,fS f,[],()):=by
  have:=G7 (cw f) (bx f) (fS f)
  rwa [show lx (cw f) (bx f) (fS f)=_ from hb] at this
 unfold fP;rw[hb];cases h1:decide (aI s f>=0)
 ·refine ax h1 ?_;cases h2:decide (((List.length (bP s):Nat):Int)>=2000)
  ·exact ax rfl (au hs (au hfew ⟨uT,rfl⟩))
  ·exact ay rfl ⟨uT,rfl⟩
 ·exact ay h1 ⟨uT,rfl⟩)
def qxf {p m:Int} (hp:0<=p/\p<=4000000000000000000) (hm:1<=m/\m<=1000000000000000):decide (p>I6.wrap (4000000000000000000-m))=decide (m>I6.wrap (4000000000000000000-p)):=by
 rw[IntWalk.i64_in _ (by omega),IntWalk.i64_in _ (by omega)];exact udf.2 (by omega)
def qwi (s:ag.den) (e:Int):eQ (s,e)=bif e != 0 then (cR,e) else (s,0):=rfl
def l9 (s:ag.den) (f:factT.den):ag.den×Int:=eQ (bif aF f==3 then gJ s f else gG s f)
def GM:Ct:=⟨[.d ag,.d factT],[ag,i64],λx=>((l9 x.1 x.2.1).1,(l9 x.1 x.2.1).2,()),λx=>[DI x.1,cC x.2.1=true]⟩
def qek:aa prog 84 GM:=conv qip _ _ (λw F x vs hr h=>by
 obtain⟨s,f,_⟩:=x;obtain⟨v,vs',rfl,hv,_⟩:=hr;obtain⟨hd,hf⟩:DI s/\cC f=true:=h;have hs:=hd.few;have hlen:=uen hs.2.1 (show 100000<=400000 by decide);show(zB s f).ok/\(zB s f).get=((l9 s f).1,(l9 s f).2,());unfold l9 gJ gG;cases h1:decide (aI s f<0)
 ·have hi:=ucf h1;refine ax (by first|rfl|exact h1) (au (ls hi) ?_);have hset:∀ a:aT.den,(sn.f (s,aI s f,a,())).1=jG s ((bP s).set (aI s f).toNat a):=λa=>by
   show jG s (mv fZ (bP s) (aI s f) a)=_;unfold mv;rw[if_neg hi]
  cases h2:aF f==3
  ·refine ax (by first|rfl|exact h2) ?_;have hgo:C8 s f=bif (bU s).any (lv f) then .inr ((10,()),(cR,())) else .inl ():=D3 (λi e _=>by
    show(Jb (bif e.1.2.1==cw f then decide (e.1.2.2.2.2.1>=bx f) else false) _ _).get=_;unfold lv;cases (bif e.1.2.1==cw f then decide (e.1.2.2.2.2.1>=bx f) else false)<;>rfl) _ _ _
   refine iO (kS (AR hv).2.1) (w7 (stp:=EW (aI s f,s,f,cR,kF s f) True) (λ_ _ _=>⟨uT,λ_=>uT,λ_=>uT,λ_=>uT⟩) _ _ _) ?_;cases h3:(bU s).any (lv f)
   ·rw[h3] at hgo;refine ay (by rw[hgo]; rfl) (au (qu hs hi) ?_);cases h4:(pH s f).2 != 0
    ·have h5:((pH s f).2==0)=true:=by simpa using h4
     refine ax (by first|rfl|exact h4) (au hs (au (KN (qu hs hi)) ⟨uT,?_⟩));show((qy s (aI s f) (pH s f).1 (dO s (aI s f)).2.1).1,(qy s (aI s f) (pH s f).1 (dO s (aI s f)).2.1).2,())=_;unfold qy mv;rw[if_neg hi,h5];rfl
    ·have h5:((pH s f).2==0)=false:=by simpa using h4
     refine ay (by first|rfl|exact h4) ⟨uT,?_⟩;rw[h5];have ho:∀ X,eQ (X,(pH s f).2)=(cR,(pH s f).2):=λX=>by rw[qwi,h4]; rfl
     exact(ufv (λr:ag.den×Int=>((r.1,r.2,()):ae [ag,i64])) (ho _)).symm
   ·rw[h3] at hgo;refine ax (by rw[hgo]; rfl) ⟨uT,?_⟩;rw[hgo];rfl
  ·refine ay (by first|rfl|exact h2) ?_;have hm:=Rc hf (eq_of_beq h2);have hp:=hd.p.paid (dO s (aI s f)) (eh (ls hi));have hpe:=qxf hp hm;cases h3:decide (dy f>I6.wrap (4000000000000000000-(dO s (aI s f)).2.1))
   ·refine ax (hpe.trans h3) (au hlen ⟨uT,?_⟩);show((sn.f (s,aI s f,_,())).1,(0:Int),())=_;rw[hset];rfl
   ·exact ay (hpe.trans h3) ⟨uT,rfl⟩
 ·refine ay (by first|rfl|exact h1) ⟨uT,?_⟩;cases aF f==3<;>rfl)
def qJ (s:ag.den) (f:factT.den):ag.den×Int:=eQ (bif aF f==7 then gH s f else gK s f)
def He:Ct:=⟨[.d ag,.d factT],[ag,i64],λx=>((qJ x.1 x.2.1).1,(qJ x.1 x.2.1).2,()),λx=>[PI x.1,aF x.2.1≠7->dN (cp x.2.1)=true]⟩
def qeu:aa prog 87 He:=conv qi5 _ _ (λw F x vs hr h=>by
 obtain⟨s,f,_⟩:=x;obtain⟨v,vs',rfl,hv,_⟩:=hr;obtain⟨hq,hf⟩:PI s/\(aF f≠7->dN (cp f)=true):=h;have hin:InK ((List.length (bw s):Nat):Int) 0 (bw s).length:=kS (AR hv).2.2;show(zD s f).ok/\(zD s f).get=((qJ s f).1,(qJ s f).2,());unfold qJ gH gK;cases h1:aF f==7
 ·refine ax (by first|rfl|exact h1) ?_;have ht:=hf (by simpa using h1);have hgo:Ed s f=bif rj s (cp f) then .inr ((8,()),(cR,())) else .inl ():=D3 (λi e _=>by
   show(Jb (e.1==(cp f).1) _ _).get=_;cases e.1==(cp f).1<;>rfl) _ _ _
  refine iO hin (w7 (stp:=Fa (s,f,cR) True) (λ_ _ _=>⟨uT,λ_=>uT,λ_=>uT⟩) _ _ _) ?_;cases h2:rj s (cp f)
  ·rw[h2] at hgo;refine ay (by rw[hgo]; rfl) ?_;cases h3:decide (((List.length (bw s):Nat):Int)>=100)
   ·refine ax (by first|rfl|exact h3) ?_;have hl:(bw s).length<=400000:=uen hq.len (by decide);have hgb:Ec s f=bif (bw s).any (λe=>gT (bw s) (cp f) e.2.2.1.1) then .inr ((13,()),(cR,())) else .inl ():=D3 (λi e _=>by
     show(Jb (gT (bw s) (cp f) e.2.2.1.1) _ _).get=_;cases gT (bw s) (cp f) e.2.2.1.1<;>rfl) _ _ _
    refine iO hin (w7 (stp:=zf3 (s,f,cR) True) (λ_ _ _=>⟨uT,λ_=>uT,λ_=>uT⟩) _ _ _) ?_;have ho:=qwx hq.tre ht (uen hq.len (by decide));cases h4:(bw s).any (λe=>gT (bw s) (cp f) e.2.2.1.1)
    ·rw[h4] at hgb ho;refine ay (by rw[hgb]; rfl) ?_;rw[ufj] at ho;cases h5:gu (bw s) (cp f)
     ·exact ax (ho.trans h5) (au hl ⟨uT,rfl⟩)
     ·exact ay (ho.trans h5) ⟨uT,rfl⟩
    ·rw[h4] at hgb ho;rw[<- ho];refine ax (by rw[hgb]; rfl) ⟨uT,?_⟩;rw[hgb];rfl
   ·exact ay (by first|rfl|exact h3) ⟨uT,rfl⟩
  ·rw[h2] at hgo;refine ax (by rw[hgo]; rfl) ⟨uT,?_⟩;rw[hgo];rfl
 ·refine ay (by first|rfl|exact h1) ?_;cases h2:decide (dp f<=gW s)
  ·exact ax (by first|rfl|exact h2) ⟨uT,rfl⟩
  ·exact ay (by first|rfl|exact h2) ⟨uT,rfl⟩)
noncomputable def qd9:List (FuncId×Ct):=[(82,qa),(83,GL),(84,GM),(85,Hn),(86,GH),(87,He)]
noncomputable def Zl:Cx:=cx qd9 []
def Zm:CxOK prog Zl:=aJ aG ⟨P1,qeh,qek,qfp,qeg,qeu,uT⟩ trivial
open Go.Ab.Fr renaming val->Jv,need->Jd,br->Jb
def Bl (s:ag.den) (f:factT.den):Fr (ae [ag,i64]):=
 Jb (aF f==4) (Jd (bg s) (Jv (Hn.f (s,f,())))) (Jb (aF f==5) (Jd (bg s) (Jd (∀ g∈bU s,q8 g) (Jv (GH.f (s,f,()))))) (Jd (PI s) (Jd (aF f≠7->dN (cp f)=true) (Jv (He.f (s,f,()))))))
def OB (s:ag.den) (f:factT.den):Fr (ae [ag,i64]):=Jd (DI s) (Jd (cC f=true) (Jv (GM.f (s,f,()))))
def wc (s:ag.den) (f:factT.den):Fr (ae [ag,i64]):=
 Jb (!(cC f)) (Jv (cR,1,())) (Jb (decide (bx f<=gW s)) (Jv (cR,12,())) (Jb (aF f==1) (Jd (bg s) (Jd (cC f=true/\aF f=1) (Jv (GL.f (s,f,())))))
  (Jb (aF f==2) (Jb (aF f==2) (OB s f) (Bl s f)) (Jb (aF f==3) (OB s f) (Bl s f)))))
def qiv:aa prog 49 ⟨ye,[ag,i64],λxs=>(wc xs.1 xs.2.1).get,λxs=>[(wc xs.1 xs.2.1).ok]⟩:=
 aH Zm f49 (ps:=ye) (rs:=[ag,i64]) (fr:=λxs=>wc xs.1 xs.2.1)
def zb1 {k:Int} (h:1<=k/\k<=7) (h1:k≠1) (h2:k≠2) (h3:k≠3) (h4:k≠4) (h5:k≠5) (h7:k≠7):k=6:=by omega
def zdu {s:ag.den} {f:factT.den} (hd:DI s) (hf:cC f=true) (h1:(aF f==1)=false) (h2:(aF f==2)=false) (h3:(aF f==3)=false):(Bl s f).ok/\(Bl s f).get=((eQ (gn s f)).1,(eQ (gn s f)).2,()):=by
 rw[zi,h1,h2,h3];unfold Bl;have hk:=Dy hf;cases h4:aF f==4
 ·refine ax rfl ?_;cases h5:aF f==5
  ·have h6:aF f≠7->aF f=6:=λh7=>by
    have e1:aF f≠1:=by simpa using h1
    have e2:aF f≠2:=by simpa using h2
    have e3:aF f≠3:=by simpa using h3
    have e4:aF f≠4:=by simpa using h4
    have e5:aF f≠5:=by simpa using h5
    exact zb1 hk e1 e2 e3 e4 e5 h7
   refine ax rfl (au hd.p (au (λh7=>Rg hf (h6 h7)) ⟨uT,?_⟩));show((qJ s f).1,(qJ s f).2,())=_;unfold qJ;by_cases h7:aF f=7
   ·rw[h7]; rfl
   ·rw[h6 h7]; rfl
  ·exact ay rfl (au hd.few (au (λg hg=>zc2 (hd.p.sum g hg)) ⟨uT,rfl⟩))
 ·exact ay rfl (au hd.few ⟨uT,rfl⟩)
def zcr {s:ag.den} {f:factT.den} (h:fE s f=0):db s f=eQ (gn s f):=by
 unfold db eQ;rw[h];rfl
def yu:Ct:=⟨ye,[ag,i64],λx=>((db x.1 x.2.1).1,(db x.1 x.2.1).2,()),λx=>[DI x.1]⟩
def Pl:aa prog 49 yu:=conv qiv _ _ (λ_ _ x _ _ h=>by
 obtain⟨s,f,_⟩:=x;have hd:DI s:=h;show(wc s f).ok/\(wc s f).get=((db s f).1,(db s f).2,());unfold wc;cases h0:cC f
 ·refine ay rfl ⟨uT,?_⟩;unfold db fE;rw[h0];rfl
 refine ax rfl ?_;cases hb:decide (bx f<=gW s)
 rotate_left
 ·refine ay rfl ⟨uT,?_⟩;unfold db fE;rw[h0,hb];rfl
 refine ax rfl ?_;rw[zcr (show fE s f=0 by unfold fE; rw[h0,hb]; rfl)];cases h1:aF f==1
 ·refine ax rfl ?_;cases h2:aF f==2
  ·refine ax rfl ?_;cases h3:aF f==3
   ·exact ax rfl (zdu hd h0 h1 h2 h3)
   ·refine ay rfl (au hd (au h0 ⟨uT,?_⟩));show((l9 s f).1,(l9 s f).2,())=_;unfold l9;rw[zi,h1,h2,h3];rfl
  ·refine ay rfl (ay rfl (au hd (au h0 ⟨uT,?_⟩)));show((l9 s f).1,(l9 s f).2,())=_;unfold l9;rw[zi,h1,h2,eq_of_beq h2];rfl
 ·refine ay rfl (au hd.few (au ⟨rfl,eq_of_beq h1⟩ ⟨uT,?_⟩));rw[zi,h1];rfl)
noncomputable def Zn:Cx:=cx [(49,yu)] []
def MT:CxOK prog Zn:=aJ aG ⟨Pl,uT⟩ trivial
open Go.Ab.Fr renaming val->Jv,need->Jd,br->Jb
def zF {T:Type} (l:List T) (stp:Int->T->Unit->Fr (Unit ⊕ ((Bool×Unit)×Unit))) (K:Fr (ae [.bool])):Fr (ae [.bool]):=
 Jd (InK (l.length:Int) 0 l.length) (Jd (gS stp 0 l ()) (Jb (bi (dJ stp 0 l ())) K (Jv ((ba ((false,()),()) (dJ stp 0 l ())).1.1,()))))
def ziq {T ρ:Type} {stp:Int->T->Unit->Fr (Unit ⊕ ρ)} {l2:List T} {d:T} (h:∀ i e,0<=i/\i<(l2.length:Int)->l2.getD i.toNat d=e->(stp i e ()).ok/\(stp i e ()).get = .inl ()):(l p:List T)->(i:Int)->i=(p.length:Int)->l2=p++l->gS stp i l ()/\dJ stp i l () = .inl ()
 |[],_,_,_,_=>⟨uT,rfl⟩
 |e::l,p,i,hi,hp=>by
  have hl:l2.length=p.length+(e::l).length:=by rw[hp,ub4]
  rw[uc7] at hl;have he:l2.getD (Int.toNat i) d=e:=by
   rw[hp,hi,ucy,uah,uae (ufa _),Nat.sub_self];rfl
  have h2:=ziq h l (p++[e]) (i+1) (by rw[ub4,ua5]; omega) (by rw[hp,ucp]; rfl);have hs:=h i e (by omega) he;unfold gS dJ;rw[hs.2];exact⟨⟨hs.1,h2.1⟩,h2.2⟩
def vP {T:Type} {stp:Int->T->Unit->Fr (Unit ⊕ ((Bool×Unit)×Unit))} {l:List T} {d:T} {K:Fr (ae [.bool])} (hl:(l.length:Int)<=9223372036854775807) (h:∀ i e,0<=i/\i<(l.length:Int)->l.getD i.toNat d=e->(stp i e ()).ok/\(stp i e ()).get = .inl ()) (hK:K.ok/\K.get=(true,())):(zF l stp K).ok/\(zF l stp K).get=(true,()):=by
 have hg:=ziq h l [] 0 rfl rfl;refine iO (kS hl) hg.1 ?_;rw[hg.2];exact ay rfl hK
def zA (t:Ty):Ct:=⟨[.d t,.d t],[.bool],λ_=>(true,()),λx=>[x.1=x.2.1]⟩
open Go.Ab.Fr renaming val->Jv,need->Jd,br->Jb
abbrev zic:Pt:=⟨38,0,⟨[(5,.d i64)],[.x 2 76 aB,.r 2 2 0,.x 3 76 aB,.r 3 3 0]⟩,⟨[],[]⟩,⟨[(4,.d .bool)],[]⟩⟩
def ziu (k:aB.den×aB.den) (b:Prop) (i:Int) (e:aN.den) (s:Unit):Fr (Unit ⊕ zic.R.X):=
 let a:=List.getD k.2.2.1 (Int.toNat i) aN.dflt;Jd b (Jd (0<=i/\i<((List.length k.2.2.1):Int)) (Jb (!(e.1==a.1&&(e.2.1==a.2.1&&(e.2.2.1==a.2.2.1&&true)))) (Jv (.inr ((false,()),()))) (Jv (.inl ()))))
def zi8:zic.M.X->Fr zic.Out:=FK (λx=>(x.1.1,(x.2.1,x.2.2.1),())) (λk=>(List.length k.1.2.1:Int)) (λk=>k.1.2.1) ziu (λk s=>((),())) (λ_ y=>Rd.back y) () (aW _,aZ _)
def zjn:ah prog (.loop (aC f39 0)) zic.M zic zi8:=
 rJ eI (λi k s=>((i,()),k.1,k.2,())) aN.dflt
abbrev zia:Pt:=⟨26,0,⟨[(5,.d i64),(0,.d bE),(1,.d bE)],[]⟩,⟨[],[]⟩,⟨[(4,.d .bool)],[]⟩⟩
def zis (k:(List Int)×(List Int)) (b:Prop) (i:Int) (e:i64.den) (s:Unit):Fr (Unit ⊕ zia.R.X):=
 Jd b (Jd (0<=i/\i<((List.length k.2):Int)) (Jb (e != List.getD k.2 (Int.toNat i) i64.dflt) (Jv (.inr ((false,()),()))) (Jv (.inl ()))))
def zi6:zia.M.X->Fr zia.Out:=FK (λx=>(x.1.1,(x.1.2.1,x.1.2.2.1),())) (λk=>(List.length k.1:Int)) (λk=>k.1) zis (λk s=>((),())) (λ_ y=>Rd.back y) () (aW _,aZ _)
def zjl:ah prog (.loop (aC f102 0)) zia.M zia zi6:=
 rJ eI (λi k s=>((i,k.1,k.2,()),())) i64.dflt
abbrev zih:Pt:=⟨26,0,⟨[(5,.d i64),(0,.d (.sl aS)),(1,.d (.sl aS))],[]⟩,⟨[],[]⟩,⟨[(4,.d .bool)],[]⟩⟩
def ziz (k:(List aS.den)×(List aS.den)) (b:Prop) (i:Int) (e:aS.den) (s:Unit):Fr (Unit ⊕ zih.R.X):=
 let a:=List.getD k.2 (Int.toNat i) aS.dflt;Jd b (Jd (0<=i/\i<((List.length k.2):Int)) (Jb (!(e.1==a.1&&(e.2.1==a.2.1&&true))) (Jv (.inr ((false,()),()))) (Jv (.inl ()))))
def zjd:zih.M.X->Fr zih.Out:=FK (λx=>(x.1.1,(x.1.2.1,x.1.2.2.1),())) (λk=>(List.length k.1:Int)) (λk=>k.1) ziz (λk s=>((),())) (λ_ y=>Rd.back y) () (aW _,aZ _)
def zjs:ah prog (.loop (aC f101 0)) zih.M zih zjd:=
 rJ eI (λi k s=>((i,k.1,k.2,()),())) aS.dflt
open Go.Ab.Fr renaming val->Jv,need->Jd,br->Jb
def PZ (a b:cO.den):Bool:=a.1==b.1&&(a.2.1==b.2.1&&(a.2.2.1==b.2.2.1&&(a.2.2.2.1==b.2.2.2.1&&(a.2.2.2.2.1==b.2.2.2.2.1&&(a.2.2.2.2.2.1==b.2.2.2.2.2.1&&true)))))
def zje:aa prog 102 (zA bE):=
 conv (bz eI zjl (ps:=[.d bE,.d bE]) (rs:=[.bool]) (fr:=λx=>Jb (((List.length x.1:Nat):Int) != ((List.length x.2.1:Nat):Int)) (Jv (false,())) (zF x.1 (zis (x.1,x.2.1) True) (Jv (true,()))))) _ _ (λw F x vs hr h=>by
  obtain⟨a,b,_⟩:=x;obtain⟨v,vs',rfl,hv,_⟩:=hr;have h:a=b:=h;subst h;exact ax (by simp) (vP (d:=i64.dflt) (fw hv) (λi e hi he=>au trivial (au hi (ax (by show(e != List.getD a i.toNat _)=false; rw[he]; simp) ⟨uT,rfl⟩))) ⟨uT,rfl⟩))
def zjk:aa prog 101 (zA (.sl aS)):=
 conv (bz eI zjs (ps:=[.d (.sl aS),.d (.sl aS)]) (rs:=[.bool]) (fr:=λx=>Jb (((List.length x.1:Nat):Int) != ((List.length x.2.1:Nat):Int)) (Jv (false,())) (zF x.1 (ziz (x.1,x.2.1) True) (Jv (true,()))))) _ _ (λw F x vs hr h=>by
  obtain⟨a,b,_⟩:=x;obtain⟨v,vs',rfl,hv,_⟩:=hr;have h:a=b:=h;subst h;exact ax (by simp) (vP (d:=aS.dflt) (fw hv) (λi e hi he=>au trivial (au hi (ax (by show(!(_==(List.getD a i.toNat _).1&&_))=false; rw[he]; simp) ⟨uT,rfl⟩))) ⟨uT,rfl⟩))
def zjg:aa prog 39 (zA aB):=
 conv (bz eI zjn (ps:=[.d aB,.d aB]) (rs:=[.bool]) (fr:=λx=>Jb (bif !(PZ x.1.1 x.2.1.1) then true else ((List.length (α:=aN.den) x.1.2.1:Nat):Int) != ((List.length (α:=aN.den) x.2.1.2.1:Nat):Int)) (Jv (false,())) (zF x.1.2.1 (ziu (x.1,x.2.1) True) (Jv (true,()))))) _ _ (λw F x vs hr h=>by
  obtain⟨a,b,_⟩:=x;obtain⟨v,vs',rfl,hv,_⟩:=hr;have h:a=b:=h;subst h;exact ax (by simp[PZ]) (vP (d:=aN.dflt) (zp hv) (λi e hi he=>au trivial (au hi (ax (by show(!(_==(List.getD a.2.1 i.toNat _).1&&_))=false; rw[he]; simp) ⟨uT,rfl⟩))) ⟨uT,rfl⟩))
noncomputable def zi1:Cx:=cx [(103,iG),(102,zA bE),(101,zA (.sl aS))] []
def zij:CxOK prog zi1:=aJ aG ⟨UG,zje,zjk,uT⟩ trivial
def svA (a b:az.den):Bool:=bif bif a.1==b.1 then a.2.1.1==b.2.1.1&&(a.2.1.2.1==b.2.1.2.1&&(a.2.1.2.2.1==b.2.1.2.2.1&&(a.2.1.2.2.2.1==b.2.1.2.2.2.1&&true))) else false then a.2.2.2.2.2.1==b.2.2.2.2.2.1 else false
def zji:aa prog 64 (zA az):=
 conv (aH zij f64 (ps:=[.d az,.d az]) (rs:=[.bool]) (fr:=λx=>Jd (svA x.1 x.2.1=true->x.1.2.2.1=x.2.1.2.2.1) (Jd ((bif svA x.1 x.2.1 then true else false)=true->x.1.2.2.2.1=x.2.1.2.2.2.1) (Jd ((bif bif svA x.1 x.2.1 then true else false then true else false)=true->x.1.2.2.2.2.1=x.2.1.2.2.2.2.1) (Jv (bif bif bif svA x.1 x.2.1 then true else false then true else false then true else false,())))))) _ _ (λ_ _ x _ _ h=>by
  obtain⟨a,b,_⟩:=x;have h:a=b:=h;subst h;refine au (λ_=>rfl) (au (λ_=>rfl) (au (λ_=>rfl) ⟨uT,?_⟩));show(bif bif bif svA a a then true else false then true else false then true else false,())=(true,());simp[svA])
def zh8 (a b:cj.den):Bool:=a.1==b.1&&(a.2.1==b.2.1&&(a.2.2.1==b.2.2.1&&(a.2.2.2.1==b.2.2.2.1&&true)))
def zim:aa prog 66 (zA ar):=
 conv (aH zij f66 (ps:=[.d ar,.d ar]) (rs:=[.bool]) (fr:=λx=>Jv (bif bif bif bif bif dm x.1.2.2.2.2.1 x.2.1.2.2.2.2.1 then x.1.1==x.2.1.1 else false then x.1.2.1==x.2.1.2.1 else false then x.1.2.2.1==x.2.1.2.2.1 else false then zh8 x.1.2.2.2.1 x.2.1.2.2.2.1 else false then x.1.2.2.2.2.2.1==x.2.1.2.2.2.2.2.1 else false,()))) _ _ (λ_ _ x _ _ h=>by
  obtain⟨a,b,_⟩:=x;have h:a=b:=h;subst h;refine⟨uT,?_⟩;show(bif bif bif bif bif dm a.2.2.2.2.1 a.2.2.2.2.1 then a.1==a.1 else false then a.2.1==a.2.1 else false then a.2.2.1==a.2.2.1 else false then zh8 a.2.2.2.1 a.2.2.2.1 else false then a.2.2.2.2.2.1==a.2.2.2.2.2.1 else false,())=(true,());simp[zh8,UI])
def zin:aa prog 65 (zA cr):=
 conv (aH zij f65 (ps:=[.d cr,.d cr]) (rs:=[.bool]) (fr:=λx=>Jv (bif bif dm x.1.2.2.1 x.2.1.2.2.1 then x.1.1.1==x.2.1.1.1&&(x.1.1.2.1==x.2.1.1.2.1&&true) else false then zh8 x.1.2.1 x.2.1.2.1 else false,()))) _ _ (λ_ _ x _ _ h=>by
  obtain⟨a,b,_⟩:=x;have h:a=b:=h;subst h;refine⟨uT,?_⟩;show(bif bif dm a.2.2.1 a.2.2.1 then a.1.1==a.1.1&&(a.1.2.1==a.1.2.1&&true) else false then zh8 a.2.1 a.2.1 else false,())=(true,());simp[zh8,UI])
noncomputable def zi2:Cx:=cx [(64,zA az),(66,zA ar)] []
def zil:CxOK prog zi2:=aJ aG ⟨zji,zim,uT⟩ trivial
open Go.Ab.Fr renaming val->Jv,need->Jd,br->Jb
abbrev zib:Pt:=⟨32,0,⟨[(5,.d i64)],[.x 2 24 aP,.r 2 2 0,.x 3 24 aP,.r 3 3 0]⟩,⟨[],[]⟩,⟨[(4,.d .bool)],[]⟩⟩
def zit (k:aP.den×aP.den) (b:Prop) (i:Int) (e:az.den) (s:Unit):Fr (Unit ⊕ zib.R.X):=
 let a:=List.getD k.2.1 (Int.toNat i) az.dflt;Jd b (Jd (0<=i/\i<((List.length k.2.1):Int)) (Jd (e=a) (Jb (!((zA az).f (e,a,())).1) (Jv (.inr ((false,()),()))) (Jv (.inl ())))))
def zi7:zib.M.X->Fr zib.Out:=FK (λx=>(x.1.1,(x.2.1,x.2.2.1),())) (λk=>(List.length k.1.1:Int)) (λk=>k.1.1) zit (λk s=>((),())) (λ_ y=>Rd.back y) () (aW _,aZ _)
def zjm:ah prog (.loop (aC f37 0)) zib.M zib zi7:=
 rJ zil (λi k s=>((i,()),k.1,k.2,())) az.dflt
abbrev zid:Pt:=⟨58,0,⟨[(6,.d i64)],[.x 2 54 ap,.r 2 2 0,.x 3 54 ap,.r 3 3 0]⟩,⟨[],[]⟩,⟨[(4,.d .bool)],[]⟩⟩
def ziv (k:ap.den×ap.den) (b:Prop) (i:Int) (e:ar.den) (s:Unit):Fr (Unit ⊕ zid.R.X):=
 let a:=List.getD k.2.2.2.2.1 (Int.toNat i) ar.dflt;Jd b (Jd (0<=i/\i<((List.length k.2.2.2.2.1):Int)) (Jd (e=a) (Jb (!((zA ar).f (e,a,())).1) (Jv (.inr ((false,()),()))) (Jv (.inl ())))))
def zi9:zid.M.X->Fr zid.Out:=FK (λx=>(x.1.1,(x.2.1,x.2.2.1),())) (λk=>(List.length k.1.2.2.2.1:Int)) (λk=>k.1.2.2.2.1) ziv (λk s=>((),())) (λ_ y=>Rd.back y) () (aW _,aZ _)
def zjo:ah prog (.loop (aC f38 0)) zid.M zid zi9:=
 rJ zil (λi k s=>((i,()),k.1,k.2,())) ar.dflt
open Go.Ab.Fr renaming val->Jv,need->Jd,br->Jb
noncomputable def zi4:Cx:=cx [(65,zA cr)] []
def zi5:CxOK prog zi4:=aJ aG ⟨zin,uT⟩ trivial
def zjf:aa prog 37 (zA aP):=
 conv (bz eI zjm (ps:=[.d aP,.d aP]) (rs:=[.bool]) (fr:=λx=>Jb (((List.length (α:=az.den) x.1.1:Nat):Int) != ((List.length (α:=az.den) x.2.1.1:Nat):Int)) (Jv (false,())) (zF x.1.1 (zit (x.1,x.2.1) True) (Jv (true,()))))) _ _ (λw F x vs hr h=>by
  obtain⟨a,b,_⟩:=x;obtain⟨v,vs',rfl,hv,_⟩:=hr;have h:a=b:=h;subst h;exact ax (by simp) (vP (d:=az.dflt) (zdm hv) (λi e hi he=>au trivial (au hi (au he.symm (ax rfl ⟨uT,rfl⟩)))) ⟨uT,rfl⟩))
def zjh:aa prog 38 (zA ap):=
 conv (bz zi5 zjo (ps:=[.d ap,.d ap]) (rs:=[.bool]) (fr:=λx=>Jd (x.1.2.2.1=x.2.1.2.2.1) (Jb (bif bif bif !true then true else x.1.1 != x.2.1.1 then true else x.1.2.1 != x.2.1.2.1 then true else ((List.length (α:=ar.den) x.1.2.2.2.1:Nat):Int) != ((List.length (α:=ar.den) x.2.1.2.2.2.1:Nat):Int)) (Jv (false,())) (zF x.1.2.2.2.1 (ziv (x.1,x.2.1) True) (Jv (true,())))))) _ _ (λw F x vs hr h=>by
  obtain⟨a,b,_⟩:=x;obtain⟨v,vs',rfl,hv,_⟩:=hr;have h:a=b:=h;subst h;exact au rfl (ax (by simp) (vP (d:=ar.dflt) (qn4 hv) (λi e hi he=>au trivial (au hi (au he.symm (ax rfl ⟨uT,rfl⟩)))) ⟨uT,rfl⟩)))
noncomputable def zi3:Cx:=cx [(38,zA ap),(39,zA aB)] []
def zik:CxOK prog zi3:=aJ aG ⟨zjh,zjg,uT⟩ trivial
open Go.Ab.Fr renaming val->Jv,need->Jd,br->Jb
abbrev zie:Pt:=⟨127,0,⟨[(6,.d i64)],[.x 2 29 ag,.r 2 2 0,.x 3 29 ag,.r 3 3 0]⟩,⟨[],[.x 2 29 ag,.r 2 2 0,.x 3 29 ag,.r 3 3 0]⟩,⟨[(4,.d .bool)],[]⟩⟩
def ziw (k:ag.den×ag.den) (b:Prop) (i:Int) (e:aT.den) (s:Unit):Fr (Unit ⊕ zie.R.X):=
 let d:=((List.length k.2.2.1):Int);let a:=List.getD k.2.2.1 (Int.toNat i) aT.dflt;let c:=(zA ap).f (e.1,a.1,());Jd b (Jd (0<=i/\i<d) (Jd (e.1=a.1) (Jd ((!c.1)=false->b) (Jd ((!c.1)=false->0<=i/\i<d) (Jb (bif !c.1 then true else e.2.1 != a.2.1) (Jv (.inr ((false,()),()))) (Jv (.inl ())))))))
def zja:zie.M.X->Fr zie.Out:=FK (λx=>(x.1.1,(x.2.1,x.2.2.1),())) (λk=>(List.length k.1.2.1:Int)) (λk=>k.1.2.1) ziw (λk s=>((),k.1,k.2,())) (λ_ y=>Rd.back y) () (aW _,aZ _)
def zjp:ah prog (.loop (aC f15 0)) zie.M zie zja:=
 rJ zik (λi k s=>((i,()),k.1,k.2,())) aT.dflt
abbrev zif:Pt:=⟨127,2,⟨[(8,.d i64)],[.x 2 29 ag,.r 2 2 0,.x 3 29 ag,.r 3 3 0]⟩,⟨[],[.x 2 29 ag,.r 2 2 0,.x 3 29 ag,.r 3 3 0]⟩,⟨[(4,.d .bool)],[]⟩⟩
def zix (k:ag.den×ag.den) (b:Prop) (i:Int) (e:aB.den) (s:Unit):Fr (Unit ⊕ zif.R.X):=
 let a:=List.getD k.2.2.2.1 (Int.toNat i) aB.dflt;Jd b (Jd (0<=i/\i<((List.length k.2.2.2.1):Int)) (Jd (e=a) (Jb (!((zA aB).f (e,a,())).1) (Jv (.inr ((false,()),()))) (Jv (.inl ())))))
def zjb:zif.M.X->Fr zif.Out:=FK (λx=>(x.1.1,(x.2.1,x.2.2.1),())) (λk=>(List.length k.1.2.2.1:Int)) (λk=>k.1.2.2.1) zix (λk s=>((),k.1,k.2,())) (λ_ y=>Rd.back y) () (aW _,aZ _)
def zjq:ah prog (.loop (aC f15 1)) zif.M zif zjb:=
 rJ zik (λi k s=>((i,()),k.1,k.2,())) aB.dflt
abbrev zig:Pt:=⟨127,4,⟨[(10,.d i64)],[.x 2 29 ag,.r 2 2 0,.x 3 29 ag,.r 3 3 0]⟩,⟨[],[]⟩,⟨[(4,.d .bool)],[]⟩⟩
def ziy (k:ag.den×ag.den) (b:Prop) (i:Int) (e:av.den) (s:Unit):Fr (Unit ⊕ zig.R.X):=
 let c:=e.2.2;let a:=List.getD k.2.2.2.2.1 (Int.toNat i) av.dflt;let d:=a.2.2;Jd b (Jd (0<=i/\i<((List.length k.2.2.2.2.1):Int)) (Jb (!(e.1==a.1&&(e.2.1==a.2.1&&(c.1.1==d.1.1&&(c.1.2.1==d.1.2.1&&true)&&(c.2.1==d.2.1&&(c.2.2.1==d.2.2.1&&(c.2.2.2.1==d.2.2.2.1&&(c.2.2.2.2.1==d.2.2.2.2.1&&(c.2.2.2.2.2.1==d.2.2.2.2.2.1&&true))))))))) (Jv (.inr ((false,()),()))) (Jv (.inl ()))))
def zjc:zig.M.X->Fr zig.Out:=FK (λx=>(x.1.1,(x.2.1,x.2.2.1),())) (λk=>(List.length k.1.2.2.2.1:Int)) (λk=>k.1.2.2.2.1) ziy (λk s=>((),())) (λ_ y=>Rd.back y) () (aW _,aZ _)
def zjr:ah prog (.loop (aC f15 2)) zig.M zig zjc:=
 rJ zik (λi k s=>((i,()),k.1,k.2,())) av.dflt
open Go.Ab.Fr renaming val->Jv,need->Jd,br->Jb
def zii (a b:av.den):Bool:=a.1==b.1&&(a.2.1==b.2.1&&(a.2.2.1.1==b.2.2.1.1&&(a.2.2.1.2.1==b.2.2.1.2.1&&true)&&(a.2.2.2.1==b.2.2.2.1&&(a.2.2.2.2.1==b.2.2.2.2.1&&(a.2.2.2.2.2.1==b.2.2.2.2.2.1&&(a.2.2.2.2.2.2.1==b.2.2.2.2.2.2.1&&(a.2.2.2.2.2.2.2.1==b.2.2.2.2.2.2.2.1&&true)))))))
noncomputable def Zq:Cx:=cx [(65,zA cr),(66,zA ar),(37,zA aP)] []
def Zr:CxOK prog Zq:=aJ aG ⟨zin,zim,zjf,uT⟩ trivial
def smB (a b:ag.den):Bool:=bif bif bif bif !true then true else gW a != gW b then true else ((List.length (bP a):Nat):Int) != ((List.length (bP b):Nat):Int) then true else ((List.length (bU a):Nat):Int) != ((List.length (bU b):Nat):Int) then true else ((List.length (bw a):Nat):Int) != ((List.length (bw b):Nat):Int)
def zjj:aa prog 15 (zA ag):=
 conv (fn3 Zr zjp zjq zjr (ps:=[.d ag,.d ag]) (rs:=[.bool]) (fr:=λx=>Jd (x.1.1=x.2.1.1) (Jb (smB x.1 x.2.1) (Jv (false,())) (zF (bP x.1) (ziw (x.1,x.2.1) True) (zF (bU x.1) (zix (x.1,x.2.1) True) (zF (bw x.1) (ziy (x.1,x.2.1) True) (Jv (true,())))))))) _ _ (λw F x vs hr h=>by
  obtain⟨a,b,_⟩:=x;obtain⟨v,vs',rfl,hv,_⟩:=hr;have h:a=b:=h;subst h;have hw:=AR hv;refine au rfl (ax (by simp[smB]) (vP (d:=aT.dflt) hw.1 (λi e hi he=>?_) (vP (d:=aB.dflt) hw.2.1 (λi e hi he=>?_) (vP (d:=av.dflt) hw.2.2 (λi e hi he=>?_) ⟨uT,rfl⟩))))
  ·refine au trivial (au hi (au (by rw[<- he]) (au (λ_=>uT) (au (λ_=>hi) (ax ?_ ⟨uT,rfl⟩)))));show(bif !true then true else _ != (List.getD (bP a) i.toNat _).2.1)=false;rw[he];simp
  ·exact au trivial (au hi (au he.symm (ax rfl ⟨uT,rfl⟩)))
  ·refine au trivial (au hi (ax ?_ ⟨uT,rfl⟩));show(!(zii e (List.getD (bw a) i.toNat av.dflt)))=false;rw[he];simp[zii])
def zio (a b:aN.den):Bool:=a.1==b.1&&(a.2.1==b.2.1&&(a.2.2.1==b.2.2.1&&true))
def qe1:aa prog 52 (zA factT):=
 conv (aH Zr f52 (ps:=[.d factT,.d factT]) (rs:=[.bool]) (fr:=λx=>Jd (fS x.1=fS x.2.1) (Jd (fB x.1=fB x.2.1) (Jv (bif bif bif bif bif bif bif bif bif true then true else false then bx x.1==bx x.2.1 else false then aF x.1==aF x.2.1 else false then cw x.1==cw x.2.1 else false then dy x.1==dy x.2.1 else false then dp x.1==dp x.2.1 else false then PZ (dk x.1) (dk x.2.1) else false then zio (iL x.1) (iL x.2.1) else false then zii (cp x.1) (cp x.2.1) else false,()))))) _ _ (λ_ _ x _ _ h=>by
  obtain⟨f,g,_⟩:=x;have h:f=g:=h;subst h;refine au rfl (au rfl ⟨uT,?_⟩);show(_,())=((true,()):ae [.bool]);simp[PZ,zio,zii])
noncomputable def Zo:Cx:=cx [(52,zA factT)] []
def Zp:CxOK prog Zo:=aJ aG ⟨qe1,uT⟩ trivial
open Go.Ab.Fr renaming val->Jv,need->Jd,br->Jb
abbrev Az:Pt:=⟨44,0,⟨[(6,.d i64)],[.x 2 64 jourT,.r 2 2 0,.x 3 64 jourT,.r 3 3 0]⟩,⟨[],[]⟩,⟨[(4,.d .bool)],[]⟩⟩
def tW (k:jourT.den×jourT.den) (b:Prop) (i:Int) (e:factT.den) (s:Unit):Fr (Unit ⊕ Az.R.X):=
 let a:=List.getD k.2.2.1 (Int.toNat i) factT.dflt;Jd b (Jd (0<=i/\i<((List.length k.2.2.1):Int)) (Jd (e=a) (Jb (!((zA factT).f (e,a,())).1) (Jv (.inr ((false,()),()))) (Jv (.inl ())))))
def ZP:Az.M.X->Fr Az.Out:=FK (λx=>(x.1.1,(x.2.1,x.2.2.1),())) (λk=>(List.length k.1.2.1:Int)) (λk=>k.1.2.1) tW (λk s=>((),())) (λ_ y=>Rd.back y) () (aW _,aZ _)
def qs5:ah prog (.loop (aC f25 0)) Az.M Az ZP:=
 rJ Zp (λi k s=>((i,()),k.1,k.2,())) factT.dflt
abbrev Ez:Pt:=⟨47,0,⟨[(7,.d i64),(1,.d i64)],[.x 2 64 jourT,.r 2 2 0,.x 4 29 ag,.r 4 4 0,.x 6 29 ag,.r 6 6 0]⟩,⟨[],[.x 4 29 ag,.r 4 4 0,.x 6 29 ag,.r 6 6 0]⟩,⟨[],[]⟩⟩
def rf (k:Int×jourT.den×ag.den) (b:Prop) (_:Int) (e:factT.den) (s:ag.den):Fr ag.den:=
 let a:=yu.f (s,e,());Jd b (Jb (decide (e.1>k.1)) (Jv s) (Jd b (Jd (DI s) (Jb (a.2.1==0) (Jv a.1) (Jv s)))))
def ZK:Ez.M.X->Fr Ez.Out:=FG (λx=>(x.1.1,(x.1.2.1,x.2.1,x.2.2.1),x.2.2.2.1)) (λk=>(List.length k.2.1.2.1:Int)) (λk=>k.2.1.2.1) rf (λk s=>((),k.2.2,s,()))
def qsz:ah prog (.loop (aC f22 0)) Ez.M Ez ZK:=
 rI MT (λi k s=>((i,k.1,()),k.2.1,k.2.2,s,())) factT.dflt
def zC (j:jourT.den) (b:Int):Fr (ae [ag,i64]):=
 let a:=rf (b,j,cR) True;Jb (decide (((List.length (α:=factT.den) j.2.1:Nat):Int)>2000)) (Jv (cR,2,())) (Jd (InK ((List.length (α:=factT.den) j.2.1:Nat):Int) 0 (List.length (α:=factT.den) j.2.1)) (Jd (fF a 0 j.2.1 (ir j.1)) (Jv (cf a 0 j.2.1 (ir j.1),0,()))))
def qi3:aa prog 22 ⟨[.d jourT,.d i64],[ag,i64],λxs=>(zC xs.1 xs.2.1).get,λxs=>[(zC xs.1 xs.2.1).ok]⟩:=
 bz MT qsz (ps:=[.d jourT,.d i64]) (rs:=[ag,i64]) (fr:=λxs=>zC xs.1 xs.2.1)
def qe2:aa prog 25 (zA jourT):=
 conv (bz Zr qs5 (ps:=[.d jourT,.d jourT]) (rs:=[.bool]) (fr:=λx=>Jd (x.1.1=x.2.1.1) (Jb (bif !true then true else ((List.length (α:=factT.den) x.1.2.1:Nat):Int) != ((List.length (α:=factT.den) x.2.1.2.1:Nat):Int)) (Jv (false,())) (zF x.1.2.1 (tW (x.1,x.2.1) True) (Jv (true,())))))) _ _ (λw F x vs hr h=>by
  obtain⟨a,b,_⟩:=x;obtain⟨v,vs',rfl,hv,_⟩:=hr;have h:a=b:=h;subst h;exact au rfl (ax (by simp) (vP (d:=factT.dflt) (DG hv) (λi e hi he=>au trivial (au hi (au he.symm (ax rfl ⟨uT,rfl⟩)))) ⟨uT,rfl⟩)))
open Go.Ab.Fr renaming val->Jv,need->Jd,br->Jb
def qes (b:Int) (j:jourT.den) (i:Int) (e:factT.den) (s:ag.den) (h:DI s):(rf (b,j,cR) True i e s).ok/\(rf (b,j,cR) True i e s).get=mC b s e:=by
 unfold mC;refine au trivial ?_;cases h1:decide (bx e>b)
 ·refine ax (by first|rfl|exact h1) (au trivial (au h ?_));unfold qI;cases h2:(db s e).2==0
  ·exact ax (by first|rfl|exact h2) ⟨uT,rfl⟩
  ·exact ay (by first|rfl|exact h2) ⟨uT,rfl⟩
 ·exact ay (by first|rfl|exact h1) ⟨uT,rfl⟩
def Pm (b:Int) (j:jourT.den):(l:List factT.den)->(i:Int)->(s:ag.den)->DI s->fF (rf (b,j,cR) True) i l s/\cf (rf (b,j,cR) True) i l s=zu b l s
 |[],_,_,_=>⟨uT,rfl⟩
 |e::l,i,s,h=>by
  have h1:=qes b j i e s h;have h2:=Pm b j l (i+1) (mC b s e) (PB e h);unfold fF cf;rw[h1.2];exact⟨⟨h1.1,h2.1⟩,h2.2⟩
def Pn:aa prog 22 l8:=conv qi3 _ _ (λ_ _ x _ _ ht=>by
 obtain⟨j,b,_⟩:=x;have ht:bT j.1:=ht;show(zC j b).ok/\(zC j b).get=((dl j b).1,(dl j b).2,());unfold dl;cases h:decide (((List.length (α:=factT.den) j.2.1:Nat):Int)>2000)
 ·have h':=ucf h;have hg:=Pm b j j.2.1 0 (ir j.1) (HU ht);refine ax (by first|rfl|exact h) (iO (kS (by omega)) hg.1 ⟨uT,?_⟩);show(cf (rf (b,j,cR) True) 0 j.2.1 (ir j.1),0,())=_;rw[hg.2];rfl
 ·exact ay (by first|rfl|exact h) ⟨uT,rfl⟩)
noncomputable def qea:List (FuncId×Ct):=[(51,Oq),(22,l8),(49,yu)]
noncomputable def Zu:Cx:=cx qea []
def Zv:CxOK prog Zu:=aJ aG ⟨qew,Pn,Pl,uT⟩ trivial
def zE (j:jourT.den) (f:factT.den):Fr (ae [jourT,i64]):=
 let b:=gv j f;let a:=dl j 292194;let c:=db a.1 f;Jb (b.2 != 0) (Jv (ni,b.2,())) (Jd (bT j.1) (Jb (a.2 != 0) (Jv (ni,a.2,())) (Jd (DI a.1) (Jb (c.2 != 0) (Jv (ni,c.2,())) (Jv (b.1,0,()))))))
def qjd:aa prog 24 ⟨[.d jourT,.d factT],[jourT,i64],λxs=>(zE xs.1 xs.2.1).get,λxs=>[(zE xs.1 xs.2.1).ok]⟩:=
 aH Zv f24 (ps:=[.d jourT,.d factT]) (rs:=[jourT,i64]) (fr:=λxs=>zE xs.1 xs.2.1)
def qfy {j:jourT.den} (b:Int) (h:bT j.1):DI (dl j b).1:=by
 unfold dl;cases decide (((List.length (α:=factT.den) j.2.1:Nat):Int)>2000)
 ·exact PA _ (HU h)
 ·exact HU (t:=([],())) ⟨ufg _,λv hv=>by cases hv⟩
def qex:aa prog 24 Cu:=conv qjd _ _ (λ_ _ x _ _ h=>by
 obtain⟨j,f,_⟩:=x;have ht:bT j.1:=h.2;show(zE j f).ok/\(zE j f).get=((j8 j f).1,(j8 j f).2,());unfold j8;cases h1:(gv j f).2 != 0
 ·refine ax (by first|rfl|exact h1) (au ht ?_);cases h2:(dl j 292194).2 != 0
  ·refine ax (by first|rfl|exact h2) (au (qfy _ ht) ?_);cases h3:(db (dl j 292194).1 f).2 != 0
   ·exact ax (by first|rfl|exact h3) ⟨uT,rfl⟩
   ·exact ay (by first|rfl|exact h3) ⟨uT,rfl⟩
  ·exact ay (by first|rfl|exact h2) ⟨uT,rfl⟩
 ·exact ay (by first|rfl|exact h1) ⟨uT,rfl⟩)
open Go.Ab.Fr renaming val->Jv,need->Jd,br->Jb
noncomputable def qeb:List (FuncId×Ct):=[(10,O4),(16,Ot),(12,yw),(17,l8),(23,Cu),(22,l8),(24,Cu),(15,zA ag),(25,zA jourT)]
noncomputable def Zw:Cx:=cx qeb []
def Zx:CxOK prog Zw:=aJ aG ⟨qbd,qhr,qhm,SR,zcf,Pn,qex,zjj,qe2,uT⟩ trivial
def wd (j:jourT.den) (f:factT.den) (b:Int):Fr (ae [.bool]):=
 let a:=j8 j f;Jb (bif !(s9 j 40) then true else !(lJ f)) (Jv (true,())) (Jd (bT j.1) (Jd (bT j.1) (Jd (mV f) (Jd (bT j.1) (Jd (mV f) (Jd (bT j.1)
  (Jd ((bif true then (dl j b).2==(dl j b).2 else false)=true->(dl j b).1=(dl j b).1) (Jd ((bif bif bif true then (dl j b).2==(dl j b).2 else false then true else false then a.2==a.2 else false)=true->a.1=a.1)
   (Jv (bif bif bif bif true then (dl j b).2==(dl j b).2 else false then true else false then a.2==a.2 else false then true else false,()))))))))))
def qlp:aa prog 6 ⟨[.d jourT,.d factT,.d i64],[.bool],λx=>(wd x.1 x.2.1 x.2.2.1).get,λx=>[(wd x.1 x.2.1 x.2.2.1).ok]⟩:=
 aH Zx f6 (ps:=[.d jourT,.d factT,.d i64]) (rs:=[.bool]) (fr:=λx=>wd x.1 x.2.1 x.2.2.1)
def zdq (j:jourT.den) (f:factT.den) (b:Int):(wd j f b).ok/\(wd j f b).get=(true,()):=by
 unfold wd;cases hs:(bif !(s9 j 40) then true else !(lJ f))
 ·obtain⟨hj,hf⟩:=quj hs;have ht:=(qhq hj).1;have hf:=qhn hf;refine ax rfl (au ht (au ht (au hf (au ht (au hf (au ht (au (λ_=>rfl) (au (λ_=>rfl) ⟨uT,?_⟩))))))));simp[jE]
 ·exact ay rfl ⟨uT,rfl⟩
def lawTells_ok:aa prog 6 (qb5 [.d jourT,.d factT,.d i64]):=conv qlp _ _ (λ_ _ x _ _ _=>zdq x.1 x.2.1 x.2.2.1)
end Go.Proofs.YtgieagiaagoogaaGreat
