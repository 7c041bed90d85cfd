/-
  Parts of the proof, one behind the other.
-/
import Derived.Test.YtdadnmgajcfkfaaGreatMj
set_option linter.all false
set_option maxRecDepth 100000
set_option maxHeartbeats 4000000
noncomputable section
open Option renaming some->U,none->V
open Bool renaming true->Z,false->Y
open Decidable renaming decide->J
open List renaming replicate->Lrp
open BitVec renaming ofInt->Bvo
open Go Go.RowKit
variable {T α σ ρ β:Type} {P:Program} {ad:Addr} {arr cs cur:Array Value} {f:FuncId} {x a y day:Int} {k:IntKind} {l:List Int} {xs vs news:List Value} {off i n b c d B m len:Nat} {F F' K:Nat->Prop} {R g R':Nat->Value->Prop} {o:Oper} {p:Prop} {e ety t ty el:TypeId} {v u vx:Value} {w w' W' W:World}
namespace Go.Proofs.YtdadnmgajcfkfaaGreat
open Go Go.Ab Go.RowKit Go.Proofs Tryz
open Go.Ab.Fr renaming val->Jv,need->Jd,br->Jb
abbrev Hd:Pt:=⟨92,4,⟨[(62,.d i64),(61,.d i64),(11,.d i64)],[.al 60 8,.x 2 47 ar,.r 2 2 0,.o 8 52 aC]⟩,⟨[],[.o 8 52 aC]⟩,⟨[],[]⟩⟩
def Wu(c:ar.q)(p:aC.q)(a:Int):Int:=
 if 0<I6.wrap (yB c p.1 (I6.wrap (a-p.2.2.1))-p.2.2.1)then I6.wrap (yB c p.1 (I6.wrap (a-p.2.2.1))-p.2.2.1)else 0
def ny(k:Int×ar.q)(_b:Prop)(i:Int)(_e:Unit)(s:Int×List aC.q):Fr (Int×List aC.q):=
 let b:=(s.2.length:Int);let a:=s.2.getD i.toNat aC.j;Jd (0<=i/\i<b) (Jd (i.toNat<s.2.length) (Jb (!a.2.2.2.2.2.1) (Jv s)
  (Jd (0<=i/\i<b) (Jd (i.toNat<s.2.length) (Jv (I6.wrap (s.1+Wu k.2 a s.1),
   s.2.set i.toNat (a.1,a.2.1,a.2.2.1,a.2.2.2.1,Wu k.2 a s.1,a.2.2.2.2.2.1,())))))))
def qi9:Hd.M.X->Fr Hd.Out:=FG (λx=>(x.1.1,(x.1.2.1,x.2.1),(x.1.2.2.1,x.2.2.1))) (λk=>k.1) (λk=>Lrp k.1.toNat ()) ny (λ_ s=>((),s.2,()))
def zd5:af prog (.loop (au f26 2)) Hd.M Hd qi9:=
 cX DO (λi k s=>((i,k.1,s.1,()),k.2,s.2,())) ()
def xA(x:ap [.d ar,.d (.sl aq)]):Fr (aa [.sl aC,i64]):=
 Jd (dC x.2.1) (Jb ((dO.f x).2.1 != 0) (Jv ([],(dO.f x).2.1,()))
  (cT (InK ((List.length x.2.1):Int) 0 (List.length x.2.1)) (Y5 (((List.length x.2.1):Int),x.2.1,(dO.f x).1,x.1) []) (rA (((List.length x.2.1):Int),x.2.1,(dO.f x).1,x.1) []) (λb=>cT (InK ((List.length (dO.f x).1):Int) 0 (List.length (dO.f x).1)) (Y6 ((List.length (dO.f x).1:Int),(dO.f x).1,x.1) (0,b)) (uf ((List.length (dO.f x).1:Int),(dO.f x).1,x.1) (0,b)) (λa=>cT (InK (a.2.length:Int) 0 (Lrp (Int.toNat (a.2.length:Int)) ()).length) (bY (ny ((a.2.length:Int),x.1) True) 0 (Lrp (Int.toNat (a.2.length:Int)) ()) a) (bw (ny ((a.2.length:Int),x.1) True) 0 (Lrp (Int.toNat (a.2.length:Int)) ()) a) (λc=>Jv (c.2,0,()))))))
def qtc:ag prog 26 (bg [.d ar,.d (.sl aq)] [.sl aC,i64] xA):=
 Vi DO zd3 zd4 zd5 (fn:=f26)
def qk8(c:ar.q)(l:List aq.q)(r:List db.q)(f:l.length<=2000):Y5 ((l.length:Int),l,r,c) []/\(rA ((l.length:Int),l,r,c) []).length=l.length:=
 dK (step:=Di ((l.length:Int),l,r,c) True) (λi (s:List aC.q)=>s.length=i) l (λi e s a b=>by have d:=eO a;have g:=fI;refine⟨uT,?_,?_⟩;show s.length+1<=maxLen/\(s.length+1)*48<=140737488355328;omega;show(s++[_]).length=i+1;rw[ub6,b];rfl) [] rfl
def qla(c:ar.q)(r:List db.q)(n:Nat)(k:∀ x:db.q,x∈r->0<=x.1/\x.1<(n:Int))(s:Int×List aC.q)(b:s.2.length=n):Y6 ((r.length:Int),r,c) s/\(uf ((r.length:Int),r,c) s).2.length=n:=
 dK (step:=Dj ((r.length:Int),r,c) True) (λ_ (s:Int×List aC.q)=>s.2.length=n) r (λi e s g b=>by
  have a:=k e (ubg g);have h:=toNat_lt a;have d:0<=e.1/\e.1<(s.2.length:Int):=by rw[b];exact a
  have f:Int.toNat e.1<s.2.length:=by rw[b];exact h
  refine⟨uT,by decide,d,f,by decide,d,f,by decide,?_⟩;show(List.set _ _ _).length=n;rw[udp];exact b) s b
def qlc(c:ar.q)(n:Nat)(s:Int×List aC.q)(a:s.2.length=n):bY (ny ((n:Int),c) True) 0 (Lrp (Int.toNat (n:Int)) ()) s/\(bw (ny ((n:Int),c) True) 0 (Lrp (Int.toNat (n:Int)) ()) s).2.length=n:=
 dK (step:=ny ((n:Int),c) True) (λ_ (s:Int×List aC.q)=>s.2.length=n) (Lrp (Int.toNat (n:Int)) ()) (λi e s g a=>by have f:=eO g;rw[ubc,uc0]at f;obtain⟨b,d⟩:=ou f a;refine⟨b,d,λ_=>a,λ_=>⟨b,d,?_⟩⟩;show(List.set _ _ _).length=n;rw[udp];exact a) s a
def Se(c:ar.q)(l:List aq.q)(h:dC l):(xA (c,l,())).s7 (λy=>y.2.1=0->List.length (α:=aC.q) y.1=l.length):=by
 unfold xA;obtain⟨o,p,r⟩:=Zl c l h;refine⟨h,λe b=>?_,λe=>?_⟩;have a:((dO.f (c,l,())).2.1 != 0)=true:=e;have d:(dO.f (c,l,())).2.1=0:=b;rw[d]at a;cases a;have a:(dO.f (c,l,())).2.1=0:=by simpa using e
 have g:=r a;have n:List.length (dO.f (c,l,())).1<=1000000000:=uep o (by decide);refine ii (A:=λ(s:List aC.q)=>s.length=l.length) (eU (uep g (by decide))) (qk8 c l _ g) (λt b=>?_);refine ii (A:=λ(s:Int×List aC.q)=>s.2.length=l.length) (eU n) (qla c _ l.length p (0,t) b) (λi k=>?_);refine ii (A:=λ(s:Int×List aC.q)=>s.2.length=i.2.length) ?_ (qlc c i.2.length i rfl) (λu m _=>m.trans k);rw[ubc,uc0];refine eU ?_;rw[k];exact uep g (by decide)
def t9:Ct:=⟨[.d ar,.d (.sl aq)],[.sl aC,i64],λx=>(xA x).get,λx=>[dC x.2.1]⟩
def qmn:ag prog 26 t9:=cq qtc _ (λx _ a=>(dt (Se x.1 x.2.1 a)).1)
def qkr(c:ar.q)(l:List aq.q)(h:dC l)(a:(t9.f (c,l,())).2.1=0):List.length (α:=aC.q) (t9.f (c,l,())).1=l.length:=(dt (Se c l h)).2 a
def LU(x:ap [.d bj,.ptr aq,.ptr ar]):Fr (aa [.bool]):=
 let b:=x.2.2.1;let a:=x.1.2.1;Jv (bif x.1.1==x.2.1.1.2.1 then a.1==b.1&&(a.2.1==b.2.1&&(a.2.2.1==b.2.2.1&&(a.2.2.2.1==b.2.2.2.1&&(a.2.2.2.2.1==b.2.2.2.2.1&&Z))))else Y,())
def quv:ag prog 159 ⟨[.d bj,.ptr aq,.ptr ar],[.bool],λxs=>(LU xs).get,λxs=>[(LU xs).ok]⟩:=
 cF aL (Λ:=bK) (fn:=f159) (aY [.d bj,.ptr aq,.ptr ar]) (by kernel_rfl) (λc E _=>bm c 0) (λx=>by kernel_rfl)
def ET:Ct:=⟨[.d bj,.ptr aq,.ptr ar],[.bool],λx=>(LU x).get,λ_=>[]⟩
def qm8:ag prog 159 ET:=cq quv _ (λx a _=>uT)
def KV:List (FuncId×Ct):=[(24,wI),(25,Ex),(159,ET),(158,ge bj)]
def qpy:kj prog KV:=⟨RV,Tz,qm8,qzm,uT⟩
def qai:List (FuncId×Row):=[(1000000000000+216,.rw 6 3)]
def QO:Cx:=nV KV [] qai (λ_ _ _ _=>V)
def IX:CxOK prog QO:=pE (cs:=KV) (ps:=[]) (rs:=qai) aH qpy trivial ⟨uT,uT⟩ (λ_ _ _ _ _ h=>(nomatch h))
abbrev oD:Pt:=⟨70,0,⟨[(15,.d i64),(14,.d i64),(13,.d (.sl aq))],[.x 1 32 ak,.r 1 1 0,.o 4 (fJ 216 6 3) bj]⟩,⟨[],[.o 4 (fJ 216 6 3) bj]⟩,⟨[(2,.d (.sl bj)),(3,.d i64)],[]⟩⟩
def gT(a:ak.q)(f:aq.q):aa [ar,i64]:=Ex.f ((wI.f (a,f.1.2.1,())).1.1,a.1,f.1,())
def xU(a:ak.q)(f:aq.q)(s:List bj.q):Int:=((ge bj).f (s,λx=>ET.f (x.1,f,(gT a f).1,()),())).1
def Ym(a:ak.q)(f:aq.q):bj.q:=(f.1.2.1,(gT a f).1,[],())
def ZA(s:List bj.q)(j i:Int):List bj.q:=s.set j.toNat ((s.getD j.toNat bj.j).1,(s.getD j.toNat bj.j).2.1,(s.getD j.toNat bj.j).2.2.1++[i],())
def Ir(s:List bj.q)(j i:Int):Fr (List bj.q ⊕ ρ):=
 Jd (0<=j/\j<(s.length:Int)) (Jd (j.toNat<s.length) (Jd (List.length (α:=Int) (s.getD j.toNat bj.j).2.2.1+1<=maxLen/\(List.length (α:=Int) (s.getD j.toNat bj.j).2.2.1+1)*8<=140737488355328)
  (Jd (0<=j/\j<(s.length:Int)) (Jd (j.toNat<s.length/\j.toNat=j.toNat) (Jv (.inl (ZA s j i)))))))
def qt(k:Int×(List aq.q)×ak.q)(b:Prop)(i:Int)(e:aq.q)(s:List bj.q):Fr ((List bj.q) ⊕ oD.R.X):=
 let a:=gT k.2.2 e;Jd b (Jd (cj (wI.f (k.2.2,e.1.2.1,())).1.1) (Jd (bf k.2.2.1) (Jb (a.2.1 != 0) (Jv (.inr (([],a.2.1,()),())))
  (Jd (∀ (x:aa [bj]),gN [bj] x->az (ET.ok (x.1,e,a.1,()))) (Jb (J (xU k.2.2 e s<0))
   (Jd (s.length+1<=maxLen/\(s.length+1)*72<=140737488355328) (Ir (s++[Ym k.2.2 e]) (s.length:Int) i)) (Ir s (xU k.2.2 e s) i))))))
def Ry:oD.M.X->Fr oD.Out:=FK (λx=>(x.1.1,(x.1.2.1,x.1.2.2.1,x.2.1),x.2.2.1)) (λk=>k.1) (λk=>k.2.1) qt (λk s=>((),s,())) (λ_ y=>Rd.back y) ([]) (aY _,cf _)
def zep:af prog (.loop (au f89 0)) oD.M oD Ry:=
 lG IX (λi k s=>((i,k.1,k.2.1,()),k.2.2,s,())) aq.j
def VR:=λk s=>bC (qt k True) 0 k.2.1 s
def YE:=λk s=>eI (qt k True) 0 k.2.1 s
def zsx(a:Gm):St->Option Tr:=oD.han a oD.M Ry
def xD(x:ap [.d ak]):Fr (aa [.sl bj,i64]):=
 iS (InK (((List.length x.1.2.2.1):Int)) 0 (List.length x.1.2.2.1)) (YE (((List.length x.1.2.2.1):Int),x.1.2.2.1,x.1) []) (VR (((List.length x.1.2.2.1):Int),x.1.2.2.1,x.1) []) ([]) (aY _,cf _) (λa=>Jv (a,0,())) (λb=>Jv b.1)
def quw:ag prog 89 ⟨[.d ak],[.sl bj,i64],λxs=>(xD xs).get,λxs=>[(xD xs).ok]⟩:=
 cF IX (Λ:=(λ_=>zsx QO.Γ)) (fn:=f89) (aY [.d ak]) (by kernel_rfl) (λc E a=>fH a (by kernel_rfl) (b:=au f89 0) (by kernel_rfl) (af.han IX rfl zep)) (λx=>by kernel_rfl)
structure GrI (n i:Nat) (s:List bj.q):Prop where
 len:s.length<=i
 at_:∀ g:bj.q,g∈s->List.length (α:=Int) g.2.2.1<=i/\∀ k:Int,k∈(g.2.2.1:List Int)->0<=k/\k<(n:Int)
def GrI.up{s:List bj.q}(h:GrI n i s):GrI n (i+1) s:=⟨uc3 h.len,λg a=>⟨uc3 (h.at_ g a).1,(h.at_ g a).2⟩⟩
def qcw{B:ρ->Prop}{s:List bj.q}{j:Int}(u:i<n)(v:n<=1000000)(t:s.length<=m)(d:0<=j/\j<(s.length:Int))(e:∀ g:bj.q,g∈s->List.length (α:=Int) g.2.2.1<=i/\∀ k:Int,k∈(g.2.2.1:List Int)->0<=k/\k<(n:Int)):
  (Ir (ρ:=ρ) s j i).s7 (iV (λr=>r.length<=m/\∀ g:bj.q,g∈r->List.length (α:=Int) g.2.2.1<=i+1/\∀ k:Int,k∈(g.2.2.1:List Int)->0<=k/\k<(n:Int)) B):=by
 have a:=toNat_lt d;have o:s.getD j.toNat bj.j∈s:=by rw[uah,uaq a];exact udi _
 have f:=e _ o;have l:=f.1;have w:=fI;refine⟨d,a,⟨by omega,by omega⟩,d,⟨a,rfl⟩,?_,λg c=>?_⟩;show(List.set _ _ _).length<=m;rw[udp];exact t;rcases uap c with h|h
 exact⟨uc3 (e g h).1,(e g h).2⟩;rw[h];refine⟨?_,λk p=>?_⟩;show((s.getD j.toNat bj.j).2.2.1++[(i:Int)]).length<=i+1;rw[ub6];exact udk l;rcases udt.1 p with b|b
 exact f.2 k b;rw[ucf.1 b];omega
def qy1(a:ak.q)(c:bi a):YE ((List.length (α:=aq.q) (aJ a):Int),aJ a,a) []/\iV (GrI (List.length (α:=aq.q) (aJ a)) (List.length (α:=aq.q) (aJ a))) (λy=>y.1.1=[]) (VR ((List.length (α:=aq.q) (aJ a):Int),aJ a,a) []):=
 o5 (step:=qt ((List.length (α:=aq.q) (aJ a):Int),aJ a,a) True) (GrI (List.length (α:=aq.q) (aJ a))) (λ(y:oD.R.X)=>y.1.1=[]) (aJ a) (λi e s o d=>by
  have k:=eO o;have t:List.length (α:=aq.q) (aJ a)<=100000:=c.2.2.1;have u:=fI;have l:=d.len;refine⟨uT,RU c _,c.1,λ_=>rfl,λ_=>⟨λ_ _=>uT,λ_=>⟨⟨by omega,by omega⟩,?_⟩,λh=>?_⟩⟩;refine Fr.satP_mono (λr b=>?_) (qcw (ρ:=oD.R.X) (B:=λy=>y.1.1=[]) (m:=i+1) (s:=s++[Ym a e]) (j:=(s.length:Int)) k (by omega) ?_ ?_ (λg p=>?_));cases r with
  |inl r=>exact⟨b.1,b.2⟩
  |inr y=>exact b
  rw[ub6];exact udk l;rw[ub6];show 0<=(s.length:Int)/\(s.length:Int)<((s.length+1:Nat):Int);omega;rcases udt.1 p with h|h
  exact d.at_ g h;rw[ucf.1 h];exact⟨ufh _,λ_ h=>(nomatch h)⟩;have f:0<=xU a e s:=by have:=uch h;exact ufm.1 this
  have n:=(pY f).1;refine Fr.satP_mono (λr b=>?_) (qcw (ρ:=oD.R.X) (B:=λy=>y.1.1=[]) (m:=i+1) k (by omega) (uc3 l) ⟨f,n⟩ d.at_);cases r with
  |inl r=>exact⟨b.1,b.2⟩
  |inr y=>exact b) [] ⟨ufh _,λ_ h=>(nomatch h)⟩
def RE(n:Nat)(y:aa [.sl bj,i64]):Prop:=List.length (α:=bj.q) y.1<=n/\∀ g:bj.q,g∈(y.1:List bj.q)->List.length (α:=Int) g.2.2.1<=n/\∀ k:Int,k∈(g.2.2.1:List Int)->0<=k/\k<(n:Int)
def Wm(a:ak.q)(d:bi a):(xD (a,())).s7 (RE (List.length (α:=aq.q) (aJ a))):=by have f:List.length (α:=aq.q) (aJ a)<=100000:=d.2.2.1;refine I8 (eU (uep f (by decide))) (qy1 a d) (λs e=>⟨e.len,e.at_⟩) (λy c=>?_);have c:y.1.1=[]:=c;refine⟨?_,λg b=>?_⟩;show List.length y.1.1<=_;rw[c];exact ufh _;have b:g∈y.1.1:=b;rw[c]at b;cases b
def ES:Ct:=⟨[.d ak],[.sl bj,i64],λx=>(xD x).get,λx=>[bi x.1]⟩
def qm9:ag prog 89 ES:=cq quw _ (λx _ a=>(dt (Wm x.1 a)).1)
def Wl(a:ak.q)(b:bi a):RE (List.length (α:=aq.q) (aJ a)) (ES.f (a,())):=(dt (Wm a b)).2
def IY:Cx:=cx [(89,ES),(26,t9)] []
def wc:CxOK prog IY:=aQ aH ⟨qm9,qmn,uT⟩ trivial
abbrev yP:Pt:=⟨78,2,⟨[(37,.d i64),(36,.d i64),(35,.d aP),(30,.d i64),(29,.d i64),(28,.d (.sl bj))],[.x 1 32 ak,.r 1 1 0,.x 8 216 bj,.r 8 8 0,.o 6 52 aC,.o 9 101 aq]⟩,⟨[(30,.d i64),(29,.d i64),(28,.d (.sl bj))],[.x 1 32 ak,.r 1 1 0,.x 8 216 bj,.r 8 8 0,.o 6 52 aC,.o 9 101 aq]⟩,⟨[],[]⟩⟩
def Dk(k:Int×(List Int)×Int×Int×(List bj.q)×ak.q×bj.q×(List aC.q))(b:Prop)(i:Int)(e:i64.q)(s:(List aq.q)):Fr ((List aq.q)):=
 let a:=List.getD k.2.2.2.2.2.1.2.2.1 (Int.toNat e) aq.j;Jd b (Jd (0<=e/\e<((List.length k.2.2.2.2.2.1.2.2.1):Int)) (Jd (s.length + [a].length<=maxLen/\(s.length + [a].length)*72<=140737488355328) (Jv (s++[a]))))
def WI:Code:=((Go.Ab.loopB (au f46 0) 0).getD .skip)
def Rw:yP.M.X->Fr yP.Out:=FG (λx=>(x.1.1,(x.1.2.1,x.1.2.2.1,x.1.2.2.2.1,x.1.2.2.2.2.1,x.1.2.2.2.2.2.1,x.2.1,x.2.2.1,x.2.2.2.1),x.2.2.2.2.1)) (λk=>k.1) (λk=>k.2.1) Dk (λk s=>((k.2.2.1,k.2.2.2.1,k.2.2.2.2.1,()),(k.2.2.2.2.2.1,k.2.2.2.2.2.2.1,k.2.2.2.2.2.2.2,s,())))
def zel:af prog (.loop WI) yP.M yP Rw:=
 cX wc (λi k s=>((i,k.1,k.2.1,k.2.2.1,k.2.2.2.1,k.2.2.2.2.1,()),k.2.2.2.2.2.1,k.2.2.2.2.2.2.1,k.2.2.2.2.2.2.2,s,())) i64.j
def ug:=λk s=>bw (Dk k True) 0 k.2.1 s
def YC:=λk s=>bY (Dk k True) 0 k.2.1 s
def zsv(a:Gm):St->Option Tr:=yP.han a yP.M Rw
abbrev yQ:Pt:=⟨78,4,⟨[(63,.d i64),(62,.d i64),(61,.d aP),(12,.d (.sl aC)),(30,.d i64),(29,.d i64),(28,.d (.sl bj))],[.x 1 32 ak,.r 1 1 0,.o 6 52 aC]⟩,⟨[(30,.d i64),(29,.d i64),(28,.d (.sl bj))],[.x 1 32 ak,.r 1 1 0,.o 6 52 aC]⟩,⟨[],[]⟩⟩
def Dl(k:Int×(List Int)×(List aC.q)×Int×Int×(List bj.q)×ak.q)(b:Prop)(i:Int)(e:i64.q)(s:(List aC.q)):Fr ((List aC.q)):=
 Jd b (Jd (0<=i/\i<((List.length k.2.2.1):Int)) (Jd (0<=e/\e<(s.length:Int)) (Jd (Int.toNat e<s.length) (Jv (s.set (Int.toNat e) (List.getD k.2.2.1 (Int.toNat i) aC.j))))))
def WJ:Code:=((Go.Ab.loopB (au f46 0) 1).getD .skip)
def Rx:yQ.M.X->Fr yQ.Out:=FG (λx=>(x.1.1,(x.1.2.1,x.1.2.2.1,x.1.2.2.2.1,x.1.2.2.2.2.1,x.1.2.2.2.2.2.1,x.1.2.2.2.2.2.2.1,x.2.1),x.2.2.1)) (λk=>k.1) (λk=>k.2.1) Dl (λk s=>((k.2.2.2.1,k.2.2.2.2.1,k.2.2.2.2.2.1,()),(k.2.2.2.2.2.2,s,())))
def zem:af prog (.loop WJ) yQ.M yQ Rx:=
 cX wc (λi k s=>((i,k.1,k.2.1,k.2.2.1,k.2.2.2.1,k.2.2.2.2.1,k.2.2.2.2.2.1,()),k.2.2.2.2.2.2,s,())) i64.j
def MU:=λk s=>bw (Dl k True) 0 k.2.1 s
def YD:=λk s=>bY (Dl k True) 0 k.2.1 s
def zsw(a:Gm):St->Option Tr:=yQ.han a yQ.M Rx
abbrev vj:Pt:=⟨78,0,⟨[(30,.d i64),(29,.d i64),(28,.d (.sl bj))],[.x 1 32 ak,.r 1 1 0,.o 6 52 aC]⟩,⟨[],[.o 6 52 aC]⟩,⟨[(2,.d (.sl aC)),(3,.d i64)],[]⟩⟩
abbrev BV:Type:=Int×List bj.q×ak.q
def nJ(g:bj.q):List Int:=g.2.2.1
def xW(k:BV)(i:Int)(g:bj.q)(s:List aC.q):Int×(List Int)×Int×Int×(List bj.q)×ak.q×bj.q×(List aC.q):=(((nJ g).length:Int),nJ g,i,k.1,k.2.1,k.2.2,g,s)
def vK(g:bj.q)(l:List aq.q):aa [.sl aC,i64]:=t9.f (g.2.1,l,())
def G0(k:BV)(i:Int)(g:bj.q)(l:List aq.q):Int×(List Int)×(List aC.q)×Int×Int×(List bj.q)×ak.q:=(((nJ g).length:Int),nJ g,(vK g l).1,i,k.1,k.2.1,k.2.2)
def zE(k:BV)(b:Prop)(i:Int)(e:bj.q)(s:List aC.q):Fr (List aC.q ⊕ vj.R.X):=
 Jd b (cT (InK ((nJ e).length:Int) 0 (nJ e).length) (YC (xW k i e s) []) (ug (xW k i e s) []) (λl=>
  Jd (dC l) (Jb ((vK e l).2.1 != 0) (Jv (.inr (([],(vK e l).2.1,()),())))
   (cT (InK ((nJ e).length:Int) 0 (nJ e).length) (YD (G0 k i e l) s) (MU (G0 k i e l) s) (λo=>Jv (.inl o))))))
def qjg:vj.M.X->Fr vj.Out:=FK (λx=>(x.1.1,((x.1.2.1,x.1.2.2.1,x.2.1):BV),x.2.2.1)) (λk=>k.1) (λk=>k.2.1) zE (λ_ s=>((),s,())) (λ_ y=>Rd.back y) [] (aY _,cf _)
def zen:af prog (.loop (au f46 0)) vj.M vj qjg:=
 lG wc (λi k s=>((i,k.1,k.2.1,()),k.2.2,s,())) bj.j (Λ:=(λk=>if k=0 then zsv IY.Γ else zsw IY.Γ)) (hΛ:=λ_=>Xu (by kernel_rfl) (b0:=WI) (b1:=WJ) (by kernel_rfl) (by kernel_rfl) (af.han wc rfl zel) (af.han wc rfl zem))
def js(a:ak.q):aa [.sl bj,i64]:=ES.f (a,())
def mZ(a:ak.q):BV:=((List.length (α:=bj.q) (js a).1:Int),(js a).1,a)
def F5(x:ap [.d ak]):Fr (aa [.sl aC,i64]):=
 Jd (bi x.1) (Jb ((js x.1).2.1 != 0) (Jv ([],(js x.1).2.1,()))
  (Jd (yk (List.length x.1.2.2.1) 48)
   (iS (InK (List.length (js x.1).1:Int) 0 (List.length (js x.1).1)) (eI (zE (mZ x.1) True) 0 (js x.1).1 (Lrp (Int.toNat (List.length x.1.2.2.1:Int)) aC.j)) (bC (zE (mZ x.1) True) 0 (js x.1).1 (Lrp (Int.toNat (List.length x.1.2.2.1:Int)) aC.j)) [] (aY _,cf _)
    (λs=>Jv (s,0,())) (λy=>Jv y.1))))
def qun:ag prog 46 (bg [.d ak] [.sl aC,i64] F5):=
 cZ wc zen (fn:=f46)
def qwi(k:Int×(List Int)×Int×Int×(List bj.q)×ak.q×bj.q×(List aC.q))(m:k.2.1.length<=100000)(i:∀ x∈k.2.1,0<=x/\x<(List.length (α:=aq.q) (aJ k.2.2.2.2.2.1):Int)):
  YC k []/\(ug k []).length=k.2.1.length/\∀ f∈ug k [],f∈aJ k.2.2.2.2.2.1:=
 dK (step:=Dk k True) (λj (r:List aq.q)=>r.length=j/\∀ f∈r,f∈aJ k.2.2.2.2.2.1) k.2.1 (λj e r b c=>by
  have l:=eO b;have a:=i e (ubg b);have n:=toNat_lt a;have o:=fI;have d:=c.1;refine⟨uT,a,?_,?_,λf g=>?_⟩;show r.length+1<=maxLen/\(r.length+1)*72<=140737488355328;omega;rw[ub6];exact ufu (· + 1) d;rcases udt.1 g with h|h
  exact c.2 f h;rw[ucf.1 h];exact eT a) [] ⟨rfl,λ_ h=>(nomatch h)⟩
def qwk(k:Int×(List Int)×(List aC.q)×Int×Int×(List bj.q)×ak.q)(n:Nat)(g:k.2.1.length=k.2.2.1.length)(f:∀ x∈k.2.1,0<=x/\x<(n:Int))(s:List aC.q)(i:s.length=n):
  YD k s/\(MU k s).length=n:=
 dK (step:=Dl k True) (λ_ (r:List aC.q)=>r.length=n) k.2.1 (λj e r c b=>by have d:=eO c;rw[g]at d;have a:=f e (ubg c);have h:=toNat_lt a;refine⟨uT,(ou d rfl).1,by rw[b];exact a,by rw[b];exact h,?_⟩;show(List.set _ _ _).length=n;rw[udp];exact b) s i
def UY(a:ak.q)(p:bi a)(D:dC (aJ a)):(F5 (a,())).s7 (λy=>y.2.1=0->List.length (α:=aC.q) y.1=List.length (α:=aq.q) (aJ a)):=by
 obtain⟨x,z⟩:=Wl a p;have t:List.length (α:=aq.q) (aJ a)<=100000:=p.2.2.1;refine⟨p,λm c=>?_,λm=>⟨Ch (uep t (by decide)) (by decide),I8 (A:=λ(s:List aC.q)=>s.length=List.length (α:=aq.q) (aJ a)) (B:=λ(y:vj.R.X)=>y.1.2.1≠0) (eU (uep x (uep t (by decide)))) ?_ (λs u _=>u) (λy F c=>absurd c F)⟩⟩;have d:((js a).2.1 != 0)=true:=m;have n:(js a).2.1=0:=c;rw[n]at d;cases d;refine o5 (step:=zE (mZ a) True) (λ_ (s:List aC.q)=>s.length=List.length (α:=aq.q) (aJ a)) (λ(y:vj.R.X)=>y.1.2.1≠0) (js a).1 (λi e s m u=>?_) _ ?_;obtain⟨w,v⟩:=z e (ubg m);have k:(nJ e).length<=100000:=uep w t;refine⟨uT,ii (A:=λ(l:List aq.q)=>l.length=(nJ e).length/\∀ f∈l,f∈aJ a) (eU (uep k (by decide))) (qwi (xW (mZ a) i e s) k v) (λl b=>?_)⟩;have g:dC l:=⟨by rw[b.1];exact uep k (by decide),λf r=>D.2 f (b.2 f r)⟩;refine⟨g,λh=>?_,λh=>?_⟩;show(vK e l).2.1≠0;simpa using h;have c:(vK e l).2.1=0:=by simpa using h
 have C:=qkr e.2.1 l g c;exact ii (A:=λ(o:List aC.q)=>o.length=List.length (α:=aq.q) (aJ a)) (eU (uep k (by decide))) (qwk (G0 (mZ a) i e l) _ (b.1.symm.trans C.symm) v s u) (λo E=>E);show(Lrp (Int.toNat (List.length (α:=aq.q) (aJ a):Int)) _).length=_;rw[ubc,uc0]
def qZ:Ct:=⟨[.d ak],[.sl aC,i64],λx=>(F5 x).get,λx=>[bi x.1,dC (aJ x.1)]⟩
def EN:ag prog 46 qZ:=cq qun _ (λx _ a=>(dt (UY x.1 a.1 a.2)).1)
def Mk(a:ak.q)(c:bi a)(d:dC (aJ a))(b:(qZ.f (a,())).2.1=0):List.length (α:=aC.q) (qZ.f (a,())).1=List.length (α:=aq.q) (aJ a):=(dt (UY a c d)).2 b
def Jp:FuncId->Option (Func×(Nat->St->Option Tr)):=cR [(45,(f45,bK))]
def T9:List (FuncId×Ct):=[(36,E1),(46,qZ),(28,tC)]
def qpz:kj prog T9:=⟨TZ,EN,SY,uT⟩
def QP:Cx:=dI T9 [] (iJ prog (cx [] []) Jp)
def Aj:CxOK prog QP:=dP aH qpz trivial (jt mM (nD (by kernel_rfl) sP))
abbrev C9:Pt:=⟨105,0,⟨[(22,.d i64),(21,.d i64),(20,.d (.sl bn))],[.x 1 32 ak,.r 1 1 0,.x 4 145 cO,.r 4 4 0,.x 2 83 bQ,.r 2 2 0]⟩,⟨[],[.x 1 32 ak,.r 1 1 0,.x 4 145 cO,.r 4 4 0,.x 2 83 bQ,.r 2 2 0]⟩,⟨[(3,.d i64)],[.x 2 83 bQ,.r 2 2 0]⟩⟩
def nE(k:α->Fr β):Fr α->Fr β
 |.val x=>k x
 |.br b x y=>.br b (nE k x) (nE k y)
 |.need p x=>.need p (nE k x)
def sR{k:α->Fr β}{Q:β->Prop}:{f:Fr α}->f.s7 (λa=>(k a).s7 Q)->(nE k f).s7 Q
 |.val _,h=>h
 |.br _ _ _,h=>⟨λb=>sR (h.1 b),λb=>sR (h.2 b)⟩
 |.need _ _,h=>⟨h.1,sR h.2⟩
def yi(a:bQ.q):List Int:=[a.1,a.2.1,a.2.2.1,a.2.2.2.1,a.2.2.2.2.1,a.2.2.2.2.2.1]
def qa9(a:bQ.q)(w x:Int):bQ.q:=(bif w==0 then x else a.1,bif w==0+1 then x else a.2.1,bif w==0+1+1 then x else a.2.2.1,bif w==0+1+1+1 then x else a.2.2.2.1,bif w==0+1+1+1+1 then x else a.2.2.2.2.1,bif w==0+1+1+1+1+1 then x else a.2.2.2.2.2.1,())
def Oy(s:cO.q)(w m:Int):Bool:=bif s.2.1 then Z else J (m>I6.wrap (4000000000000000000-(yi s.1).getD (Int.toNat w) 0))
def qL(w m:Int)(s:cO.q):Fr cO.q:=
 Jd (s.2.1=Y->0<=w/\w<(6:Int)) (Jb (!Oy s w m)
  (Jd (0<=w/\w<(6:Int)) (Jd (0<=w/\w<(6:Int)) (Jv (qa9 s.1 w (I6.wrap ((yi s.1).getD (Int.toNat w) 0+m)),Oy s w m,()))))
  (Jv (s.1,Oy s w m,())))
def tg{w m:Int}{s:cO.q}(a:0<=w/\w<6):(qL w m s).s7 λ_=>True:=⟨λ_=>a,λ_=>⟨a,a,uT⟩,λ_=>uT⟩
def qu(k:Int×(List bn.q)×ak.q×bQ.q)(b:Prop)(_i:Int)(e:bn.q)(s:cO.q):Fr (cO.q ⊕ C9.R.X):=
 let a:=E1.f (e.1,k.2.2.1.1,());Jd b (Jd (cj e.1) (Jd (bf k.2.2.1.1) (Jb (a.2.1 != 0) (Jv (.inr ((a.2.1,()),(0,0,0,0,0,0,()),())))
  (nE (λc=>nE (λd=>Jv (.inl d)) (qL 1 e.2.1 c)) (qL 0 a.1 s)))))
def qjt:C9.M.X->Fr C9.Out:=FK (λx=>(x.1.1,(x.1.2.1,x.1.2.2.1,x.2.1,x.2.2.2.1),x.2.2.1)) (λk=>k.1) (λk=>k.2.1) qu (λk s=>((),(k.2.2.1,s,k.2.2.2,()))) (λ_ y=>Rd.back y) cO.j (aY _,cf _)
def zfn:af prog (.loop (au f16 0)) C9.M C9 qjt:=
 lG Aj (λi k s=>((i,k.1,k.2.1,()),k.2.2.1,s,k.2.2.2,())) bn.j
abbrev D1:List MI:=[.x 4 145 cO,.r 4 4 0,.x 2 83 bQ,.r 2 2 0]
abbrev stM:List MI:=.x 1 32 ak :: .r 1 1 0::D1
abbrev Hq:Pt:=⟨105,2,⟨[(55,.d i64),(54,.d i64),(53,.d (.sl aC)),(9,.d (.sl aC))],stM⟩,⟨[(9,.d (.sl aC))],stM⟩,⟨[],[]⟩⟩
def Dv(_k:Int×(List aC.q)×(List aC.q)×ak.q×bQ.q)(b:Prop)(_i:Int)(e:aC.q)(s:cO.q):Fr cO.q:=
 Jd b (nE (λa=>nE (λc=>qL 4 e.2.2.2.2.1 c) (qL 3 e.2.2.2.1 a)) (qL 2 e.2.2.1 s))
def qju:Hq.M.X->Fr Hq.Out:=FG (λx=>(x.1.1,(x.1.2.1,x.1.2.2.1,x.1.2.2.2.1,x.2.1,x.2.2.2.1),x.2.2.1)) (λk=>k.1) (λk=>k.2.1) Dv (λk s=>((k.2.2.1,()),k.2.2.2.1,s,k.2.2.2.2,()))
def zfo:af prog (.loop (au f16 1)) Hq.M Hq qju:=
 cX Aj (λi k s=>((i,k.1,k.2.1,k.2.2.1,()),k.2.2.2.1,s,k.2.2.2.2,())) aC.j
abbrev yY:Pt:=⟨105,6,⟨[(91,.d i64),(90,.d i64),(89,.d lQ),(85,.d i64),(84,.d i64),(83,.d (.sl lQ))],D1⟩,⟨[(85,.d i64),(84,.d i64),(83,.d (.sl lQ))],D1⟩,⟨[],[]⟩⟩
def Dx(_k:Int×(List ew.q)×Int×Int×(List (List ew.q))×bQ.q)(b:Prop)(_i:Int)(e:ew.q)(s:cO.q):Fr cO.q:=Jd b (qL 5 e.2.1 s)
def RA:yY.M.X->Fr yY.Out:=FG (λx=>(x.1.1,(x.1.2.1,x.1.2.2.1,x.1.2.2.2.1,x.1.2.2.2.2.1,x.1.2.2.2.2.2.1,x.2.2.1),x.2.1)) (λk=>k.1) (λk=>k.2.1) Dx (λk s=>((k.2.2.1,k.2.2.2.1,k.2.2.2.2.1,()),s,k.2.2.2.2.2,()))
def WO:Code:=(Go.Ab.loopB (au f16 2) 0).getD .skip
def zfq:af prog (.loop WO) yY.M yY RA:=
 cX Aj (λi k s=>((i,k.1,k.2.1,k.2.2.1,k.2.2.2.1,k.2.2.2.2.1,()),s,k.2.2.2.2.2,())) ew.j
abbrev Hr:Pt:=⟨105,4,⟨[(85,.d i64),(84,.d i64),(83,.d (.sl lQ))],D1⟩,⟨[],D1⟩,⟨[],[]⟩⟩
def Xj(k:Int×(List (List ew.q))×bQ.q)(i:Int)(e:List ew.q):Int×(List ew.q)×Int×Int×(List (List ew.q))×bQ.q:=((e.length:Int),e,i,k.1,k.2.1,k.2.2)
def Dw(k:Int×(List (List ew.q))×bQ.q)(b:Prop)(i:Int)(e:List ew.q)(s:cO.q):Fr cO.q:=
 Jd b (cT (InK (e.length:Int) 0 e.length) (bY (Dx (Xj k i e) True) 0 e s) (bw (Dx (Xj k i e) True) 0 e s) (λs=>Jv s))
def qjv:Hr.M.X->Fr Hr.Out:=FG (λx=>(x.1.1,(x.1.2.1,x.1.2.2.1,x.2.2.1),x.2.1)) (λk=>k.1) (λk=>k.2.1) Dw (λk s=>((),s,k.2.2,()))
def zfp:af prog (.loop (au f16 2)) Hr.M Hr qjv:=
 cX Aj (λi k s=>((i,k.1,k.2.1,()),s,k.2.2,())) lQ.j (Λ:=λ_=>yY.han QP.Γ yY.M RA) (hΛ:=λ_=>nc (by kernel_rfl) (b:=WO) (by kernel_rfl) (af.han Aj rfl zfq))
abbrev yS:Pt:=⟨41,0,⟨[(11,.d i64),(10,.d i64),(9,.d (.sl aC))],[.x 2 32 ak,.r 2 2 0,.o 5 120 ax]⟩,⟨[],[.o 5 120 ax]⟩,⟨[],[]⟩⟩
def Dm(k:Int×(List aC.q)×ak.q)(b:Prop)(i:Int)(e:aC.q)(s:(List ax.q)):Fr ((List ax.q)):=
 let a:=List.getD k.2.2.2.2.1 (Int.toNat i) aq.j;let c:=(a.1.1,a.1.2.2.2.2.2.1,a.1.2.2.2.1,a.1.2.2.1,e.2.2.1,());Jd b (Jd (0<=i/\i<((List.length k.2.2.2.2.1):Int)) (Jb (J (e.2.2.1>0)) (Jd (s.length + [c].length<=maxLen/\(s.length + [c].length)*40<=140737488355328) (Jv (s++[c]))) (Jv s)))
def R1:yS.M.X->Fr yS.Out:=FG (λx=>(x.1.1,(x.1.2.1,x.1.2.2.1,x.2.1),x.2.2.1)) (λk=>k.1) (λk=>k.2.1) Dm (λk s=>((),s,()))
def zet:af prog (.loop (au f47 0)) yS.M yS R1:=
 cX aL (λi k s=>((i,k.1,k.2.1,()),k.2.2,s,())) aC.j
def MV:=λk s=>bw (Dm k True) 0 k.2.1 s
def YH:=λk s=>bY (Dm k True) 0 k.2.1 s
def zsz(a:Gm):St->Option Tr:=yS.han a yS.M R1
def LV(x:ap [.d ak,.d (.sl aC)]):Fr (aa [.sl ax]):=
 cT (InK (((List.length x.2.1):Int)) 0 (List.length x.2.1)) (YH (((List.length x.2.1):Int),x.2.1,x.1) []) (MV (((List.length x.2.1):Int),x.2.1,x.1) []) (λa=>Jv (a,()))
def qux:ag prog 47 ⟨[.d ak,.d (.sl aC)],[.sl ax],λxs=>(LV xs).get,λxs=>[(LV xs).ok]⟩:=
 cF aL (Λ:=(λ_=>zsz eN.Γ)) (fn:=f47) (aY [.d ak,.d (.sl aC)]) (by kernel_rfl) (λc E a=>fH a (by kernel_rfl) (b:=au f47 0) (by kernel_rfl) (af.han aL rfl zet)) (λx=>by kernel_rfl)
def zfz(a:ak.q)(l:List aC.q)(h:l.length<=List.length (α:=aq.q) (aJ a))(g:l.length<=1000000):YH ((l.length:Int),l,a) []:=
 (dK (step:=Dm ((l.length:Int),l,a) True) (λi (s:List ax.q)=>s.length<=i) l (λi e s c b=>by
  have f:=eO c;have k:=fI;have d:0<=(i:Int)/\(i:Int)<(List.length (α:=aq.q) (aJ a):Int):=by omega
  refine⟨uT,d,λ_=>⟨?_,?_⟩,λ_=>uc3 b⟩;show s.length+1<=maxLen/\(s.length+1)*40<=140737488355328;omega;show(s++[_]).length<=i+1;rw[ub6];exact udk b) [] (ufb _)).1
def EU:Ct:=⟨[.d ak,.d (.sl aC)],[.sl ax],λx=>(LV x).get,λx=>[List.length (α:=aC.q) x.2.1<=List.length (α:=aq.q) (aJ x.1),List.length (α:=aC.q) x.2.1<=1000000]⟩
def SV:ag prog 47 EU:=cq qux _ (λx b a=>qz (jd b.2.1.1) (zfz x.1 x.2.1 a.1 a.2) (λ_=>uT))
def TA:List (FuncId×Ct):=[(46,qZ),(28,tC),(47,EU)]
def qp0:kj prog TA:=⟨EN,SY,SV,uT⟩
def qh2:Cx:=dI TA [] (iJ prog (cx [] []) Jp)
def qh3:CxOK prog qh2:=dP aH qp0 trivial (jt mM (nD (by kernel_rfl) sP))
abbrev z6:bQ.q:=(0,0,0,0,0,0,())
def e8(a:ak.q):aa [.sl aC,i64]:=qZ.f (a,())
def uH(a:ak.q):List ax.q:=(EU.f (a,(e8 a).1,())).1
def lE(a:ak.q):aa [.sl lQ,aP,i64]:=tC.f (a.2.2.2.1,uH a,())
def rF(a:ak.q):Int×(List bn.q)×ak.q×bQ.q:=((List.length (α:=bn.q) a.2.1:Int),a.2.1,a,z6)
def G6(a:ak.q):Int×(List aC.q)×(List aC.q)×ak.q×bQ.q:=((List.length (α:=aC.q) (e8 a).1:Int),(e8 a).1,(e8 a).1,a,z6)
def G7(a:ak.q):Int×(List (List ew.q))×bQ.q:=((List.length (α:=List ew.q) (lE a).1:Int),(lE a).1,z6)
def F7(x:ap [.d ak]):Fr (aa [bQ,i64]):=
 iS (InK (List.length (α:=bn.q) x.1.2.1:Int) 0 (List.length (α:=bn.q) x.1.2.1)) (eI (qu (rF x.1) True) 0 x.1.2.1 cO.j) (bC (qu (rF x.1) True) 0 x.1.2.1 cO.j) cO.j (aY _,cf _)
  (λa=>Jd (bi x.1) (Jd (dC (aJ x.1)) (Jb ((e8 x.1).2.1 != 0) (Jv (z6,(e8 x.1).2.1,()))
   (cT (InK (List.length (α:=aC.q) (e8 x.1).1:Int) 0 (List.length (α:=aC.q) (e8 x.1).1)) (bY (Dv (G6 x.1) True) 0 (e8 x.1).1 a) (bw (Dv (G6 x.1) True) 0 (e8 x.1).1 a) (λb=>
    Jd (List.length (α:=aC.q) (e8 x.1).1<=List.length (α:=aq.q) (aJ x.1)) (Jd (List.length (α:=aC.q) (e8 x.1).1<=1000000) (Jb ((lE x.1).2.2.1 != 0) (Jv (z6,(lE x.1).2.2.1,()))
     (cT (InK (List.length (α:=List ew.q) (lE x.1).1:Int) 0 (List.length (α:=List ew.q) (lE x.1).1)) (bY (Dw (G7 x.1) True) 0 (lE x.1).1 b) (bw (Dw (G7 x.1) True) 0 (lE x.1).1 b) (λc=>Jb c.2.1 (Jv (z6,5,())) (Jv (c.1,0,())))))))))))
  (λy=>Jv (y.2.1,y.1.1,()))
def qus:ag prog 16 (bg [.d ak] [bQ,i64] F7):=
 Vi qh3 zfn zfo zfp (fn:=f16)
def zpd(a:ak.q)(b:bi a):eI (qu (rF a) True) 0 a.2.1 cO.j:=
 (o5 (step:=qu (rF a) True) (λ_ _=>True) (λ_=>True) a.2.1 (λi e s c _=>by have d:cj e.1:=b.2.2.2 e (ubg c);refine⟨uT,d,b.1,λ_=>uT,λ_=>sR (Fr.satP_mono (λf _=>?_) (tg (by decide)))⟩;exact sR (Fr.satP_mono (λg _=>uT) (tg (by decide)))) cO.j trivial).1
def zpe(a:ak.q)(b:cO.q):bY (Dv (G6 a) True) 0 (e8 a).1 b:=
 (dK (step:=Dv (G6 a) True) (λ_ _=>True) (e8 a).1 (λi e s c _=>by refine⟨uT,sR (Fr.satP_mono (λd _=>?_) (tg (by decide)))⟩;exact sR (Fr.satP_mono (λf _=>tg (by decide)) (tg (by decide)))) b trivial).1
def zpg(k:Int×(List ew.q)×Int×Int×(List (List ew.q))×bQ.q)(e:List ew.q)(s:cO.q):bY (Dx k True) 0 e s:=
 (dK (step:=Dx k True) (λ_ _=>True) e (λi e s a _=>⟨uT,tg (by decide)⟩) s trivial).1
def zpf(a:ak.q)(b:cO.q):bY (Dw (G7 a) True) 0 (lE a).1 b:=
 (dK (step:=Dw (G7 a) True) (λ_ _=>True) (lE a).1 (λi e s c _=>⟨uT,eU (uep ((qc3 a.2.2.2.1 (uH a)).2 e (ubg c)) (by decide)),zpg _ _ _,uT⟩) b trivial).1
def zpi(a:ak.q)(b:bi a)(d:dC (aJ a)):(F7 (a,())).ok:=by
 have h:List.length (α:=bn.q) (bW a)<=100000:=b.2.1;have e:List.length (α:=aq.q) (aJ a)<=100000:=b.2.2.1;refine sS (eU (uep h (by decide))) (zpd a b) (λk=>⟨b,d,λ_=>uT,λi=>?_⟩) (λ_=>uT);have f:(e8 a).2.1=0:=by simpa using i
 have c:List.length (α:=aC.q) (e8 a).1=List.length (α:=aq.q) (aJ a):=Mk a b d f;have g:List.length (α:=List ew.q) (lE a).1<=2000:=(qc3 a.2.2.2.1 (uH a)).1;refine qz (eU (by rw[c];exact uep e (by decide))) (zpe a k) (λl=>⟨Nat.le_of_eq c,by rw[c];exact uep e (by decide),λ_=>uT,λ_=>?_⟩);exact qz (eU (uep g (by decide))) (zpf a l) (λm=>⟨λ_=>uT,λ_=>uT⟩)
def AM:Ct:=⟨[.d ak],[bQ,i64],λx=>(F7 x).get,λx=>[bi x.1,dC (aJ x.1)]⟩
def K0:ag prog 16 AM:=cq qus _ (λx _ a=>zpi x.1 a.1 a.2)
def LT(x:ap [.d bD]):Fr (aa [.bool]):=
 Jv (bif J (x.1.2.1>1000000000000000)then Z else J (x.1.2.1 < -1000000000000000),())
def quq:ag prog 22 ⟨[.d bD],[.bool],λxs=>(LT xs).get,λxs=>[(LT xs).ok]⟩:=
 cF aL (Λ:=bK) (fn:=f22) (aY [.d bD]) (by kernel_rfl) (λc E _=>bm c 0) (λx=>by kernel_rfl)
def Ky:Ct:=⟨[.d bD],[.bool],λx=>(LT x).get,λ_=>[]⟩
def qm5:ag prog 22 Ky:=cq quq _ (λx a _=>uT)
abbrev Ud:List MI:=[.y 8 92 [(V,i64),(V,i64),(U 96,bD)],.r 8 8 0,.x 6 92 aW,.r 6 6 0]
abbrev He:Pt:=⟨78,0,⟨[(58,.d i64)],.x 7 158 dX :: .r 7 7 0::Ud⟩,⟨[],Ud⟩,⟨[],[]⟩⟩
def gn(a:dX.q):List Int:=[a.1,a.2.1,a.2.2.1,a.2.2.2.1,a.2.2.2.2.1,a.2.2.2.2.2.1,a.2.2.2.2.2.2.1,a.2.2.2.2.2.2.2.1,a.2.2.2.2.2.2.2.2.1,a.2.2.2.2.2.2.2.2.2.1]
def nz(k:dX.q×Int×Int×aW.q)(_b:Prop)(i:Int)(_e:Unit)(s:List bD.q):Fr (List bD.q):=
 let a:=I6.wrap (i+1);Jd (0<=I6.wrap (i+1)/\I6.wrap (i+1)<(10:Int)) (Jb ((gn k.1).getD a.toNat 0 != 0)
  (Jd (s.length+1<=maxLen/\(s.length+1)*16<=140737488355328) (Jv (s++[(I6.wrap (i+1),(gn k.1).getD a.toNat 0,())]))) (Jv s))
def qjd:He.M.X->Fr He.Out:=FG (λx=>(x.1.1,(x.2.1,x.2.2.1.1,x.2.2.1.2.1,x.2.2.2.1),x.2.2.1.2.2.1)) (λ_=>9) (λ_=>Lrp 9 ()) nz (λk s=>((),(k.2.1,k.2.2.1,s,()),k.2.2.2,()))
def zee:af prog (.loop (au f20 0)) He.M He qjd:=
 cX aL (λi k s=>((i,()),k.1,(k.2.1,k.2.2.1,s,()),k.2.2.2,())) ()
def qym:=λk s=>bw (nz k True) 0 (Lrp 9 ()) s
def zhe:=λk s=>bY (nz k True) 0 (Lrp 9 ()) s
abbrev vo:Pt:=⟨71,0,⟨[(11,.d i64),(10,.d i64),(9,.d (.sl bD)),(4,.d i64),(5,.d i64)],[.x 1 92 aW,.r 1 1 0]⟩,⟨[(4,.d i64)],[.x 1 92 aW,.r 1 1 0]⟩,⟨[(2,.d i64),(3,.d .bool)],[]⟩⟩
def n9(k:Int×(List bD.q)×aW.q)(b:Prop)(i:Int)(e:bD.q)(s:Int×Int):Fr ((Int×Int) ⊕ vo.R.X):=
 Jd b (Jb (bif bif bif bif J (e.1<=s.2)then Z else J (e.1>9)then Z else e.2.1==0 then Z else J (e.2.1 < -1000000000000000)then Z else J (e.2.1>1000000000000000)) (Jv (.inr ((0,Y,()),()))) (Jv (.inl (I6.wrap (s.1+e.2.1),e.1))))
def R7:vo.M.X->Fr vo.Out:=FK (λx=>(x.1.1,(x.1.2.1,x.1.2.2.1,x.2.1),(x.1.2.2.2.1,x.1.2.2.2.2.1))) (λk=>k.1) (λk=>k.2.1) n9 (λk s=>((s.1,()),k.2.2,())) (λ_ y=>Rd.back y) (0,0) (aY _,cf _)
def zfb:af prog (.loop (au f52 0)) vo.M vo R7:=
 lG aL (λi k s=>((i,k.1,k.2.1,s.1,s.2,()),k.2.2,())) bD.j
def qyq:=λk s=>bC (n9 k True) 0 k.2.1 s
def zhj:=λk s=>eI (n9 k True) 0 k.2.1 s
def zs3(a:Gm):St->Option Tr:=vo.han a vo.M R7
def ua(x:ap [.d aW]):Fr (aa [i64,.bool]):=
 iS (InK (((List.length x.1.2.2.1):Int)) 0 (List.length x.1.2.2.1)) (zhj (((List.length x.1.2.2.1):Int),x.1.2.2.1,x.1) (0,0)) (qyq (((List.length x.1.2.2.1):Int),x.1.2.2.1,x.1) (0,0)) (0,0) (aY _,cf _) (λa=>Jv (a.1,bif bif bif bif J (x.1.1>=1)then J (x.1.1<=292194)else Y then J (x.1.2.1>=0)else Y then J (x.1.2.1<=1000000000)else Y then J (((List.length x.1.2.2.1):Int)>=2)else Y,())) (λb=>Jv b.1)
def qvb:ag prog 52 ⟨[.d aW],[i64,.bool],λxs=>(ua xs).get,λxs=>[(ua xs).ok]⟩:=
 cF aL (Λ:=(λ_=>zs3 eN.Γ)) (fn:=f52) (aY [.d aW]) (by kernel_rfl) (λc E a=>fH a (by kernel_rfl) (b:=au f52 0) (by kernel_rfl) (af.han aL rfl zfb)) (λx=>by kernel_rfl)
def pz:Ct:=⟨[.d aW],[i64,.bool],λx=>(ua x).get,λ_=>[]⟩
def qnf:ag prog 52 pz:=cq qvb _ (λx a _=>sS (jd a.1.2.2.1.1) (by refine Oh (λ_ _ _=>?_) _ _ _;exact⟨uT,λ_=>uT,λ_=>uT⟩) (λ_=>by repeat' first|exact trivial|intro _|refine⟨?_,?_⟩|decide) (λ_=>uT))
def qaj:List (FuncId×Row):=[(53,.clone 96 bD 16)]
def qh5:Cx:=nV [(52,pz)] [] qaj (λ_ _ _ _=>V)
def qh6:CxOK prog qh5:=pE (cs:=[(52,pz)]) (ps:=[]) (rs:=qaj) aH ⟨qnf,uT⟩ trivial ⟨qos,uT⟩ (λ_ _ _ _ _ h=>(nomatch h))
def tZ(x:ap [.d bq,.d aW]):Fr (aa [bq,i64]):=
 let h:=pz.f (x.2.1,());let b:=(none:Option Int);let c:=List.drop (b.getD 0).toNat x.1.1;let a:=((List.length x.1.1):Int);let g:=List.take (a-b.getD 0).toNat c;Jb (!h.2.1) (Jv (([],()),1,())) (Jb (h.1 != 0) (Jv (([],()),13,())) (Jb (J (a>=2000)) (Jv (([],()),2,())) (Jd (J (a>0)=Z->0<=I6.wrap (a-1)/\I6.wrap (a-1)<a) (Jb (bif J (a>0)then J (x.2.1.1<(List.getD x.1.1 (I6.wrap (a-1)).toNat aW.j).1)else Y) (Jv (([],()),4,())) (Jd (List.length x.2.1.2.2.1<=maxLen) (Jd (List.length x.2.1.2.2.1*16<=140737488355328) (Jd (0<=b.getD 0/\b.getD 0<=a/\a<=a/\a=a) (Jd (0 < [x.2.1].length/\g.length + [x.2.1].length<=maxLen/\(g.length + [x.2.1].length)*40<=140737488355328) (Jv ((List.take (a-b.getD 0).toNat c++[x.2.1],()),0,()))))))))))
def qu8:ag prog 23 ⟨[.d bq,.d aW],[bq,i64],λxs=>(tZ xs).get,λxs=>[(tZ xs).ok]⟩:=
 cF qh6 (Λ:=bK) (fn:=f23) (aY [.d bq,.d aW]) (by kernel_rfl) (λc E _=>bm c 0) (λx=>by kernel_rfl)
def zju(b:bq.q)(e:aW.q)(h:List.length (α:=bD.q) e.2.2.1<=1000000):(tZ (b,e,())).ok:=by
 have g:=fI;refine⟨λ_=>uT,λ_=>⟨λ_=>uT,λ_=>⟨λ_=>uT,λc=>⟨λd=>?_,λ_=>uT,λ_=>⟨?_,?_,?_,?_,uT⟩⟩⟩⟩⟩;have i:(List.length (α:=aW.q) b.1:Int)>0:=ucx d;have f:¬ (List.length (α:=aW.q) b.1:Int)>=2000:=uch c;rw[show I6.wrap ((List.length (α:=aW.q) b.1:Int)-1)=(List.length (α:=aW.q) b.1:Int)-1 from cV (by omega)];show 0<=(List.length (α:=aW.q) b.1:Int)-1/\(List.length (α:=aW.q) b.1:Int)-1<(List.length (α:=aW.q) b.1:Int);omega;show List.length (α:=bD.q) e.2.2.1<=maxLen;omega;show List.length (α:=bD.q) e.2.2.1*16<=_;omega;exact⟨ufc _,ub4 _,ufc _,rfl⟩;have f:¬ (List.length (α:=aW.q) b.1:Int)>=2000:=uch c;have a:(List.take ((List.length (α:=aW.q) b.1:Int)-(none:Option Int).getD 0).toNat (List.drop ((none:Option Int).getD 0).toNat (b.1:List aW.q))).length<=2000:=by rw[uc5];show min _ (List.length (α:=aW.q) b.1)<=_;omega
 refine⟨udv,?_,?_⟩;exact uep (udk a) (uep (show 2001<=1000000 by decide) g);exact uep (ube 40 (udk a)) (by decide)
def K2:Ct:=⟨[.d bq,.d aW],[bq,i64],λx=>(tZ x).get,λx=>[List.length (α:=bD.q) x.2.1.2.2.1<=1000000]⟩
def qnd:ag prog 23 K2:=cq qu8 _ (λx _ a=>zju x.1 x.2.1 a)
def LX(x:ap [.d i64,.ptr i64]):Fr (aa [.bool]):=
 Jv (J (x.1<=x.2.1),())
def qu6:ag prog 34 ⟨[.d i64,.ptr i64],[.bool],λxs=>(LX xs).get,λxs=>[(LX xs).ok]⟩:=
 cF aL (Λ:=bK) (fn:=f34) (aY [.d i64,.ptr i64]) (by kernel_rfl) (λc E _=>bm c 0) (λx=>by kernel_rfl)
def xc:Ct:=⟨[.d i64,.ptr i64],[.bool],λx=>(LX x).get,λ_=>[]⟩
def qnb:ag prog 34 xc:=cq qu6 _ (λx a _=>uT)
abbrev pR:PT:=.fn [i64] [.bool]
abbrev yI:Pt:=⟨42,2,⟨[(27,.d i64),(26,.d i64),(25,.d (.sl bD)),(7,.d i64),(1,.d i64),(2,pR),(15,.d i64),(14,.d i64),(13,.d (.sl aW))],[]⟩,⟨[(7,.d i64),(1,.d i64),(2,pR),(15,.d i64),(14,.d i64),(13,.d (.sl aW))],[]⟩,⟨[],[]⟩⟩
abbrev Ny:Type:=Int×List bD.q×Int×pR.q×Int×Int×List aW.q
def HT(k:Ny)(b:Prop)(_i:Int)(e:bD.q)(s:Int):Fr Int:=Jd b (Jb (e.1==k.2.2.1) (Jv (I6.wrap (s+e.2.1))) (Jv s))
def Ro:yI.M.X->Fr yI.Out:=FG (λx=>(x.1.1,((x.1.2.1,x.1.2.2.1,x.1.2.2.2.2.1,x.1.2.2.2.2.2.1,x.1.2.2.2.2.2.2.1,x.1.2.2.2.2.2.2.2.1,x.1.2.2.2.2.2.2.2.2.1):Ny),(x.1.2.2.2.1:Int))) (λk=>k.1) (λk=>k.2.1) HT (λk s=>((s,k.2.2.1,k.2.2.2.1,k.2.2.2.2.1,k.2.2.2.2.2.1,k.2.2.2.2.2.2,()),()))
def WE:Code:=(Go.Ab.loopB (au f33 0) 0).getD .skip
def zd0:af prog (.loop WE) yI.M yI Ro:=
 cX aL (λi k s=>((i,k.1,k.2.1,s,k.2.2.1,k.2.2.2.1,k.2.2.2.2.1,k.2.2.2.2.2.1,k.2.2.2.2.2.2,()),())) bD.j
abbrev Ha:Pt:=⟨42,0,⟨[(15,.d i64),(14,.d i64),(13,.d (.sl aW)),(1,.d i64),(2,pR),(7,.d i64)],[]⟩,⟨[(7,.d i64)],[]⟩,⟨[],[]⟩⟩
abbrev Gz:Type:=Int×List aW.q×Int×pR.q
def bN(e:aW.q):List bD.q:=e.2.2.1
def N2(k:Gz)(i:Int)(e:aW.q):Ny:=(((bN e).length:Int),bN e,k.2.2.1,k.2.2.2,i,k.1,k.2.1)
def Dg(k:Gz)(b:Prop)(i:Int)(e:aW.q)(s:Int):Fr Int:=
 Jd b (Jb (!(k.2.2.2 (e.1,())).1) (Jv s) (cT (InK ((bN e).length:Int) 0 (bN e).length) (bY (HT (N2 k i e) True) 0 (bN e) s) (bw (HT (N2 k i e) True) 0 (bN e) s) (λs=>Jv s)))
def qi6:Ha.M.X->Fr Ha.Out:=FG (λx=>(x.1.1,((x.1.2.1,x.1.2.2.1,x.1.2.2.2.1,x.1.2.2.2.2.1):Gz),(x.1.2.2.2.2.2.1:Int))) (λk=>k.1) (λk=>k.2.1) Dg (λ_ s=>((s,()),()))
def zdz:af prog (.loop (au f33 0)) Ha.M Ha qi6:=
 cX aL (λi k s=>((i,k.1,k.2.1,k.2.2.1,k.2.2.2,s,()),())) aW.j (Λ:=λ_=>yI.han eN.Γ yI.M Ro) (hΛ:=λ_=>nc (by kernel_rfl) (b:=WE) (by kernel_rfl) (af.han aL rfl zd0))
def BT(x:ap [.d bq,.d i64,pR]):Gz:=((List.length (α:=aW.q) x.1.1:Int),x.1.1,x.2.1,x.2.2.1)
def UU(x:ap [.d bq,.d i64,pR]):Fr (aa [i64]):=
 cT (InK (List.length (α:=aW.q) x.1.1:Int) 0 (List.length (α:=aW.q) x.1.1)) (bY (Dg (BT x) True) 0 x.1.1 0) (bw (Dg (BT x) True) 0 x.1.1 0) (λs=>Jv (s,()))
def qva:ag prog 33 (bg [.d bq,.d i64,pR] [i64] UU):=cZ aL zdz (fn:=f33)
def K3:Ct:=⟨[.d bq,.d i64,pR],[i64],λx=>(UU x).get,λ_=>[]⟩
def qne:ag prog 33 K3:=cq qva _ (λx d _=>by have a:=d.1.1;refine qz (jd a.1) (dK (step:=Dg (BT x) True) (λ_ _=>True) x.1.1 (λi e s c _=>?_) 0 trivial).1 (λ_=>uT);have b:=a.2 i e c;refine⟨uT,λ_=>uT,λ_=>⟨jd b.2.2.1.1,?_,uT⟩⟩;refine yx (λ_ _ _=>?_) _ _ _;exact⟨uT,λ_=>uT,λ_=>uT⟩)
def qh7:Cx:=cx [(33,K3),(34,xc)] []
def qh8:CxOK prog qh7:=aQ aH ⟨qne,qnb,uT⟩ trivial
def LY(x:ap [.d bq,.d i64,.d i64]):Fr (aa [i64]):=
 Jd (∀ (a:aa [i64]),gN [i64] a->az (xc.ok (a.1,x.2.2.1,()))) (Jv ((K3.f ((x.1.1,()),x.2.1,λa=>xc.f (a.1,x.2.2.1,()),())).1,()))
def qu7:ag prog 11 ⟨[.d bq,.d i64,.d i64],[i64],λxs=>(LY xs).get,λxs=>[(LY xs).ok]⟩:=
 cF qh8 (Λ:=bK) (fn:=f11) (aY [.d bq,.d i64,.d i64]) (by kernel_rfl) (λc E _=>bm c 0) (λx=>by kernel_rfl)
def xd:Ct:=⟨[.d bq,.d i64,.d i64],[i64],λx=>(LY x).get,λ_=>[]⟩
def qnc:ag prog 11 xd:=cq qu7 _ (λx a _=>⟨λ_ _=>uT,uT⟩)
def Yv{e:Unit}(h:(Lrp 9 ())[i]?= U e):i<9:=by
 have:=eO h
 rwa [ubc]at this
def qd5(h:i<9):0<=I6.wrap ((i:Int)+1)/\I6.wrap ((i:Int)+1)<(10:Int):=by rw[show I6.wrap ((i:Int)+1)=(i:Int)+1 from cV (by omega)];omega
def gX(s:ak.q):Prop:=∀ f∈aJ s,List.length (α:=ba.q) f.2.1<=2000
def qps(g:aq.q)(a:ba.q)(h:List.length (α:=ba.q) g.2.1<=2000):List.length (α:=ba.q) (eX g a).1.2.1<=2000:=by unfold eX;cases !(lc a);cases b:J (((List.length (α:=ba.q) g.2.1:Nat):Int)>=2000);have:=uch b;cases J (a.1<qb g);cases (m9 g).2.2.2.2.2.1==(a.2.1==5);cases A8 g a;show(g.2.1++[a]).length<=2000;rw[ub6,ua7];omega;exact ufh _;exact ufh _;exact ufh _;exact ufh _;exact ufh _
def qsv(t:bh.q):gX (hZ t):=λf a=>by cases a
def qsr{s:ak.q}(f:ae.q)(h:gX s):gX (fB s f).1:=by unfold fB;cases J (aI s f>=0);cases J (((List.length (bW s):Nat):Int)>=2000);exact h;exact h;exact h
def qsq{s:ak.q}(f:ae.q)(h:gX s):gX (fA s f).1:=by unfold fA;cases J (aI s f<0);cases (aJ s).any (lO f);exact h;exact h;exact h
def qsw{s:ak.q}(f:ae.q)(h:gX s):gX (fD s f).1:=by unfold fD;cases J (aI s f<0);cases J (ej f>I6.wrap (4000000000000000000-(gc s (aI s f)).2.1));exact h;exact h;exact h
def qsu{s:ak.q}(f:ae.q)(h:gX s):gX (fl s f).1:=by
 unfold fl;cases J (eS s (dk f).1>=0);cases J (((List.length (aJ s):Nat):Int)>=2000);cases !(lA s f).2;intro g a;rcases o9 a with a|a
 exact h g a;rw[a];exact ufh _;exact h;exact h;exact h
def qsp{s:ak.q}(f:ae.q)(h:gX s):gX (eY s f).1:=by
 unfold eY;cases b:J (gI s f<0);intro g a;rcases qd a with a|a
 exact h g a;rw[a];exact qps _ _ (h _ (eT (FI (uch b))));exact h
def qsx{s:ak.q}(f:ae.q)(h:gX s):gX (fE s f).1:=by unfold fE;cases oZ s (dB f);cases J (((List.length (bT s):Nat):Int)>=100);cases jV (bT s) (dB f);exact h;exact h;exact h;exact h
def qss{s:ak.q}(f:ae.q)(h:gX s):gX (gi s f).1:=by unfold gi;cases J (dA f<=kg s);exact h;exact h
def qst{s:ak.q}(f:ae.q)(h:gX s):gX (gU s f).1:=by show gX (kB s f).1;unfold kB;cases aM f==1;cases aM f==2;cases aM f==3;cases aM f==4;cases aM f==5;cases aM f==6;exact qss f h;exact qsx f h;exact qsp f h;exact qsu f h;exact qsw f h;exact qsq f h;exact qsr f h
def ix(s:ak.q):Prop:=bi s/\gX s
def Fv{t:bh.q}(h:bf t):ix (hZ t):=⟨L9 h,qsv t⟩
def L7{s:ak.q}(f:ae.q)(h:ix s)(a:(dq s f).2=0):ix (dq s f).1:=by rw[(Dp a).2.2];exact⟨UF f h.1,qst f h.2⟩
def Bg{s:ak.q}(h:ix s):dC (aJ s):=⟨uep h.1.2.2.1 (by decide),λf a=>uep (h.2 f a) (by decide)⟩
section
open Go.Shelf
attribute [local go_sem] Oper.semAt_some
def qlt (n:Nat) (hn:1<=n) (l Bs n₀ b off len cap:Nat) (c:Nat->Int) (hreach:len<=1000000) (A:Option Addr) (hA:0<len->A=some ⟨b,off,none⟩/\b<n₀) (J Jx:List (Fin len)->World->Prop)
  (hY:∀ pre (k:Fin len) W,J pre W->pre.length<len->YieldAt Fence.wide (n-1) prog l #[.int .i64 ((k.1:Nat):Int),.int .i64 (c k.1)] W λe W'=>
   (e=.returned (.bool true)/\J (pre++[k]) W'/\cU n₀ Bs Bs W W')\/(e=.returned (.bool false)/\Jx (pre++[k]) W'))
  (W:World) (hBs:W.heap[Bs]?= some (.cells #[.slice A len cap] 48 (0,0))) (hc:∀ k,k<len->W.cell? ⟨b,off+k,none⟩=some (.int .i64 (c k))) (h0:J [] W) :
  CallsIn Fence.wide n prog 216 #[.func (.yield l) #[] #[],.pointer (some ⟨Bs,0,none⟩)] W λe W'=>(∃ v,e=.returned v) /\
   ((∃ ys:List (Fin len),ys.map Fin.val=jO (λj=>len-1-j) len/\J ys W')\/(∃ pre:List (Fin len),(∃ k,k<=len/\pre.map Fin.val=jO (λj=>len-1-j) k)/\Jx pre W')):=by
 have hro:Fence.wide.round=none:=rfl;refine callsIn_of_wp func216 rfl trivial ?_ hro;simp only[ntmps216,ucq,uc9,udm,Nat.reduceAdd,Nat.reduceSub,ubn,ubo,ucy,ubx,udn,uc4];have c0:=cn hBs 0
 gi_wp2
 gi_loopw [3] (λi wr=>∃ (k:Nat) (pre:List (Fin len)),k<=len/\i=.int .i64 ((len:Int)-1-k)/\pre.map Fin.val=jO (λj=>len-1-j) k/\J pre wr/\cU n₀ Bs Bs W wr)
  (λi _=>(intOf i+1).toNat)
 case atStart=>exact⟨0,[],ufh _,by simp,rfl,h0,cU.refl _ _ _ _⟩
 case round=>
  obtain⟨k,pre,hk,rfl,hpre,hJs,hnx⟩:=hrel;have e0:=cn (hnx.2.1.trans hBs) 0;by_cases hlt:k<len
  ·obtain⟨rfl,hb⟩:=hA (by omega);obtain⟨fn,tmps,assign,body,hy,hR⟩:=hY pre ⟨len-1-k,by omega⟩ wr hJs (by have:=ufu List.length hpre;rw[FM,ud3]at this;omega);have x0:wr.cell? ⟨b,off+(len-1-k),none⟩=some (.int .i64 (c (len-1-k))):=(hnx.1.cell hb).trans (hc _ (by omega));have ek:((len-1-k:Nat):Int)=(len:Int)-1-k:=by omega
   rw[ek]at hy
   gi_wp2
   refine hR.mono ?_;rintro e W3 (⟨rfl,hJ3,hk3⟩|⟨rfl,hJx3⟩)
   ·gi_wp2
    go_roundw
    case rel=>exact⟨k+1,pre++[⟨len-1-k,by omega⟩],by omega,by simp;omega,by rw[xG,udx,hpre];rfl,hJ3,hnx.trans hk3⟩
    case measure=>simp[intOf];omega
   ·gi_wp2
    refine ue3 (ue4 rfl _ _ _) rfl ?_;exact⟨⟨_,rfl⟩,.inr ⟨_,⟨k+1,by omega,by rw[xG,udx,hpre];rfl⟩,hJx3⟩⟩
  ·obtain rfl:k=len:=by omega
   gi_wp2
   go_end0
   exact⟨⟨_,rfl⟩,.inl ⟨_,hpre,hJs⟩⟩
def qlv(n:Nat)(A:Option Addr)(b a:Nat)(w:World):
  CallsIn Fence.wide n prog 160 #[.slice A b a] w λe w'=>e=.returned (.func (.func 216) #[] #[.pointer (U ⟨w.heap.size,0,V⟩)])/\w'=w.alloc (.cells #[.slice A b a] 48):=by
 refine callsIn_of_wp func160 rfl trivial ?_ rfl;simp only[ntmps160,ucq,uc9,udm,Nat.reduceAdd,Nat.reduceSub,ubn,ubo,ucy,ubx,udn,uc4]
 gi_wp2
 go_ret
 exact⟨rfl,rfl⟩
structure TuI (w:World) (hc:Array Value) (day:Int) (Bs:Nat) (sv:Value) (is:Nat->Bool) (pre:List (Fin len)) (W:World):Prop where
 h0:W.heap[w.heap.size]?= some (.cells hc 80 (0,0))
 d:Boxed W (w.heap.size+1) 3 (.int .i64 day)
 r:Boxed W (w.heap.size+1+1) 4 (.bool false)
 s:Boxed W Bs 48 sv
 bel:Below w.heap.size w W
 sz:Bs+1<=W.heap.size
 no:∀ k∈pre,is k.1=false
structure TuX (w:World) (is dy:Nat->Bool) (c:Code) (pre:List (Fin len)) (W:World):Prop where
 ret:c=.ret
 res:∃ ini k,pre=ini++[k]/\(∀ k∈ini,is k.1=false)/\is k.1=true/\Boxed W (w.heap.size+1+1) 4 (.bool (dy k.1))
 bel:Below w.heap.size w W
def zqy{i:Array Value}{f:Nat}{n:Value}{l:Nat->Bool}(g:w.heap.size<=B):OwnFrom B (λ(c:List (Fin len)) W=>TuI w i day f n l c W):=λc X o m h a b=>⟨tu h.h0 a b,ku h.d a b,ku h.r a b,ku h.s a b,h.bel.grown a h.bel.size (λk e=>uep g (b k e).1),uep h.sz a.size,h.no⟩
def zqz{p g:Nat->Bool}(o:w.heap.size<=B)(c:Code):OwnFrom B (λ(a:List (Fin len)) W=>TuX w p g c a W):=λa X s r h d f=>by obtain⟨b,k,i,l,m,n⟩:=h.res;exact⟨h.ret,⟨b,k,i,l,m,ku n d f⟩,h.bel.grown d h.bel.size (λk e=>uep o (f k e).1)⟩
def qj3(b c:Nat->Bool)(a:Nat)(e:Ending):Prop:=
 (e=.returned (.bool Y)/\∀ k,k<a->b k=Y) \/ ∃ k,k<a/\b k=Z/\(∀ j,k<j->j<a->b j=Y)/\e=.returned (.bool (c k))
abbrev fU(g:Nat->Int)(a:Option Addr)(e c:Nat)(b:Option Addr)(f d:Nat):Array Value:=#[.int .i64 (g 0),.int .i64 (g 1),.int .i64 (g 2),.int .i64 (g 3),.int .i64 (g 4),.int .i64 (g 5),.int .i64 (g 6),.int .i64 (g 7),.slice a e c,.slice b f d]
def qda{R:Ending->World->Prop}{D z:Nat}{A B C E F G H K L a b c d e f g h i k l m n p s t u w x y:Value}(Q:Boxed W (z+1+1) 4 v)(N:W.heap[D]?= U (.deferred (U [])))(S:z+3<=D)(O:R (.returned v) (W.putObj D (.deferred V))):
  bodyPostM Fence.wide 8 prog f90 R .ret { tmps:=#[A,B,C,E,.pointer (U ⟨z+1+1,0,V⟩),F,G,H,K,L,a,b,c,d,e,f,g,h,i,k,l,m,n,p,s,t,u,w,x,y],defers:=[{ target:=.collected D,args:=#[] }] } W:=by
 have P:Boxed (W.putObj D (.deferred V)) (z+1+1) 4 v:=(World.putObj_heap_other (r:=D) (o:=.deferred V) (by omega)).trans Q;have M:=P.cell;refine⟨by simp,.inl ⟨_,_,rfl,run_takeDeferred N,?_⟩⟩;refine⟨v,?_,O⟩;simp[results,results90,go_sem,M]
def zq2 (g:Nat->Int) (O:Option Addr) (l1 P:Nat) (L:Option Addr) (F Q b2 B:Nat) (c:Nat->ChC) (y:Int) (w:World) (hl2:F<=1000000) (hA2:0<F->L=U ⟨b2,B,V⟩/\b2<w.heap.size)
  (hc2:∀ k j u,k<F->(dZ (c k))[j]?= U u->w.cell? ⟨b2,B+(k*9+j),V⟩=U u)
  (v:Nat->Nat) (a:Nat) (hlen:a<=1000000) (hol:∀ k,k<a->v k<F)
  (hO:∀ W,Below w.heap.size w W->Calls prog 136 #[.agg (fU g O l1 P L F Q)] W λe w'=>∃ (A:Option Addr) (n b off:Nat),e=.returned (.slice A a n)/\Below W.heap.size W w' /\
   (0<a->A=U ⟨b,off,V⟩/\b<w'.heap.size)/\∀ k,k<a->w'.cell? ⟨b,off+k,V⟩=U (.int .i64 (v k:Int))) :
  CallsIn Fence.wide 8 prog 90 #[.agg (fU g O l1 P L F Q),.int .i64 y] w λe w'=>qj3 (λk=>(c (v k)).p 2==3 || (c (v k)).p 2==4) (λk=>decide ((c (v k)).p 1<=y)) a e/\Below w.heap.size w w':=by
 refine callsIn_of_wp_marks func90 rfl trivial ?_ rfl;simp only[ntmps90,ucq,uc9,udm,Nat.reduceAdd,Nat.reduceSub,ubn,ubo,ucy,ubx,udn,uc4];obtain⟨C,H,M⟩:=wB [.cells (fU g O l1 P L F Q) 80,.cells #[.int .i64 y] 3,.cells #[.bool false] 4] w;have HO:=Lib.hid (hO _ C);have HB:=Lib.hid C;replace H:_=w.heap.size+3:=H;have HZ:=Lib.hid H;have HQ:=Lib.hid M;have HC:=Lib.hid hc2;clear hc2 hO M C H;unfold fU
 gi_wp2_with (first
  |(refine⟨uT,?_⟩;gi_at_call 136;refine(callsIn_wide.2 HO.out).mono ?_;rintro e x ⟨A,n,b,off,rfl,T,hA,hcl⟩)
  |(refine⟨uT,?_⟩;gi_at_call 160;refine(qlv _ _ _ _ _).mono ?_;rintro e w' ⟨rfl,rfl⟩))
 have hw1:Below w.heap.size w x:=HB.out.trans (T.mono HB.out.size);have hz1:w.heap.size+3<=x.heap.size:=by have:=T.size;have:=HZ.out;omega
 have hbb:Below x.heap.size x (x.alloc (.cells #[.slice A a n] 48)):=(ufk _ x).alloc (ufb _) _;have hbs:=World.alloc_heap_new x (.cells #[.slice A a n] 48);have hsz0:(x.alloc (.cells #[.slice A a n] 48)).heap.size=x.heap.size+1:=by simp
 generalize x.alloc (.cells #[.slice A a n] 48)=W0 at *;have hb0:=hw1.trans (hbb.mono hw1.size);have ee:∀ i o,i<3->_->W0.heap[w.heap.size+i]?= U o:=λi o f h=>(hbb.block _ (by omega)).trans ((T.block _ (by have:=HZ.out;omega)).trans (HQ.out i o h));have hI0:TuI w (fU g O l1 P L F Q) y x.heap.size (.slice A a n) (λk=>(c (v k)).p 2==3 || (c (v k)).p 2==4) ([]:List (Fin a)) W0:=⟨ee 0 _ (by decide) rfl,ee 1 _ (by decide) rfl,ee 2 _ (by decide) rfl,hbs,hb0,by omega,λk hk=>by cases hk⟩;refine wpIn_rangeFunc_ownH rfl (by omega) (gf:=216) (lb:=#[.pointer (U ⟨x.heap.size,0,V⟩)]) rfl trivial (enters_of func216 (by kernel_rfl) rfl)
  (α:=Fin a) (encs:=λ(k:Fin a)=>#[.int .i64 ((k.1:Nat):Int),.int .i64 (v k.1:Int)]) (Kp:=cU x.heap.size x.heap.size x.heap.size) (S:=λys=>ys.map Fin.val=jO (λj=>a-1-j) a) (Sp:=λt=>∃ k,k<=a/\t.map Fin.val=jO (λj=>a-1-j) k) (N:=a) (w0:=W0)
  (λl J Jx W hW _ _ hY h0=>qlt 7 (by omega) l x.heap.size x.heap.size b off a n (λk=>(v k:Int)) hlen A hA J Jx hY W ((hW.block _ (by omega)).trans hbs) (λk hk=>((hbb.trans (hW.mono (by omega))).cell (p:=⟨b,off+k,V⟩) (hA (by omega)).2).trans (hcl k hk)) h0)
  (λh k=>h.trans k) (λW l o o' hl ho hoc how=>⟨belowK_b (w:=x) (ufb _) W l o o' (by omega) ho hoc how,World.putObj_heap_other (by omega),World.putObj_heap_other (by omega)⟩) (ufk _ _)
  (by intro _;rfl)
  (λt W=>TuI w (fU g O l1 P L F Q) y x.heap.size (.slice A a n) (λk=>(c (v k)).p 2==3 || (c (v k)).p 2==4) t W)
  (λcd t W=>TuX w (λk=>(c (v k)).p 2==3 || (c (v k)).p 2==4) (λk=>decide ((c (v k)).p 1<=y)) cd t W)
  (zqy (by omega)) (zqz (by omega)) hI0
  (λk a' _=>a' = { tmps:=#[.agg #[.int .i64 (g 0),.int .i64 (g 1),.int .i64 (g 2),.int .i64 (g 3),.int .i64 (g 4),.int .i64 (g 5),.int .i64 (g 6),.int .i64 (g 7),.slice O l1 P,.slice L F Q],.int .i64 y,.pointer (U ⟨w.heap.size,0,V⟩),.pointer (U ⟨w.heap.size+1,0,V⟩),.pointer (U ⟨w.heap.size+1+1,0,V⟩),undef,.int .i64 (v k.1:Int),undef,.agg #[.int .i64 (g 0),.int .i64 (g 1),.int .i64 (g 2),.int .i64 (g 3),.int .i64 (g 4),.int .i64 (g 5),.int .i64 (g 6),.int .i64 (g 7),.slice O l1 P,.slice L F Q],.slice A a n,.func (.func 216) #[] #[.pointer (U ⟨x.heap.size,0,V⟩)],.int .i64 (k.1:Int),.int .i64 (v k.1:Int),undef,undef,undef,undef,undef,undef,undef,undef,undef,undef,undef,undef,undef,undef,undef,undef,undef],defers:=[] })
  (λk a'=>λ_ X Y row h _ _=>h) ?assign ?body ?done ?stop
 case assign=>
  rintro l t ⟨k,G⟩ W K f R
  gi_wp2
  exact R _ _ (KeepsFrom.refl _ _) (cU.refl _ _ _ _) f rfl
 case body=>
  rintro l t ⟨k,G⟩ a' W hl ⟨r,hr⟩ f rfl hlt;have hk2:=hol k G;obtain⟨rfl,hb2⟩:=hA2 (by omega);have hcx:∀ j,j<9->W.cell? ⟨b2,B+v k*9+j,V⟩=U ((dZ (c (v k))).getD j undef):=λj hj=>by rw[uei];exact(f.bel.cell (p:=⟨b2,B+(v k*9+j),V⟩) hb2).trans (HC.out (v k) j _ hk2 (by match j,hj with|0,_|1,_|2,_|3,_|4,_|5,_|6,_|7,_|8,_=>rfl))
  obtain⟨x0,x1,x2,x3,x4,x5,x6,x7,x8⟩:=uM hcx;rw[uez]at x0;simp[dZ]at x0 x1 x2 x3 x4 x5 x6 x7 x8;have z0:=cn f.h0 9;simp at z0;have zd:=f.d.cell;have zr:=f.r.cell;have zf:=f.r.frozen;have hsz1:=f.sz;have n1:w.heap.size+1≠W.heap.size:=by omega
  have n2:w.heap.size+1+1≠W.heap.size:=by omega
  have za:∀ o,(W.alloc o).cell? ⟨w.heap.size+1,0,V⟩=U (.int .i64 y):=λo=>(((ufk _ W).alloc (ufb _) o).cell (p:=⟨w.heap.size+1,0,V⟩) (by show w.heap.size+1<W.heap.size;omega)).trans zd;have zb:∀ o,(W.alloc o).heap[w.heap.size+1+1]?= U (.cells #[.bool false] 4 (0,0)):=λo=>(udb W o (w.heap.size+1+1) (by omega)).trans f.r;have zc:∀ o,(W.alloc o).cell? ⟨w.heap.size+1+1,0,V⟩=U (.bool false):=λo=>cn (zb o) 0;have zg:∀ o,(W.alloc o).frozen? ⟨w.heap.size+1+1,0,V⟩=false:=λo=>by simp[World.frozen?,zb]
  clear hcx hr
  gi_wp2
  refine⟨((KeepsOthers.alloc _ _).trans (KeepsOthers.setCell _ _ _)).from _,rfl,⟨t,⟨k,G⟩,rfl,f.no,?_,(show Boxed (W.alloc _) _ _ _ from zb _).set _⟩,(f.bel.alloc f.bel.size _).setCell (by show w.heap.size<=w.heap.size+1+1;omega) _⟩
  simp_all
  refine⟨((KeepsOthers.alloc _ _).trans (KeepsOthers.setCell _ _ _)).from _,rfl,⟨t,⟨k,G⟩,rfl,f.no,?_,(show Boxed (W.alloc _) _ _ _ from zb _).set _⟩,(f.bel.alloc f.bel.size _).setCell (by show w.heap.size<=w.heap.size+1+1;omega) _⟩
  simp_all
  refine⟨(KeepsOthers.alloc _ _).from _,cU.below ((ufk _ W).alloc (ufb _) _) (by omega) (by omega) (by omega),(udb _ _ _ (by omega)).trans f.h0,f.d.alloc _,f.r.alloc _,f.s.alloc _,f.bel.alloc f.bel.size _,by simp;omega,λq M=>?_⟩;refine(udt.1 M).elim (f.no q) (λe=>?_);have e2:=ucf.1 e;subst e2
  simp_all
 case done=>
  rintro D zs W hD hzs f R;have zr:=f.r.cell;have zf:=f.r.frozen
  gi_wp2
  refine qda (z:=w.heap.size) (f.r.set (.bool false)) ((KeepsOthers.setCell W _ _).same D _ R rfl) (by omega) ⟨.inl ⟨rfl,λk hk=>?_⟩,?_⟩;have hm:k∈zs.map Fin.val:=by rw[hzs];exact ue8.2 ⟨a-1-k,uea.2 (by omega),by show a-1-(a-1-k)=k;omega⟩
  obtain⟨q,M,rfl⟩:=ue8.1 hm;exact f.no q M;have hb:=f.bel.setCell (p:=⟨w.heap.size+1+1,0,V⟩) (by show w.heap.size<=w.heap.size+1+1;omega) (.bool false);exact hb.trans (belowK_b (w:=w) (ufb _) _ D _ _ (by omega) ((KeepsOthers.setCell W _ _).same D _ R rfl) rfl rfl)
 case stop=>
  rintro D cd t W hD ⟨m,hm,E⟩ h R;obtain rfl:=h.ret
  gi_wp2
  obtain⟨ini,k,e1,e2,e3,e4⟩:=h.res;refine qda (z:=w.heap.size) e4 R (by omega) ⟨.inr ⟨k.1,k.2,e3,λj hj1 hj2=>?_,rfl⟩,h.bel.trans (belowK_b (w:=w) (ufb _) _ D _ _ (by omega) R rfl rfl)⟩;subst e1;have hl:=ufu List.length E;rw[FM,ud3,ub6]at hl;obtain rfl:m=ini.length+1:=by simpa using hl.symm
  rw[xG,udx]at E;obtain⟨h2,h3⟩:=List.append_inj' E rfl;have hlast:k.1=a-1-ini.length:=by simpa using h3
  have hin:j∈(ini.map Fin.val):=by rw[h2];exact ue8.2 ⟨a-1-j,uea.2 (by omega),by show a-1-(a-1-j)=j;omega⟩
  obtain⟨q,M,rfl⟩:=ue8.1 hin;exact e2 q M
end
def PP(h:aD.q)(a:Int):Bool:=match j8 h (bV h) (bV h).length with
 |some k=>J ((cw h k).2.1<=a)
 |none=>Y
def Ku:Ct:=⟨[.d aD,.d i64],[.bool],λx=>(PP x.1 x.2.1,()),λx=>[((aO x.1).length:Int)<=1000000]⟩
def qdc{h:aD.q}:(n:Nat)->(∀ k,k<n->mX (cw h (l.getD k 0))=Y)->j8 h l n=V
 |0,_=>rfl
 |n+1,a=>by unfold j8;rw[ufx (by rw[a n (Nat.lt_succ_self n)];decide)];exact qdc n λk b=>a k (Nat.lt_succ_of_lt b)
def qdd{h:aD.q}{k:Nat}(a:mX (cw h (l.getD k 0))=Z):(n:Nat)->k<n->(∀ j,k<j->j<n->mX (cw h (l.getD j 0))=Y)->j8 h l n=U (l.getD k 0)
 |0,c,_=>absurd c (Nat.not_lt_zero _)
 |n+1,g,b=>by unfold j8;by_cases e:k=n;subst e;rw[ufw a];rw[ufx (by rw[b n (by omega) (Nat.lt_succ_self n)];decide)];exact qdd a n (by omega) λj d f=>b j d (Nat.lt_succ_of_lt f)
def zq3:ag prog 90 Ku:=by
 refine⟨enters_of func90 (by kernel_rfl) rfl,λw F xs vs g hr r=>?_⟩;obtain⟨h,o,_⟩:=xs;obtain⟨v,vs',rfl,t,hn⟩:=hr;obtain⟨rfl,hd⟩:=W5 hn;have t:bJ w F aD h v:=t;have hvO:=t;obtain⟨cs,rfl⟩:=t.2.1.1 rfl;have hs:cs.size=10:=t.1;obtain⟨h0,L,⟨⟨s0,s1,_⟩,⟨r0,r1,r2,r3,_⟩,⟨A1,c1,M,_⟩,_⟩,⟨E,G,N,s⟩,_⟩:=t.2.2;obtain⟨A,cap,b,off,c,e1,hA,hc,hx⟩:=Tn (w:=w) (F:=F) (l:=aO h) (v:=.slice E (aO h).length G) ⟨E,G,rfl,s⟩;cases e1;have r:((aO h).length:Int)<=1000000:=r;have P:cs=fU (λj=>match j with|0=>h.1|1=>h.2.1|2=>h.2.2.1.1.1|3=>h.2.2.1.1.2.1|4=>h.2.2.1.2.1.1|5=>h.2.2.1.2.1.2.1|6=>h.2.2.1.2.1.2.2.1|_=>h.2.2.1.2.1.2.2.2.1) A1 (List.length (α:=ar.q) h.2.2.1.2.2.1) c1 E (aO h).length G:=by
  apply ufp;exact hs;intro i R S
  match i,R,S with
  |0,h,_=>exact ud4 ((uam h).symm.trans h0.1)
  |1,h,_=>exact ud4 ((uam h).symm.trans L.1)
  |2,h,_=>exact ud4 ((uam h).symm.trans s0.1)
  |3,h,_=>exact ud4 ((uam h).symm.trans s1.1)
  |4,h,_=>exact ud4 ((uam h).symm.trans r0.1)
  |5,h,_=>exact ud4 ((uam h).symm.trans r1.1)
  |6,h,_=>exact ud4 ((uam h).symm.trans r2.1)
  |7,h,_=>exact ud4 ((uam h).symm.trans r3.1)
  |8,h,_=>exact ud4 ((uam h).symm.trans M)
  |9,h,_=>exact ud4 ((uam h).symm.trans N)
 subst P;have hlen:(bV h).length=(aO h).length:=GQ h;have m:∀ k,k<(bV h).length->((((bV h).getD k 0).toNat:Nat):Int)=(bV h).getD k 0/\((bV h).getD k 0).toNat<(aO h).length/\(bV h)[k]?= U ((bV h).getD k 0):=λk a=>by
  have e:(bV h).getD k 0=(bV h)[k]:=by rw[uah,uaq a];rfl
  have hm:=Cp (h:=h) (x:=(bV h).getD k 0) (by rw[e];exact udi a);exact⟨by omega,by omega,by rw[e];exact uaq a⟩
 have z:∀ k,k<(bV h).length->(c ((bV h).getD k 0).toNat).p 1=(cw h ((bV h).getD k 0)).2.1/\(c ((bV h).getD k 0).toNat).p 2=(cw h ((bV h).getD k 0)).2.2.1:=λk a=>by
  have n:=(m k a).2.1;obtain⟨_,hsl,B⟩:=hx _ _ (uaq n);have e:cw h ((bV h).getD k 0)=(aO h)[((bV h).getD k 0).toNat]:=by show(aO h).getD _ _=_;rw[uah,uaq n];rfl
  obtain⟨_,_,_,q1,q2,_⟩:=B (_,_,_) w F hsl;have q1':U (Value.int .i64 ((c ((bV h).getD k 0).toNat).p 1))=U (.int .i64 _):=q1.1;have q2':U (Value.int .i64 ((c ((bV h).getD k 0).toNat).p 2))=U (.int .i64 _):=q2.1;rw[e];exact⟨(Value.int.inj (ud4 q1')).2,(Value.int.inj (ud4 q2')).2⟩
 have key:=zq2 _ A1 _ c1 E (aO h).length G b off c o w (by omega) (λy=>⟨(hA y).1,g b (hA y).2⟩) hc (λk=>((bV h).getD k 0).toNat) (bV h).length (by omega) (λk a=>(m k a).2.1) (λW hW=>by have hx':=hvO.mono (λ_ h=>h) (λb f=>hW.block b (g b f));refine(Ox.2 W F (h,()) [_] (λb f=>ucb (g b f) hW.size) ⟨_,[],rfl,hx',rfl⟩ r).mono ?_;rintro e w' ⟨u,F',rfl,d,g1,g2,g3⟩;have g4:aK prog w' F' (λ_ _=>True) (eR aP (bV h)) u:=iH g3;obtain⟨K,H,rfl,g5⟩:=g4.2;obtain⟨A4,c4,e4,_,_,g6⟩:=Ps (w:=w') (F:=F') (l:=bV h) (v:=.slice K (bV h).length H) ⟨K,H,rfl,g5⟩;cases e4;by_cases y:0<(bV h).length;obtain⟨b3,D,rfl,Q,O⟩:=g6 y;exact⟨_,H,b3,D,rfl,d,λ_=>⟨rfl,(g2 b3 Q).2⟩,λk a=>by rw[(m k a).1];exact(O k _ (m k a).2.2).1⟩;exact⟨K,H,0,0,rfl,d,λh=>absurd h y,λk a=>absurd a (by omega)⟩)
 refine(callsIn_wide.1 key).mono ?_;rintro e w' ⟨he,d⟩;have C:e=.returned (.bool (PP h o)):=by
  have f:∀ k,k<(bV h).length->((c ((bV h).getD k 0).toNat).p 2==3 || (c ((bV h).getD k 0).toNat).p 2==4)=mX (cw h ((bV h).getD k 0)):=λk a=>by rw[(z k a).2];rfl
  unfold PP;rcases he with ⟨rfl,hno⟩|⟨k,a,T,n,rfl⟩
  rw[qdc _ λk a=>(f k a).symm.trans (hno k a)];rw[qdd ((f k a).symm.trans T) _ a λj L h2=>(f j h2).symm.trans (n j L h2)];show Ending.returned (.bool (J ((c ((bV h).getD k 0).toNat).p 1<=o)))=_;rw[(z k a).1]
 subst C;exact⟨_,F,rfl,d,λ_ h=>h,λb f=>⟨.inl f,ucb (g b f) d.size⟩,rfl,⟨λh=>(by cases h),λh=>(by obtain⟨_,h⟩:=h;cases h)⟩,rfl⟩
abbrev p7:Pt:=⟨73,0,⟨[(3,.d i64)],[.x 1 190 aU,.r 1 1 0]⟩,⟨[],[.x 1 190 aU,.r 1 1 0]⟩,⟨[(2,.d .bool)],[]⟩⟩
def J2(v:aU.q):List Int:=[v.2.1.1,v.2.1.2.1,v.2.1.2.2.1,v.2.1.2.2.2.1]
def f7(x:p7.M.X):Fr p7.Out:=
 let k:Int:=x.1.1;let v:aU.q:=x.2.1
 Jb (J (k<4))
  (Jd (0<=k/\k<((4:Nat):Int)) (Jd (J ((J2 v).getD k.toNat 0<0)=Y->0<=k/\k<((4:Nat):Int))
   (Jb (bif J ((J2 v).getD k.toNat 0<0)then Z else J ((J2 v).getD k.toNat 0>100000)) (Jv (Rd.back ((Y,()),()))) (Jv (Rd.next ((I6.wrap (k+1),()),(v,())))))))
  (Jv (Rd.out ((),(v,()))))
abbrev p9:Pt:=⟨85,0,⟨[(10,.d i64),(8,.d aP),(9,.d i64)],[.x 3 190 aU,.r 3 3 0]⟩,⟨[(9,.d i64)],[.x 3 190 aU,.r 3 3 0]⟩,⟨[(6,.d i64),(7,.d i64)],[]⟩⟩
def qia:Cx:=cx [(37,iE),(38,pw),(72,qU),(90,Ku)] []
def qib:CxOK prog qia:=aQ aH ⟨GP,RP,Xp,zq3,uT⟩ trivial
def F8(x:ap [.d aD,.d bh,.d i64]):Fr (aa [i64,i64]):=
 Jd (cj x.1) (Jd (bf (x.2.1.1,())) (Jb ((iE.f (x.1,(x.2.1.1,()),())).2.1 != 0) (Jv (0,(iE.f (x.1,(x.2.1.1,()),())).2.1,())) (Jb ((pw.f ((iE.f (x.1,(x.2.1.1,()),())).1,I6.wrap ((if 292194<x.2.2.1 then 292194 else x.2.2.1)+1),())).2.1 != 0) (Jv (0,(pw.f ((iE.f (x.1,(x.2.1.1,()),())).1,I6.wrap ((if 292194<x.2.2.1 then 292194 else x.2.2.1)+1),())).2.1,())) (Jd (cj x.1) (Jd (bf (x.2.1.1,())) (Jb ((qU.f (x.1,(x.2.1.1,()),())).2.1 != 0) (Jv (0,(qU.f (x.1,(x.2.1.1,()),())).2.1,())) (Jd (((aO x.1).length:Int)<=1000000) (Jb (Ku.f (x.1,x.2.2.1,())).1 (Jv (I6.wrap ((pw.f ((iE.f (x.1,(x.2.1.1,()),())).1,I6.wrap ((if 292194<x.2.2.1 then 292194 else x.2.2.1)+1),())).1+(qU.f (x.1,(x.2.1.1,()),())).1),0,())) (Jv ((pw.f ((iE.f (x.1,(x.2.1.1,()),())).1,I6.wrap ((if 292194<x.2.2.1 then 292194 else x.2.2.1)+1),())).1,0,()))))))))))
def qut:ag prog 50 ⟨[.d aD,.d bh,.d i64],[i64,i64],λxs=>(F8 xs).get,λxs=>[(F8 xs).ok]⟩:=
 cF qib (Λ:=bK) (fn:=f50) (aY [.d aD,.d bh,.d i64]) (by kernel_rfl) (λc E _=>bm c 0) (λx=>by kernel_rfl)
def EP:Ct:=⟨[.d aD,.d bh,.d i64],[i64,i64],λx=>(F8 x).get,λx=>[cj x.1,bf x.2.1]⟩
def qm6:ag prog 50 EP:=cq qut _ (λx e a=>by
 have b:cj x.1:=a.1;have c:bf x.2.1:=a.2;have d:((aO x.1).length:Int)<=1000000:=by have:=b.1;omega
 exact⟨b,c,λ_=>uT,λ_=>⟨λ_=>uT,λ_=>⟨b,c,λ_=>uT,λ_=>⟨d,λ_=>uT,λ_=>uT⟩⟩⟩⟩)
def kW(d:bQ.q)(e:Int):dX.q:=
 let g:=λ(k:Int)=>(yi d).getD (Int.toNat k) 0
 let W:=I6.wrap
 (0,W (W (g 1-g 2)+g 3),W (g 0-g 1),W (e-g 0),W (0-e),W (g 2-g 3),W (0-g 4),g 4,g 5,W (0-g 5),())
def Lr(f:ae.q)(d:bQ.q)(e i:Int):Fr (aa [aW]):=
 cT (InK 9 0 9) (zhe (kW d e,f.1,i,aW.j) []) (qym (kW d e,f.1,i,aW.j) []) (λs=>Jv ((f.1,i,s,()),()))
def zuv(t:Fr α):List Int->Fr α
 |[]=>t
 |k::l=>Jd (0<=k/\k<6) (zuv t l)
def qd7{Q:α->Prop}{t:Fr α}(h:t.s7 Q):(l:List Int)->(∀ k∈l,0<=k/\k<6)->(zuv t l).s7 Q
 |[],_=>h
 |k::l,a=>⟨a k ucc,qd7 h l λx b=>a x (ubj _ b)⟩
def tY(x:ap [.d ae,.d bQ,.d i64]):Fr (aa [aW]):=
 zuv (Jb (x.1.2.1==6) (Lr x.1 x.2.1 x.2.2.1 x.1.2.2.2.2.2.2.2.2.2.1.1) (Lr x.1 x.2.1 x.2.2.1 x.1.2.2.1)) [1,2,3,0,1,0,2,3,4,4,5,5]
def quu:ag prog 20 (bg [.d ae,.d bQ,.d i64] [aW] tY):=
 cZ aL zee (fn:=f20)
def UD(y:aa [aW]):Prop:=List.length (α:=bD.q) y.1.2.2.1<=9
def Um(f:ae.q)(d:bQ.q)(e i:Int):(Lr f d e i).s7 UD:=
 ii (A:=λ(s:List bD.q)=>s.length<=9) ⟨rfl,by decide,by decide,by decide⟩
  (dK (step:=nz (kW d e,f.1,i,aW.j) True) (λj (s:List bD.q)=>s.length<=j) (Lrp 9 ()) (λj e s b a=>by have c:=Yv b;have g:=fI;refine⟨qd5 c,λ_=>⟨?_,?_⟩,λ_=>uc3 a⟩;show s.length+1<=maxLen/\(s.length+1)*16<=140737488355328;omega;show(s++[_]).length<=j+1;rw[ub6];exact udk a) [] (ufb _)) (λ_ a=>a)
def Ur(x:ap [.d ae,.d bQ,.d i64]):(tY x).s7 UD:=qd7 (t:=Jb _ _ _) ⟨λ_=>Um _ _ _ _,λ_=>Um _ _ _ _⟩ _ (by decide)
def ER:Ct:=⟨[.d ae,.d bQ,.d i64],[aW],λx=>(tY x).get,λ_=>[]⟩
def qm7:ag prog 20 ER:=cq quu _ (λx _ _=>(dt (Ur x)).1)
def qry(x:ap [.d ae,.d bQ,.d i64]):List.length (α:=bD.q) (ER.f x).1.2.2.1<=9:=(dt (Ur x)).2
def TB:List (FuncId×Ct):=[(50,EP)]
def qic:Cx:=dI TB [] (iJ prog (cx [] []) Jp)
def QT:CxOK prog qic:=dP (cs:=TB) aH ⟨qm6,uT⟩ trivial (jt mM (nD (by kernel_rfl) sP))
abbrev C8:Pt:=⟨38,0,⟨[(14,.d i64),(13,.d i64),(12,.d (.sl bn)),(1,.d i64)],[.x 2 32 ak,.r 2 2 0,.x 6 145 cO,.r 6 6 0]⟩,⟨[],[.x 6 145 cO,.r 6 6 0]⟩,⟨[(4,.d i64),(5,.d i64)],[]⟩⟩
abbrev Nz:Type:=Int×List bn.q×Int×ak.q
def Fm(k:Nz)(e:bn.q):aa [i64,i64]:=EP.f (e.1,k.2.2.2.1,k.2.2.1,())
def vN(k:Nz)(b:Prop)(_i:Int)(e:bn.q)(s:cO.q):Fr (cO.q ⊕ C8.R.X):=
 Jd b (Jd (cj e.1) (Jd (bf k.2.2.2.1) (Jb ((Fm k e).2.1 != 0) (Jv (.inr ((0,(Fm k e).2.1,()),())))
  (nE (λa=>Jv (.inl a)) (qL 0 (Fm k e).1 s)))))
def qjc:C8.M.X->Fr C8.Out:=FK (λx=>(x.1.1,(x.1.2.1,x.1.2.2.1,x.1.2.2.2.1,x.2.1),x.2.2.1)) (λk=>k.1) (λk=>k.2.1) vN (λ_ s=>((),s,())) (λ_ y=>Rd.back y) cO.j (aY _,cf _)
def zed:af prog (.loop (au f19 0)) C8.M C8 qjc:=
 lG QT (λi k s=>((i,k.1,k.2.1,k.2.2.1,()),k.2.2.2,s,())) bn.j
def uz(b:ak.q)(a:Int):Nz:=((List.length (α:=bn.q) b.2.1:Int),b.2.1,a,b)
def LR(x:ap [.d ak,.d i64]):Fr (aa [i64,i64]):=
 iS (InK (List.length (α:=bn.q) x.1.2.1:Int) 0 (List.length (α:=bn.q) x.1.2.1)) (eI (vN (uz x.1 x.2.1) True) 0 x.1.2.1 cO.j) (bC (vN (uz x.1 x.2.1) True) 0 x.1.2.1 cO.j) cO.j (aY _,cf _)
  (λs=>Jb s.2.1 (Jv (0,5,())) (Jd ((0:Int)<=0/\0<(6:Int)) (Jv ((yi s.1).getD (Int.toNat 0) 0,0,())))) (λy=>Jv y.1)
def qum:ag prog 19 (bg [.d ak,.d i64] [i64,i64] LR):=
 cZ QT zed (fn:=f19)
def qro(b:ak.q)(a:Int)(c:bi b):eI (vN (uz b a) True) 0 b.2.1 cO.j:=
 (o5 (step:=vN (uz b a) True) (λ_ _=>True) (λ_=>True) b.2.1 (λi e s d _=>⟨uT,c.2.2.2 e (ubg d),c.1,λ_=>uT,λ_=>sR (Fr.satP_mono (λf _=>uT) (tg (by decide)))⟩) cO.j trivial).1
def EM:Ct:=⟨[.d ak,.d i64],[i64,i64],λx=>(LR x).get,λx=>[bi x.1]⟩
def ST:ag prog 19 EM:=cq qum _ (λx _ a=>sS (eU (uep a.2.1 (by decide))) (qro x.1 x.2.1 a) (λs=>⟨λ_=>uT,λ_=>⟨by decide,uT⟩⟩) (λ_=>uT))
def TC:List (FuncId×Ct):=[(17,A7),(18,tx),(16,AM),(19,EM),(20,ER),(21,ir bD),(22,Ky),(23,K2)]
def QU:Cx:=cx TC []
def DP:CxOK prog QU:=aQ (cs:=TC) aH ⟨Yo,Lj,K0,ST,qm7,qk5,qm5,qnd,uT⟩ trivial
abbrev JA:List (Nat×PT):=[(28,.d i64),(27,.d i64),(26,.d (.sl ae)),(1,.d i64),(8,.d i64)]
abbrev Sz:List MI:=[.x 4 37 bq,.r 4 4 0,.x 6 37 bq,.r 6 6 0,.x 7 83 bQ,.r 7 7 0,.x 9 32 ak,.r 9 9 0]
abbrev S0:List MI:=Sz++[.x 11 75 ae,.r 11 11 0,.x 14 83 bQ,.r 14 14 0,.x 19 83 bQ,.r 19 19 0]
abbrev yX:Pt:=⟨110,2,⟨(72,.d i64)::JA++[(16,.d i64)],S0⟩,⟨JA++[(16,.d i64)],S0⟩,⟨[],[]⟩⟩
abbrev xX:Type:=(Int×Int×List ae.q×Int×Int×Int)×bq.q×bq.q×bQ.q×ak.q×ae.q×bQ.q
def Ig(k:xX)(_b:Prop)(i:Int)(_e:Unit)(d:bQ.q):Fr bQ.q:=
 let a:=Int.toNat i;Jd (0<=i/\i<(6:Int)) (Jd (0<=i/\i<(6:Int)) (Jd (0<=i/\i<(6:Int)) (Jv (qa9 d i (I6.wrap ((yi k.2.2.2.2.2.2).getD a 0-(yi k.2.2.2.1).getD a 0))))))
def R8:yX.M.X->Fr yX.Out:=FG (λx=>(x.1.1,((x.1.2.1,x.1.2.2.1,x.1.2.2.2.1,x.1.2.2.2.2.1,x.1.2.2.2.2.2.1,x.1.2.2.2.2.2.2.1),x.2.1,x.2.2.1,x.2.2.2.1,x.2.2.2.2.1,x.2.2.2.2.2.1,x.2.2.2.2.2.2.1),x.2.2.2.2.2.2.2.1)) (λ_=>6) (λ_=>Lrp 6 ()) Ig
 (λ(k:xX) d=>((k.1.1,k.1.2.1,k.1.2.2.1,k.1.2.2.2.1,k.1.2.2.2.2.1,k.1.2.2.2.2.2,()),(k.2.1,k.2.2.1,k.2.2.2.1,k.2.2.2.2.1,k.2.2.2.2.2.1,k.2.2.2.2.2.2,d,())))
def WN:Code:=((Go.Ab.loopB (au f6 0) 0).getD .skip)
def zfi:af prog (.loop WN) yX.M yX R8:=
 cX DP (λi (k:xX) d=>((i,k.1.1,k.1.2.1,k.1.2.2.1,k.1.2.2.2.1,k.1.2.2.2.2.1,k.1.2.2.2.2.2,()),(k.2.1,k.2.2.1,k.2.2.2.1,k.2.2.2.2.1,k.2.2.2.2.2.1,k.2.2.2.2.2.2,d,()))) ()
def zs4(a:Gm):St->Option Tr:=yX.han a yX.M R8
abbrev ka:Pt:=⟨110,0,⟨JA,Sz⟩,⟨[],[.x 4 37 bq,.r 4 4 0,.x 6 37 bq,.r 6 6 0]⟩,⟨[(5,.d i64)],[.x 4 37 bq,.r 4 4 0]⟩⟩
abbrev pZ:Type:=Int×List ae.q×Int×bq.q
abbrev cr:Type:=bq.q×bQ.q×Int×ak.q
def ec(a:ak.q)(f:ae.q):aa [ak,i64]:=tx.f (a,f,())
def cW(a:ak.q):aa [bQ,i64]:=AM.f (a,())
def mO(a:ak.q)(d:Int):aa [i64,i64]:=EM.f (a,d,())
def eQ(f:ae.q)(d:bQ.q)(m:Int):aW.q:=(ER.f (f,d,m,())).1
def mu(b:bq.q)(x:aW.q):aa [bq,i64]:=K2.f (b,x,())
def Sv(x:aW.q):Bool:=((ir bD).f (x.2.2.1,λy=>Ky.f y,())).1
def rQ(e:Int):cr ⊕ ka.R.X:=.inr ((e,()),bq.j,())
def u9(k:pZ)(i:Int)(f:ae.q)(s:cr)(a:ak.q)(m b:Int):xX:=((i,k.1,k.2.1,k.2.2.1,b,m),k.2.2.2,s.1,s.2.1,a,f,(cW a).1)
def zhb(k:xX):Prop:=bY (Ig k True) 0 (Lrp 6 ()) bQ.j
def BM(k:xX):bQ.q:=bw (Ig k True) 0 (Lrp 6 ()) bQ.j
def nq(k:pZ)(i:Int)(f:ae.q)(s:cr)(a:ak.q)(m b:Int):Fr (cr ⊕ ka.R.X):=
 cT (InK 6 0 6) (zhb (u9 k i f s a m b)) (BM (u9 k i f s a m b)) (λd=>
  Jb ((List.length (α:=bD.q) (eQ f d m).2.2.1:Int)==0) (Jv (.inl (s.1,(cW a).1,b,a)))
   (Jd (∀ y:aa [bD],gN [bD] y->az ([]:List Prop)) (Jb (Sv (eQ f d m)) (Jv (rQ 5))
    (Jd (List.length (α:=bD.q) (eQ f d m).2.2.1<=1000000) (Jb ((mu s.1 (eQ f d m)).2.1 != 0) (Jv (rQ (mu s.1 (eQ f d m)).2.1))
     (Jv (.inl ((mu s.1 (eQ f d m)).1,(cW a).1,b,a))))))))
def oU(k:pZ)(b:Prop)(i:Int)(f:ae.q)(s:cr):Fr (cr ⊕ ka.R.X):=
 let a:=ec s.2.2.2 f;let c:=mO a.1 f.2.2.2.2.1;Jd b (Jb (J (f.1>k.2.2.1)) (Jv (.inl s)) (Jd (bi s.2.2.2) (Jb (a.2.1 != 0) (Jv (.inl s))
  (Jd (bi a.1) (Jd (dC (aJ a.1)) (Jb ((cW a.1).2.1 != 0) (Jv (rQ (cW a.1).2.1))
   (Jb (f.2.1==7)
    (Jd (bi a.1) (Jb (c.2.1 != 0) (Jv (rQ c.2.1))
     (nq k i f s a.1 (I6.wrap (c.1-s.2.2.1)) c.1)))
    (nq k i f s a.1 0 s.2.2.1))))))))
def qja:ka.M.X->Fr ka.Out:=FK (λx=>(x.1.1,((x.1.2.1,x.1.2.2.1,x.1.2.2.2.1,x.2.1):pZ),((x.2.2.1,x.2.2.2.1,x.1.2.2.2.2.1,x.2.2.2.2.1):cr))) (λk=>k.1) (λk=>k.2.1) oU (λk s=>((),k.2.2.2,s.1,())) (λ_ y=>Rd.back y) (bq.j,bQ.j,0,ak.j) (aY _,cf _)
def zd6:af prog (.loop (au f6 0)) ka.M ka qja:=
 lG DP (λi k s=>((i,k.1,k.2.1,k.2.2.1,s.2.2.1,()),(k.2.2.2,s.1,s.2.1,s.2.2.2,()))) ae.j (Λ:=λ_=>zs4 QU.Γ) (hΛ:=λ_=>nc (by kernel_rfl) (b:=WN) (by kernel_rfl) (af.han DP rfl zfi))
def uy(j:jourT.q)(a:Int):pZ:=((List.length (α:=ae.q) j.2.1:Int),j.2.1,a,bq.j)
def fK(j:jourT.q):cr:=(bq.j,bQ.j,0,(A7.f (j.1,())).1)
def F6(x:ap [.d jourT,.d i64]):Fr (aa [bq,i64]):=
 iS (InK (List.length (α:=ae.q) x.1.2.1:Int) 0 (List.length (α:=ae.q) x.1.2.1)) (eI (oU (uy x.1 x.2.1) True) 0 x.1.2.1 (fK x.1)) (bC (oU (uy x.1 x.2.1) True) 0 x.1.2.1 (fK x.1)) (bq.j,bQ.j,0,ak.j) (aY _,cf _)
  (λs=>Jv (s.1,0,())) (λy=>Jv (y.2.1,y.1.1,()))
def qur:ag prog 6 (bg [.d jourT,.d i64] [bq,i64] F6):=
 cZ DP zd6 (fn:=f6)
def Qe{e:Unit}(h:(Lrp 6 ())[i]?= U e):0<=(i:Int)/\(i:Int)<6:=by have:=(uak.1 h).1;rw[ubc]at this;omega
def ZY(k:pZ)(i:Int)(j:Nat)(f:ae.q)(s:cr)(c:ak.q)(m b:Int)(h:ix c):(nq k i f s c m b).s7 (iV ((λ_ (s:cr)=>ix s.2.2.2) j) (λ_=>True)):=
 ii (A:=λ_=>True) ⟨rfl,by decide,by decide,by decide⟩ ⟨(dK (step:=Ig (u9 k i f s c m b) True) (λ_ _=>True) (Lrp 6 ()) (λj e s a _=>⟨Qe a,Qe a,Qe a,uT⟩) bQ.j trivial).1,uT⟩
  (λd _=>⟨λ_=>h,λ_=>⟨λ_ _=>uT,λ_=>uT,λ_=>⟨uep (qry _) (by decide),λ_=>uT,λ_=>h⟩⟩⟩)
def zcm(j:jourT.q)(a:Int)(e:bf j.1):eI (oU (uy j a) True) 0 j.2.1 (fK j):=
 (o5 (step:=oU (uy j a) True) (λ_ (s:cr)=>ix s.2.2.2) (λ_=>True) j.2.1 (λi f s g c=>by
  refine⟨uT,λ_=>c,λ_=>⟨c.1,λ_=>c,λd=>?_⟩⟩;have d:(dq s.2.2.2 f).2=0:=by have h:((dq s.2.2.2 f).2 != 0)=false:=d;simpa using h
  have b:ix (ec s.2.2.2 f).1:=L7 f c d;exact⟨b.1,Bg b,λ_=>uT,λ_=>⟨λ_=>⟨b.1,λ_=>uT,λ_=>ZY _ _ (i+1) _ _ _ _ _ b⟩,λ_=>ZY _ _ (i+1) _ _ _ _ _ b⟩⟩) (fK j) (Fv e)).1
def xb:Ct:=⟨[.d jourT,.d i64],[bq,i64],λx=>(F6 x).get,λx=>[bf x.1.1]⟩
def Kz:ag prog 6 xb:=cq qur _ (λx b a=>sS (jd b.1.2.1.1) (zcm x.1 x.2.1 a) (λ_=>uT) (λ_=>uT))
abbrev yo:dF.q:=((0,0,()),(0,0,0,0,()),[],())
abbrev uL:ay.q:=(0,0,0,(0,0,0,0,()),[],0,())
abbrev ym:dx.q:=(0,0,0,0,0,0,())
abbrev Ci:ba.q:=(0,0,0,())
abbrev yp:ah.q:=(0,0,(0,0,()),0,0,0,0,0,())
def Ut(l:List T)(a:Int->T->Unit->Fr (Unit ⊕ ((Bool×Unit)×Unit)))(K:Fr (aa [.bool])):Fr (aa [.bool]):=
 Jd (InK (l.length:Int) 0 l.length) (Jd (eI a 0 l ()) (Jb (dV (bC a 0 l ())) K (Jv ((e9 ((Y,()),()) (bC a 0 l ())).1.1,()))))
def Ls{a:Int->T->Unit->Fr (Unit ⊕ ρ)}{b:List T}{d:T}(h:∀ i e,0<=i/\i<(b.length:Int)->b.getD i.toNat d=e->(a i e ()).ok/\(a i e ()).get=.inl ()):(l p:List T)->(i:Int)->i=(p.length:Int)->b=p++l->eI a i l ()/\bC a i l ()=.inl ()
 |[],_,_,_,_=>⟨uT,rfl⟩
 |e::l,p,i,m,c=>by
  have n:b.length=p.length+(e::l).length:=by rw[c,ub6]
  rw[uc9]at n;have k:b.getD (Int.toNat i) d=e:=by rw[c,m,uc0,uah,uae (ufb _),Nat.sub_self];rfl
  have f:=Ls h l (p++[e]) (i+1) (by rw[ub6,ua7];omega) (by rw[c,ucr];rfl);have g:=h i e (by omega) k;unfold eI bC;rw[g.2];exact⟨⟨g.1,f.1⟩,f.2⟩
def tV{a:Int->T->Unit->Fr (Unit ⊕ ((Bool×Unit)×Unit))}{l:List T}{d:T}{K:Fr (aa [.bool])}(f:(l.length:Int)<=9223372036854775807)(h:∀ i e,0<=i/\i<(l.length:Int)->l.getD i.toNat d=e->(a i e ()).ok/\(a i e ()).get=.inl ())(c:K.ok/\K.get=(Z,())):(Ut l a K).ok/\(Ut l a K).get=(Z,()):=by have b:=Ls h l [] 0 rfl rfl;refine aw ⟨rfl,ufc _,ub4 _,f⟩ (aw b.1 ?_);rw[b.2];exact aV rfl c
def j7(day:Int)(f:ae.q)(s:cr):cr ⊕ ka.R.X:=(oU (0,[],day,bq.j) True 0 f s).get
def zor(k:pZ)(i:Int)(f:ae.q)(s:cr):(oU k True i f s).get=j7 k.2.2.1 f s:=rfl
def eD(day:Int):List ae.q->cr->cr ⊕ ka.R.X
 |[],s=>.inl s
 |f::l,s=>match j7 day f s with
  |.inl a=>eD day l a
  |.inr y=>.inr y
def VG(k:pZ):(l:List ae.q)->(i:Int)->(s:cr)->bC (oU k True) i l s=eD k.2.2.1 l s
 |[],_,_=>rfl
 |f::l,i,s=>by
  unfold bC eD;rw[zor];cases j7 k.2.2.1 f s with
  |inl s'=>exact VG k l _ s'
  |inr y=>rfl
def VK(day:Int)(m:List ae.q):(l:List ae.q)->(s:cr)->eD day (l++m) s=match eD day l s with
  |.inl a=>eD day m a
  |.inr y=>.inr y
 |[],_=>rfl
 |f::l,s=>by
  simp only[uc4,eD];cases j7 day f s with
  |inl a=>exact VK day m l a
  |inr y=>rfl
def GS:cr ⊕ ka.R.X->aa [bq,i64]
 |.inl s=>(s.1,0,())
 |.inr y=>(y.2.1,y.1.1,())
def i5(j:jourT.q)(day:Int):aa [bq,i64]:=xb.f (j,day,())
def uB(j:jourT.q)(day:Int):i5 j day=GS (eD day j.2.1 (fK j)):=by show(F6 (j,day,())).get=_;unfold F6;rw[show eD day j.2.1 (fK j)=bC (oU (uy j day) True) 0 j.2.1 (fK j) from (VG (uy j day) j.2.1 0 (fK j)).symm];dsimp only;cases bC (oU (uy j day) True) 0 j.2.1 (fK j)<;>rfl
def gP(Q:α->Prop):Fr α->Prop
 |.val x=>Q x
 |.br b x y=>(b=Z->gP Q x)/\(b=Y->gP Q y)
 |.need _ x=>gP Q x
def dS{Q:α->Prop}:{f:Fr α}->gP Q f->Q f.get
 |.val _,h=>h
 |.br b x y,h=>by show Q (if b=Z then x.get else y.get);cases b;exact dS (f:=y) (h.2 rfl);exact dS (f:=x) (h.1 rfl)
 |.need _ x,h=>dS (f:=x) h
def jx{n:Int}(h:(n != 0)=Z):n≠0:=by simpa using h
def gW{n:Int}(h:(n != 0)=Y):n=0:=by simpa using h
def O8{b:bq.q}{x:aW.q}(h:(mu b x).2.1=0):(mu b x).1=(b.1++[x],()):=by
 have a:gP (λy=>y.2.1=0->y.1=(b.1++[x],())) (tZ (b,x,())):=by refine⟨λ_ (h:(1:Int)=0)=>absurd h (by decide),λ_=>⟨λ_ (h:(13:Int)=0)=>absurd h (by decide),λ_=>⟨λ_ (h:(2:Int)=0)=>absurd h (by decide),λ_=>⟨λ_ (h:(4:Int)=0)=>absurd h (by decide),λ_ _=>?_⟩⟩⟩⟩;show(List.take ((List.length (α:=aW.q) b.1:Int)-0).toNat (List.drop 0 b.1)++[x],())=_;rw[ueg,ua3 (by omega)]
 exact dS a h
def Bc(f:ae.q)(d:bQ.q)(m:Int):(eQ f d m).1=f.1:=by have a:gP (λy=>y.1.1=f.1) (tY (f,d,m,())):=⟨λ_=>rfl,λ_=>rfl⟩;exact dS a
def CL(f:ae.q)(s:cr):Fr (cr ⊕ ka.R.X):=
 Jd (bi s.2.2.2) (Jb ((ec s.2.2.2 f).2.1 != 0) (Jv (.inl s))
  (Jd (bi (ec s.2.2.2 f).1) (Jd (dC (aJ (ec s.2.2.2 f).1)) (Jb ((cW (ec s.2.2.2 f).1).2.1 != 0) (Jv (rQ (cW (ec s.2.2.2 f).1).2.1))
   (Jb (f.2.1==7)
    (Jd (bi (ec s.2.2.2 f).1) (Jb ((mO (ec s.2.2.2 f).1 f.2.2.2.2.1).2.1 != 0) (Jv (rQ (mO (ec s.2.2.2 f).1 f.2.2.2.2.1).2.1))
     (nq (0,[],0,bq.j) 0 f s (ec s.2.2.2 f).1 (I6.wrap ((mO (ec s.2.2.2 f).1 f.2.2.2.2.1).1-s.2.2.1)) (mO (ec s.2.2.2 f).1 f.2.2.2.2.1).1)))
    (nq (0,[],0,bq.j) 0 f s (ec s.2.2.2 f).1 0 s.2.2.1))))))
def HP(a:Int)(f:ae.q)(s:cr):j7 a f s=if J (f.1>a)=Z then .inl s else (CL f s).get:=rfl
def zzd{f:ae.q}(s:cr)(h:¬ f.1>day):j7 day f s=(CL f s).get:=by rw[HP,ufx (by simpa using h)]
def BK{step:Int->T->σ->Fr σ}{g:σ->T->σ}(h:∀ i e s,(step i e s).get=g s e):(l:List T)->(i:Int)->(s:σ)->bw step i l s=l.foldl g s
 |[],_,_=>rfl
 |e::l,i,s=>by show bw step (i+1) l (step i e s).get=l.foldl g (g s e);rw[h];exact BK h l _ _
def uE(a:Int)(s:Int)(x:bD.q):Int:=if (x.1==a)=Z then I6.wrap (s+x.2.1)else s
def xp(a d:Int)(s:Int)(e:aW.q):Int:=if (!(J (e.1<=d)))=Z then s else (bN e).foldl (uE a) s
def kY(l:List aW.q)(a d:Int):Int:=l.foldl (xp a d) 0
def qlw(b:bq.q)(a d:Int):(xd.f (b,a,d,())).1=kY b.1 a d:=by show bw (Dg (BT ((b.1,()),a,λx=>xc.f (x.1,d,()),())) True) 0 b.1 0=_;refine BK (λi e s=>?_) _ _ _;show(if (!(J (e.1<=d)))=Z then s else bw (HT (N2 (BT ((b.1,()),a,λx=>xc.f (x.1,d,()),())) i e) True) 0 (bN e) s)=xp a d s e;rw[BK (g:=uE a) (λ_ _ _=>rfl)];rfl
def qd2(n:Int):I6.wrap n%(18446744073709551616:Int)=n%(18446744073709551616:Int):=by rw[udf];omega
def cI(a:Int):List bD.q->Int
 |[]=>0
 |x::l=>(if (x.1==a)=Z then x.2.1 else 0)+cI a l
def XC(b:Int):(l:List bD.q)->(s:Int)->(l.foldl (uE b) s)%(18446744073709551616:Int)=(s+cI b l)%(18446744073709551616:Int)
 |[],s=>by show s%(18446744073709551616:Int)=(s+0)%(18446744073709551616:Int);rw[ue6]
 |x::l,s=>by show(l.foldl (uE b) (uE b s x))%(18446744073709551616:Int)=(s+((if (x.1==b)=Z then x.2.1 else 0)+cI b l))%(18446744073709551616:Int);rw[XC b l];unfold uE;split;have:=qd2 (s+x.2.1);generalize I6.wrap (s+x.2.1)=w at *;generalize cI b l=z at *;change (w+z)%(18446744073709551616:Int)=(s+((x.2.1:Int)+z))%(18446744073709551616:Int);generalize (x.2.1:Int)=a at *;omega;rw[Int.zero_add]
def gj(a d:Int):List aW.q->Int
 |[]=>0
 |e::l=>(if (!(J (e.1<=d)))=Z then 0 else cI a (bN e))+gj a d l
def Ue(a d:Int):(l:List aW.q)->(s:Int)->(l.foldl (xp a d) s)%(18446744073709551616:Int)=(s+gj a d l)%(18446744073709551616:Int)
 |[],s=>by show s%(18446744073709551616:Int)=(s+0)%(18446744073709551616:Int);rw[ue6]
 |e::l,s=>by show(l.foldl (xp a d) (xp a d s e))%(18446744073709551616:Int)=(s+((if (!(J (e.1<=d)))=Z then 0 else cI a (bN e))+gj a d l))%(18446744073709551616:Int);rw[Ue a d l];unfold xp;split;rw[Int.zero_add];have:=XC a (bN e) s;generalize (bN e).foldl (uE a) s=w at *;generalize cI a (bN e)=y at *;generalize gj a d l=z at *;omega
def qlx(l:List aW.q)(a d:Int):kY l a d%(18446744073709551616:Int)=gj a d l%(18446744073709551616:Int):=by
 have:=Ue a d l 0
 rwa [Int.zero_add]at this
def pV(e:aW.q):Prop:=(pz.f (e,())).2.1=Z/\(pz.f (e,())).1=0
def bU(b:bq.q):List aW.q:=b.1
structure goodB (day:Int) (l:List aW.q):Prop where
 good:∀ e∈l,pV e/\e.1<=day
 sort:l.Pairwise (λa b=>a.1<=b.1)
def zj1{b:bq.q}{x:aW.q}(h:(mu b x).2.1=0):pV x/\∀ (e:0<(bU b).length),((bU b)[(bU b).length-1]'(by omega)).1<=x.1:=by
 have c:gP (λy=>y.2.1=0->pV x/\∀ (e:0<(bU b).length),((bU b)[(bU b).length-1]'(by omega)).1<=x.1) (tZ (b,x,())):=by
  refine⟨λ_ (h:(1:Int)=0)=>absurd h (by decide),λf=>⟨λ_ (h:(13:Int)=0)=>absurd h (by decide),λg=>⟨λ_ (h:(2:Int)=0)=>absurd h (by decide),λd=>⟨λ_ (h:(4:Int)=0)=>absurd h (by decide),λa _=>⟨⟨by simpa using f,gW g⟩,λe=>?_⟩⟩⟩⟩⟩;have d:¬ ((bU b).length:Int)>=2000:=uch d;have a:(bif J (((bU b).length:Int)>0)then J (x.1<((bU b).getD (I6.wrap (((bU b).length:Int)-1)).toNat aW.j).1)else Y)=false:=a;have i:I6.wrap (((bU b).length:Int)-1)=(((bU b).length-1:Nat):Int):=by rw[IntWalk.i64_in _ (by omega)];omega
  rw[ueb (by omega:((bU b).length:Int)>0),i,uc0,uah,uaq (by omega)]at a;exact ufm.1 (uch a)
 exact dS c h
def qyw{b:bq.q}{x:aW.q}(d:goodB day (bU b))(h:(mu b x).2.1=0)(o:x.1<=day):goodB day (bU b++[x]):=by obtain⟨k,l⟩:=zj1 h;refine⟨λe f=>(udt.1 f).elim (d.good e) (λf=>by rw[ucf.1 f];exact⟨k,o⟩),ubp.2 ⟨d.sort,uay _ _,λa m c n=>?_⟩⟩;rw[ucf.1 n];obtain⟨i,p,rfl⟩:=List.getElem_of_mem m;have g:=l (by omega);by_cases e:i=(bU b).length-1;subst e;exact g;exact ue5 (uan.1 d.sort i ((bU b).length-1) p (by omega) (by omega)) g
def Nb(a:Int):cr ⊕ ka.R.X->Prop
 |.inl s=>goodB a (bU s.1)
 |.inr y=>y.1.1≠0/\y.2.1=bq.j
def ZX{f:ae.q}{s:cr}(d:ak.q)(m b:Int)(a:goodB day (bU s.1))(c:f.1<=day):gP (Nb day) (nq (0,[],0,bq.j) 0 f s d m b):=
 ⟨λ_=>a,λ_=>⟨λ_=>⟨(by decide:(5:Int)≠0),rfl⟩,λ_=>⟨λh=>⟨jx h,rfl⟩,λh=>by show goodB day (bU (mu s.1 _).1);rw[O8 (gW h)];exact qyw a (gW h) (by rw[Bc];exact c)⟩⟩⟩
def ZO{f:ae.q}{s:cr}(a:goodB day (bU s.1))(b:f.1<=day):gP (Nb day) (CL f s):=
 ⟨λ_=>a,λ_=>⟨λh=>⟨jx h,rfl⟩,λ_=>⟨λ_=>⟨λh=>⟨jx h,rfl⟩,λ_=>ZX _ _ _ a b⟩,λ_=>ZX _ _ _ a b⟩⟩⟩
def BN(day:Int):(l:List ae.q)->(s:cr)->goodB day (bU s.1)->Nb day (eD day l s)
 |[],_,h=>h
 |f::l,s,h=>by unfold eD;rw[HP];split;rename_i c a;split at a;cases a;exact BN day l s h;rename_i b;have:=dS (ZO (f:=f) h (by have:=b;simp only[ucu]at this;exact ufm.1 this));rw[a]at this;exact BN day l c this;rename_i y a;split at a;cases a;rename_i b;have:=dS (ZO (f:=f) h (by have:=b;simp only[ucu]at this;exact ufm.1 this));rw[a]at this;exact this
def XD(a:Int):(l m:List bD.q)->cI a (l++m)=cI a l+cI a m
 |[],m=>by show cI a m=0+cI a m;rw[Int.zero_add]
 |x::l,m=>by show(if (x.1==a)=Z then x.2.1 else 0)+cI a (l++m)=((if (x.1==a)=Z then x.2.1 else 0)+cI a l)+cI a m;rw[XD a l m,Int.add_assoc]
def Uo(k:dX.q×Int×Int×aW.q)(a:Int):(n:Nat)->(i:Nat)->i+n<=9->(s:List bD.q) ->
  cI a (bw (nz k True) (i:Int) (Lrp n ()) s)=cI a s+(if (i:Int)+1<=a/\a<=((i+n:Nat):Int)then (gn k.1).getD a.toNat 0 else 0)
 |0,i,_,s=>by show cI a s=cI a s+_;rw[ufx (by omega),ue6]
 |n+1,i,m,s=>by
  have l:I6.wrap ((i:Int)+1)=((i+1:Nat):Int):=by rw[IntWalk.i64_in _ (by omega)];omega
  show cI a (bw (nz k True) ((i:Int)+1) (Lrp n ()) (nz k True (i:Int) () s).get)=_;have f:(nz k True (i:Int) () s).get=if ((gn k.1).getD (I6.wrap ((i:Int)+1)).toNat 0 != 0)=Z then s++[(I6.wrap ((i:Int)+1),(gn k.1).getD (I6.wrap ((i:Int)+1)).toNat 0,())]else s:=rfl
  rw[f,l,uc0,show(i:Int)+1=((i+1:Nat):Int) by omega,Uo k a n (i+1) (by omega)];have g:cI a (if ((gn k.1).getD (i+1) 0 != 0)=Z then s++[(((i+1:Nat):Int),(gn k.1).getD (i+1) 0,())]else s)=cI a s+(if a=((i+1:Nat):Int)then (gn k.1).getD (i+1) 0 else 0):=by
   split;rw[XD];show cI a s+((if ((((i+1:Nat):Int)==a))=Z then (gn k.1).getD (i+1) 0 else 0)+0)=_;rw[ue6];by_cases e:a=((i+1:Nat):Int);rw[ufw e,ufw (by simp[e])];rw[ufx e,ufx (by simp;omega)];rename_i h;have d:(gn k.1).getD (i+1) 0=0:=by simpa using h
   rw[d];split<;>rw[ue6]
  rw[g];by_cases e:a=((i+1:Nat):Int);have c:a.toNat=i+1:=by omega
  rw[ufw e,ufx (by omega),ufw (by omega),c,ue6];rw[ufx e,ue6];by_cases b:((i+1:Nat):Int)+1<=a/\a<=((i+1+n:Nat):Int);rw[ufw b,ufw (by omega)];rw[ufx b,ufx (by omega)]
def mP(f:ae.q)(d:bQ.q)(m a:Int)(h:1<=a/\a<=9):cI a (bN (eQ f d m))=(gn (kW d m)).getD a.toNat 0:=by
 have b:gP (λy=>cI a (bN y.1)=(gn (kW d m)).getD a.toNat 0) (tY (f,d,m,())):=by
  have c:∀ i:Int,cI a (bw (nz (kW d m,f.1,i,aW.j) True) ((0:Nat):Int) (Lrp 9 ()) [])=(gn (kW d m)).getD a.toNat 0:=λi=>by rw[Uo _ a 9 0 (by omega) [],ufw (by omega)];show 0+_=_;rw[Int.zero_add]
  exact⟨λ_=>c _,λ_=>c _⟩
 exact dS b
def qw(x:bQ.q)(b:Int):Int->Int:=λa=>if a=1 then x.2.1-x.2.2.1+x.2.2.2.1 else if a=2 then x.1-x.2.1 else if a=3 then b-x.1 else if a=4 then 0-b else if a=5 then x.2.2.1-x.2.2.2.1 else if a=6 then 0-x.2.2.2.2.1 else if a=7 then x.2.2.2.2.1 else if a=8 then x.2.2.2.2.2.1 else 0-x.2.2.2.2.2.1
def qyi(k:pZ)(i:Int)(f:ae.q)(s:cr)(a:ak.q)(m b:Int):BM (u9 k i f s a m b) =
  (I6.wrap ((cW a).1.1-s.2.1.1),I6.wrap ((cW a).1.2.1-s.2.1.2.1),I6.wrap ((cW a).1.2.2.1-s.2.1.2.2.1),I6.wrap ((cW a).1.2.2.2.1-s.2.1.2.2.2.1),I6.wrap ((cW a).1.2.2.2.2.1-s.2.1.2.2.2.2.1),I6.wrap ((cW a).1.2.2.2.2.2.1-s.2.1.2.2.2.2.2.1),()):=by kernel_rfl
abbrev qa:Int:=292194
def Uf(a d:Int):(l m:List aW.q)->gj a d (l++m)=gj a d l+gj a d m
 |[],m=>by show gj a d m=0+gj a d m;rw[Int.zero_add]
 |e::l,m=>by show(if (!(J (e.1<=d)))=Z then 0 else cI a (bN e))+gj a d (l++m)=((if (!(J (e.1<=d)))=Z then 0 else cI a (bN e))+gj a d l)+gj a d m;rw[Uf a d l m,Int.add_assoc]
def Yt{a:Int}(h:1<=a/\a<=9):a=1\/a=2\/a=3\/a=4\/a=5\/a=6\/a=7\/a=8\/a=9:=by omega
def ln(x w:bQ.q):bQ.q:=(I6.wrap (x.1-w.1),I6.wrap (x.2.1-w.2.1),I6.wrap (x.2.2.1-w.2.2.1),I6.wrap (x.2.2.2.1-w.2.2.2.1),I6.wrap (x.2.2.2.2.1-w.2.2.2.2.1),I6.wrap (x.2.2.2.2.2.1-w.2.2.2.2.2.1),())
def zqa(x w:bQ.q)(b c m:Int)(u:(b-c-m)%(18446744073709551616:Int)=0){a:Int}(h:1<=a/\a<=9):qw x b a%(18446744073709551616:Int)=(qw w c a+(gn (kW (ln x w) m)).getD a.toNat 0)%(18446744073709551616:Int):=by
 have t:∀ l n o p r s d e f g i k:Int,qw (l,n,o,p,r,s,()) b a%(18446744073709551616:Int)=(qw (d,e,f,g,i,k,()) c a+(gn (kW (ln (l,n,o,p,r,s,()) (d,e,f,g,i,k,())) m)).getD a.toNat 0)%(18446744073709551616:Int):=by
  intro l n o p r s d e f g i k;rcases Yt h with rfl|rfl|rfl|rfl|rfl|rfl|rfl|rfl|rfl
  show(n-o+p)%(18446744073709551616:Int)=(e-f+g+I6.wrap (I6.wrap (I6.wrap (n-e)-I6.wrap (o-f))+I6.wrap (p-g)))%_;simp only[udf];omega;show(l-n)%(18446744073709551616:Int)=(d-e+I6.wrap (I6.wrap (l-d)-I6.wrap (n-e)))%_;simp only[udf];omega;show(b-l)%(18446744073709551616:Int)=(c-d+I6.wrap (m-I6.wrap (l-d)))%_;simp only[udf];omega;show(0-b)%(18446744073709551616:Int)=(0-c+I6.wrap (0-m))%_;simp only[udf];omega;show(o-p)%(18446744073709551616:Int)=(f-g+I6.wrap (I6.wrap (o-f)-I6.wrap (p-g)))%_;simp only[udf];omega;show(0-r)%(18446744073709551616:Int)=(0-i+I6.wrap (0-I6.wrap (r-i)))%_;simp only[udf];omega;show r%(18446744073709551616:Int)=(i+I6.wrap (r-i))%_;simp only[udf];omega;show s%(18446744073709551616:Int)=(k+I6.wrap (s-k))%_;simp only[udf];omega;show(0-s)%(18446744073709551616:Int)=(0-k+I6.wrap (0-I6.wrap (s-k)))%_;simp only[udf];omega
 exact t _ _ _ _ _ _ _ _ _ _ _ _
structure stI (t:bh.q) (s:cr):Prop where
 sum:(s.1=bq.j/\s.2.1=bQ.j/\s.2.2.2=hZ t)\/((cW s.2.2.2).2.1=0/\s.2.1=(cW s.2.2.2).1)
 acc:∀ a,1<=a/\a<=9->gj a qa (bU s.1)%(18446744073709551616:Int)=qw s.2.1 s.2.2.1 a%(18446744073709551616:Int)
def Gh(t:bh.q):cr ⊕ ka.R.X->Prop
 |.inl s=>stI t s
 |.inr _=>True
def ZU{t:bh.q}{f:ae.q}{s:cr}(c:ak.q)(m b:Int)(l:stI t s)(r:f.1<=qa)(k:(cW c).2.1=0)(n:(b-s.2.2.1-m)%(18446744073709551616:Int)=0):gP (Gh t) (nq (0,[],0,bq.j) 0 f s c m b):=by
 have o:BM (u9 (0,[],0,bq.j) 0 f s c m b)=ln (cW c).1 s.2.1:=qyi _ _ _ _ _ _ _;show gP (Gh t) (Jb _ _ _);rw[o];have d:=λa (e:1<=a/\a<=9)=>zqa (cW c).1 s.2.1 b s.2.2.1 m n e;refine⟨λp=>⟨.inr ⟨k,rfl⟩,λa e=>?_⟩,λ_=>⟨λ_=>uT,λ_=>⟨λ_=>uT,λh=>⟨.inr ⟨k,rfl⟩,λa e=>?_⟩⟩⟩⟩;have w:bN (eQ f (ln (cW c).1 s.2.1) m)=[]:=by have:((List.length (α:=bD.q) (eQ f (ln (cW c).1 s.2.1) m).2.2.1:Int)==0)=true:=p;have g:(List.length (α:=bD.q) (eQ f (ln (cW c).1 s.2.1) m).2.2.1:Int)=0:=ufr this;exact uab (Int.ofNat_eq_zero.1 g)
 have i:=mP f (ln (cW c).1 s.2.1) m a e;rw[w]at i;have g:=d a e;rw[<- i]at g;show gj a qa (bU s.1)%_=qw (cW c).1 b a%_;rw[g,l.acc a e];show _=(qw s.2.1 s.2.2.1 a+0)%_;rw[ue6];show gj a qa (bU (mu s.1 _).1)%_=qw (cW c).1 b a%_;rw[O8 (gW h)];show gj a qa (bU s.1++[_])%_=_;rw[Uf,d a e];have i:=mP f (ln (cW c).1 s.2.1) m a e;have g:gj a qa [eQ f (ln (cW c).1 s.2.1) m]=(gn (kW (ln (cW c).1 s.2.1) m)).getD a.toNat 0:=by show(if (!(J ((eQ f (ln (cW c).1 s.2.1) m).1<=qa)))=Z then 0 else cI a (bN (eQ f (ln (cW c).1 s.2.1) m)))+0=_;rw[Bc,ueb r,ue6];exact i
 rw[g];have x:=l.acc a e;generalize gj a qa (bU s.1)=u at *;generalize qw s.2.1 s.2.2.1 a=v at *;generalize (gn (kW (ln (cW c).1 s.2.1) m)).getD a.toNat 0=y at *;omega
def qqh(q c:Int):(q-c-I6.wrap (q-c))%(18446744073709551616:Int)=0:=by rw[udf];omega
def qqg(c:Int):(c-c-0)%(18446744073709551616:Int)=0:=by omega
def zkn{t:bh.q}{f:ae.q}{s:cr}(b:stI t s):gP (Gh t) (CL f s):=by
 refine⟨λ_=>b,λg=>⟨λ_=>uT,λd=>?_⟩⟩;have a:(dq s.2.2.2 f).2=0:=gW g;have c:f.1<=qa:=by have h:=(Dp a).1;unfold jv at h;cases e:cG f;rw[e]at h;exact absurd (show(1:Int)=0 from h) (by decide);exact(ML e).2
 refine⟨λ_=>⟨λ_=>uT,λ_=>ZU _ _ _ b c (gW d) ?_⟩,λ_=>ZU _ _ _ b c (gW d) ?_⟩;exact qqh _ _;exact qqg _
def VI(t:bh.q)(day:Int):(l:List ae.q)->(s:cr)->stI t s->match eD day l s with
  |.inl c=>stI t c
  |.inr _=>True
 |[],_,h=>h
 |f::l,s,h=>by
  have a:Gh t (j7 day f s):=by rw[HP];split;exact h;exact dS (zkn h)
  unfold eD;cases b:j7 day f s with
  |inr y=>trivial
  |inl d=>rw[b]at a;exact VI t day l d a
def ZV(f:ae.q)(s:cr)(a:ak.q)(m b:Int):gP (λr=>match r with
  |.inl c=>c.2.2.2=a
  |.inr _=>True) (nq (0,[],0,bq.j) 0 f s a m b):=
 ⟨λ_=>rfl,λ_=>⟨λ_=>uT,λ_=>⟨λ_=>uT,λ_=>rfl⟩⟩⟩
def zko(f:ae.q)(s:cr):gP (λr=>match r with
  |.inl b=>b.2.2.2=l5 s.2.2.2 f
  |.inr _=>True) (CL f s):=by
 refine⟨λh=>?_,λh=>?_⟩;show s.2.2.2=l5 s.2.2.2 f;have h:((dq s.2.2.2 f).2 != 0)=true:=h;unfold l5;rw[show((dq s.2.2.2 f).2==0)=Y by simpa using h];rfl;have h:((dq s.2.2.2 f).2 != 0)=false:=h;have a:(ec s.2.2.2 f).1=l5 s.2.2.2 f:=by show(dq s.2.2.2 f).1=_;unfold l5;rw[show((dq s.2.2.2 f).2==0)=Z by simpa using h];rfl
 rw[<- a];exact⟨λ_=>uT,λ_=>⟨λ_=>⟨λ_=>uT,λ_=>ZV _ _ _ _ _⟩,λ_=>ZV _ _ _ _ _⟩⟩
def VJ(day:Int):(l:List ae.q)->(s:cr)->match eD day l s with
  |.inl s'=>s'.2.2.2=kF day l s.2.2.2
  |.inr _=>True
 |[],_=>rfl
 |f::l,s=>by
  have hp:(match j7 day f s with
    |.inl s'=>s'.2.2.2=lD day s.2.2.2 f
    |.inr _=>True):=by
   rw[HP];unfold lD;by_cases hl:f.1>day;rw[ufw (ueb hl),show decide (bF f>day)=true from ueb hl];rfl;rw[ufx (by simpa using hl),show decide (bF f>day)=false from udw hl];exact dS (zko f s)
  unfold eD;cases he:j7 day f s with
  |inr y=>trivial
  |inl s1=>
   rw[he]at hp;have ih:=VJ day l s1;rw[show kF day (f::l) s.2.2.2=kF day l (lD day s.2.2.2 f) from rfl,<- hp];exact ih
def zw6(l:List aW.q)(a d:Int): -9223372036854775808<=kY l a d/\kY l a d<=9223372036854775807:=by
 have f:∀ n:Int,-9223372036854775808<=I6.wrap n/\I6.wrap n<=9223372036854775807:=λn=>by rw[udf];omega
 have e:∀ (m:List bD.q) (s:Int),(-9223372036854775808<=s/\s<=9223372036854775807) -> -9223372036854775808<=m.foldl (uE a) s/\m.foldl (uE a) s<=9223372036854775807:=by
  intro m
  induction m with
  |nil=>intro s h;exact h
  |cons x m b=>intro s h;refine b _ ?_;unfold uE;split;exact f _;exact h
 have c:∀ (m:List aW.q) (s:Int),(-9223372036854775808<=s/\s<=9223372036854775807) -> -9223372036854775808<=m.foldl (xp a d) s/\m.foldl (xp a d) s<=9223372036854775807:=by
  intro m
  induction m with
  |nil=>intro s h;exact h
  |cons x m b=>intro s h;refine b _ ?_;unfold xp;split;exact h;exact e _ _ h
 exact c l 0 (by decide)
def zza{b:Int}(h:a%(18446744073709551616:Int)=b%(18446744073709551616:Int))(c : -9223372036854775808<=a/\a<=9223372036854775807):a=I6.wrap b:=by rw[udf];omega
def zn8(t:bh.q):cW (hZ t)=(bQ.j,0,()):=by kernel_rfl
def zok(j:jourT.q):stI j.1 (fK j):=⟨.inl ⟨rfl,rfl,rfl⟩,λa b=>by rcases Yt b with rfl|rfl|rfl|rfl|rfl|rfl|rfl|rfl|rfl<;>rfl⟩
def zop(j:jourT.q)(a:Int){s:cr}(h:eD a j.2.1 (fK j)=.inl s):stI j.1 s/\s.2.2.2=kF a j.2.1 (hZ j.1):=by have b:=VI j.1 a j.2.1 (fK j) (zok j);have c:=VJ a j.2.1 (fK j);rw[h]at b c;exact⟨b,c⟩
def zol{t:bh.q}{s:cr}(h:stI t s):(cW s.2.2.2).2.1=0/\s.2.1=(cW s.2.2.2).1:=by
 rcases h.sum with ⟨_,a,b⟩|h
 rw[b,zn8];exact⟨rfl,a⟩;exact h
def zwd{t:bh.q}{s:cr}(h:stI t s)(b:1<=a/\a<=9):kY (bU s.1) a qa=I6.wrap (qw (cW s.2.2.2).1 s.2.2.1 a):=by refine zza ?_ (zw6 _ _ _);rw[qlx,h.acc a b,(zol h).2]
def L6:(l:List ae.q) -> {s:ak.q}->ix s->ix (kF day l s)
 |[],_,h=>h
 |f::l,s,h=>by refine L6 l (s:=lD day s f) ?_;unfold lD;cases J (bF f>day);show ix (l5 s f);unfold l5;cases a:(dq s f).2==0;exact h;exact L7 f h (ufr a);exact h
def be(a day:Int):ae.q:=(a,7,0,0,day,yo,uL,ym,Ci,yp,())
def zug(s:ak.q)(b d:Int):gU s (be b d)=((gi s (be b d)).1,(gi s (be b d)).2):=rfl
def zxj{a s:ak.q}{b d:Int}(e:kg s<=kg a)(h:(dq a (be b d)).2=0):(dq s (be b d)).2=0:=by
 obtain⟨g,c,_⟩:=Dp h;obtain⟨l,m⟩:=NQ g;have k:jv s (be b d)=0:=by unfold jv;rw[l,udw (ufl.2 (Int.lt_of_le_of_lt e m))];rfl
 have i:(gU s (be b d)).2=0:=by rw[zug]at c |-;unfold gi at c |-;cases f:J (dA (be b d)<=kg a);rw[udw (ufl.2 (Int.lt_of_le_of_lt e (ufl.1 (uch f))))];rfl;rw[f]at c;exact absurd (show(12:Int)=0 from c) (by decide)
 unfold dq;rw[k,i];rfl
def grC(f:ae.q)(s:cr):cr ⊕ ka.R.X->Prop
 |.inl a=>(mO (ec s.2.2.2 f).1 f.2.2.2.2.1).2.1=0/\a.2.2.1=(mO (ec s.2.2.2 f).1 f.2.2.2.2.1).1/\a.2.2.2=(ec s.2.2.2 f).1
 |.inr y=>y.1.1≠0
def zy3{f:ae.q}{s:cr}(m:Int)(a:(mO (ec s.2.2.2 f).1 f.2.2.2.2.1).2.1=0):gP (grC f s) (nq (0,[],0,bq.j) 0 f s (ec s.2.2.2 f).1 m (mO (ec s.2.2.2 f).1 f.2.2.2.2.1).1):=
 ⟨λ_=>⟨a,rfl,rfl⟩,λ_=>⟨λ_=>(by decide:(5:Int)≠0),λ_=>⟨λh=>jx h,λ_=>⟨a,rfl,rfl⟩⟩⟩⟩
def zy0{f:ae.q}{s:cr}(b:f.2.1=7)(a:(dq s.2.2.2 f).2=0):gP (grC f s) (CL f s):=
 ⟨λh=>absurd a (jx h),λ_=>⟨λh=>jx h,λ_=>⟨λ_=>⟨λh=>jx h,λh=>zy3 _ (gW h)⟩,λh=>absurd (show(f.2.1==7)=Y from h) (by rw[b];decide)⟩⟩⟩
def zu4{l:List aW.q}(g:goodB day l)(d:day<=qa)(a:Int):kY l a day=kY l a qa:=by
 have b:∀ (m:List aW.q) (s:Int),(∀ e∈m,e.1<=day)->m.foldl (xp a day) s=m.foldl (xp a qa) s:=by
  intro m
  induction m with
  |nil=>intro s _;rfl
  |cons x m k=>
   intro s h;have c:=h x ucc;have e:xp a day s x=xp a qa s x:=by unfold xp;rw[ueb c,ueb (ue5 c d)]
   rw[List.foldl_cons,List.foldl_cons,e];exact k _ λy i=>h y (ubj _ i)
 exact b l 0 λe f=>(g.good e f).2
def zxp(j:jourT.q)(b d:Int)(C:(cN j (be b d)).2=0)(B:((List.length (α:=ae.q) j.2.1:Nat):Int)<=2000):
  (i5 (j.1,j.2.1++[be b d],()) b).2.1≠0\/((mO (kF b (j.2.1++[be b d]) (hZ j.1)) d).2.1=0/\(i5 (j.1,j.2.1++[be b d],()) b).2.1=0/\kY (bU (i5 (j.1,j.2.1++[be b d],()) b).1) 4 b=I6.wrap (0-(mO (kF b (j.2.1++[be b d]) (hZ j.1)) d).1)):=by
 obtain⟨D,_,v,_⟩:=CG C;rw[zg5 B]at v;have c:=(ML (ZB D).1).2;have c:b<=qa:=c;rw[uB];show(GS (eD b (j.2.1++[be b d]) (fK j))).2.1≠0\/(_/\(GS (eD b (j.2.1++[be b d]) (fK j))).2.1=0/\kY (bU (GS (eD b (j.2.1++[be b d]) (fK j))).1) 4 b=_);have o:=BN b j.2.1 (fK j) ⟨λe A=>(by cases A),List.Pairwise.nil⟩;have r:=VI j.1 b j.2.1 (fK j) (zok j);have i:=VJ b j.2.1 (fK j);rw[VK];cases t:eD b j.2.1 (fK j)with
 |inr y=>rw[t]at o;exact .inl o.1
 |inl g=>
  rw[t]at o r i;have i:g.2.2.2=kF b j.2.1 (hZ j.1):=i;have a:(dq g.2.2.2 (be b d)).2=0:=by rw[i];exact zxj (zvg c j.2.1 _ _ (ufc _)) v
  have l:¬ (be b d).1>b:=Int.lt_irrefl b;have n:=dS (zy0 (f:=be b d) (s:=g) rfl a);have h:=dS (zkn (f:=be b d) r);have k:=dS (ZO (day:=b) (f:=be b d) o (ufc b));have p:kF b (j.2.1++[be b d]) (hZ j.1)=(ec g.2.2.2 (be b d)).1:=by rw[zvz,<- i];unfold lD l5;rw[show J (bF (be b d)>b)=Y from udw l,a];rfl
  show(GS (match j7 b (be b d) g with
   |.inl m=>.inl m
   |.inr y=>.inr y)).2.1≠0\/(_/\(GS (match j7 b (be b d) g with
   |.inl m=>.inl m
   |.inr y=>.inr y)).2.1=0/\kY (bU (GS (match j7 b (be b d) g with
   |.inl m=>.inl m
   |.inr y=>.inr y)).1) 4 b=_)
  rw[zzd g l,p];cases u:(CL (be b d) g).get with
  |inr y=>rw[u]at n;exact .inl n
  |inl w=>rw[u]at n h k;obtain⟨x,z,E⟩:=n;refine .inr ⟨x,rfl,?_⟩;show kY (bU w.1) 4 b=_;rw[zu4 k c,zwd h (by decide)];show I6.wrap (0-w.2.2.1)=_;rw[z];rfl
def mT(a:ak.q):Int:=(cW a).2.1
def MN{Q:α->Prop}{q:Prop}{g:σ ⊕ ρ}{d:σ}{a:ρ}{k:σ->Fr α}{r:ρ->Fr α}(b:∀ s,g=.inl s->gP Q (k s))(c:∀ y,g=.inr y->gP Q (r y)):gP Q (iS p q g d a k r):=by
 cases g with
 |inl s=>exact⟨λ_=>b s rfl,λh=>(nomatch h)⟩
 |inr y=>exact⟨λh=>(nomatch h),λ_=>c y rfl⟩
def I0(a:Int)(l:List ay.q):List ay.q:=l.filter λx=>J (x.2.1<=a)
def qrj{h:aD.q}{t:bh.q}(b:(fT h t).2=0):(gm h t).2=0/\(c9 h t).2=0/\(eq (c9 h t).1 292195).2=0/\(fT h t).1=qrn (c9 h t).1 292195+(gm h t).1:=by
 unfold fT at *;split at b;rename_i a;rw[ufw a];split at b;rename_i c;rw[ufw c];have d:(c9 h t).2=0:=by unfold gm at a;split at a;rename_i d;exact d;exact a
 refine⟨a,d,c,?_⟩;have f:=(qdr c).2.2.2 292195;unfold Lm at *;split at b;cases b;rename_i e;rw[ufx e,f];rfl;rename_i c;exact absurd b c;rename_i a;exact absurd b a
def qrp{h:aD.q}{t:bh.q}(d:Int)(c:(fT h t).2=0):(EP.f (h,t,d,())).2.1=0:=by
 obtain⟨e,g,i,_⟩:=qrj c;obtain⟨_,_,_,k⟩:=qdr i;have b:gP (λy:aa [i64,i64]=>y.2.1=0) (F8 (h,t,d,())):=by refine⟨λa=>absurd g (jx a),λ_=>⟨λa=>absurd (ufu Prod.snd (k _)) (jx a),λ_=>⟨λa=>absurd e (jx a),λ_=>⟨λ_=>rfl,λ_=>rfl⟩⟩⟩⟩
 exact dS b
def zzg{h:aD.q}{t:bh.q}(m:(fT h t).2=0){d:Int}(c:h.2.2.1.1.2.1<=d)(g:d<=292195):(eq (c9 h t).1 d).1=(eq (c9 h t).1 292195).1:=by
 obtain⟨_,s,u,_⟩:=qrj m;obtain⟨k,_,_,a⟩:=qdr u;obtain⟨f,_,_,n⟩:=zg3 s;have l:=Wv f;have o:=qp2 f;rw[a,a];rw[n]at k |-;have p:∀ x,1<=x->x<=292194->eG (cB ((ez h).map (fW (zR h t).1))) x=if h.2.2.1.1.1<=x/\x<h.2.2.1.1.2.1 then ztq (zR h t).1 (qbq h x)else 0:=λx c g=>(zzh k c g).trans (zwc (zR h t).1 o x)
 have i:1<=d:=ue5 (ue5 l.a1 (ueu l.ab)) c;have e:Sd (cB ((ez h).map (fW (zR h t).1))) 292195=Sd (cB ((ez h).map (fW (zR h t).1))) d:=by rw[zw3 (cB ((ez h).map (fW (zR h t).1))) i g (ufc 292195),Ll (v:=0) _ d (λx b r=>?_),Int.mul_zero,ue6];rw[p x (ue5 i b) (by omega),ufx (λf=>absurd f.2 (ufm.2 (ue5 c b)))]
 rw[e]
def zyf{h:aD.q}{t:bh.q}(g:(fT h t).2=0){d:Int}(f:h.2.2.1.1.2.1<=d+1)(b:PP h d=Y):(gm h t).1=0:=by
 obtain⟨_,e,_,_⟩:=qrj g;obtain⟨i,_,_,_⟩:=zg3 e;have m:=Wv i;unfold gm;rw[ufw e];cases c:pb h with
 |none=>rfl
 |some a=>exfalso;obtain⟨n,_⟩:=zq0 c;have l:cw h a∈aO h:=eT n;have k:=(m.chs _ l).2.2;unfold PP at b;rw[show j8 h (bV h) (bV h).length=U a from c]at b;have b:¬ (cw h a).2.1<=d:=uch b;exact b (by have:=Int.lt_of_lt_of_le k f;exact Int.lt_add_one_iff.1 this)
def zxo{h:aD.q}{t:bh.q}(b:(fT h t).2=0){d:Int}(g:h.2.2.1.1.2.1<=d+1)(v:1<=d)(n:d<=292194):(EP.f (h,t,d,())).1=(fT h t).1:=by
 obtain⟨r,s,u,c⟩:=qrj b;obtain⟨_,_,_,m⟩:=qdr u;have l:I6.wrap ((if 292194<d then 292194 else d)+1)=d+1:=by rw[ufx (ufm.2 n),IntWalk.i64_in _ (by omega)]
 have k:(eq (c9 h t).1 (d+1)).1=(eq (c9 h t).1 292195).1:=zzg b g (by omega);have w:=zuh h t;have i:(eq (c9 h t).1 292195).1=qrn (c9 h t).1 292195:=by rw[m];rfl
 have o : -9223372036854775808<=qrn (c9 h t).1 292195+(gm h t).1/\qrn (c9 h t).1 292195+(gm h t).1<=9223372036854775807:=by rw[<- c];omega
 have e:gP (λy:aa [i64,i64]=>y.1=(fT h t).1) (F8 (h,t,d,())):=by refine⟨λa=>absurd s (jx a),λ_=>⟨λa=>absurd (ufu Prod.snd (m _)) (jx a),λ_=>⟨λa=>absurd r (jx a),λ_=>⟨λ_=>?_,λp=>?_⟩⟩⟩⟩;show I6.wrap ((eq (c9 h t).1 (I6.wrap ((if 292194<d then 292194 else d)+1))).1+(gm h t).1)=_;rw[l,k,i,IntWalk.i64_in _ o,c];show(eq (c9 h t).1 (I6.wrap ((if 292194<d then 292194 else d)+1))).1=_;rw[l,k,i,c,zyf b g p,ue6]
 exact dS e
def TR{k:α->Fr β}:{f:Fr α}->(nE k f).get=(k f.get).get
 |.val _=>rfl
 |.br b x y=>by show(if b=Z then (nE k x).get else (nE k y).get)=(k (if b=Z then x.get else y.get)).get;cases b;exact TR (f:=y);exact TR (f:=x)
 |.need _ x=>TR (f:=x)
def qi(w m:Int)(s:cO.q):cO.q:=(qL w m s).get
def ztn(w m:Int)(s:cO.q):qi w m s=if (!Oy s w m)=Z then (qa9 s.1 w (I6.wrap ((yi s.1).getD (Int.toNat w) 0+m)),Oy s w m,())else (s.1,Oy s w m,()):=rfl
def zto(w m:Int)(s:cO.q):(qi w m s).2.1=Oy s w m:=by rw[ztn];split<;>rfl
def zuo{w m:Int}{s:cO.q}(h:(qi w m s).2.1=Y):s.2.1=false:=by rw[zto]at h;unfold Oy at h;cases a:s.2.1;rfl;rw[a]at h;cases h
def zw4{w m:Int}(s:cO.q)(a:(w==0)=Y):(qi w m s).1.1=s.1.1:=by rw[ztn];split;show(bif w==0 then _ else s.1.1)=s.1.1;rw[a];rfl;rfl
def sh(a b:cO.q):Prop:=b.2.1=Y->a.2.1=Y/\a.1.1=b.1.1
def zyz{a b:cO.q}(m:Int)(h:sh a b):sh (qi 0 m a) (qi 0 m b):=λc=>by
 obtain⟨f,d⟩:=h (zuo c);rw[zto]at c;have e:Oy a 0 m=Oy b 0 m:=by unfold Oy;rw[f,zuo (w:=0) (m:=m) (by rw[zto];exact c)];show J (m>I6.wrap (4000000000000000000-a.1.1))=J (m>I6.wrap (4000000000000000000-b.1.1));rw[d]
 rw[zto,e];refine⟨c,?_⟩;rw[ztn,ztn,e,c];show I6.wrap (a.1.1+m)=I6.wrap (b.1.1+m);rw[d]
def ztm{a b:cO.q}{w:Int}(m:Int)(f:(w==0)=Y)(h:sh a b):sh a (qi w m b):=λe=>by obtain⟨c,d⟩:=h (zuo e);exact⟨c,by rw[zw4 b f];exact d⟩
def zty{step:Int->T->σ->Fr σ}(I:σ->Prop)(h:∀ i e s,I s->I (step i e s).get):(l:List T)->(i:Int)->(s:σ)->I s->I (bw step i l s)
 |[],_,_,a=>a
 |e::l,i,s,a=>zty I h l (i+1) _ (h i e s a)
def ztw(t:bh.q)(l:List bn.q)(s:cO.q):cO.q:=l.foldl (λs e=>qi 0 (fT e.1 t).1 s) s
def ztv(t:bh.q)(l:List bn.q)(s:cO.q):cO.q:=l.foldl (λs e=>qi 1 e.2.1 (qi 0 (fT e.1 t).1 s)) s
def zv9(t:bh.q):(l:List bn.q)->(a b:cO.q)->sh a b->sh (ztw t l a) (ztv t l b)
 |[],_,_,h=>h
 |e::l,a,b,h=>zv9 t l _ _ (ztm e.2.1 rfl (zyz (fT e.1 t).1 h))
def zvm{z:ak.q}{d:Int}:(l:List bn.q)->(∀ e∈l,(Fm (uz z d) e).2.1=0/\(Fm (uz z d) e).1=(fT e.1 z.1).1)->(i:Int)->(s:cO.q)->bC (vN (uz z d) True) i l s=.inl (ztw z.1 l s)
 |[],_,_,_=>rfl
 |e::l,h,i,s=>by
  obtain⟨a,b⟩:=h e ucc;have c:(vN (uz z d) True i e s).get=.inl (qi 0 (fT e.1 z.1).1 s):=by show(if ((Fm (uz z d) e).2.1 != 0)=Z then _ else (nE (λg=>Jv (Sum.inl (β:=C8.R.X) g)) (qL 0 (Fm (uz z d) e).1 s)).get)=_;rw[a,ufx (by decide),TR,b];rfl
  unfold bC;rw[c];exact zvm l (λx f=>h x (ubj _ f)) (i+1) _
def zwe{z:ak.q}:(l:List bn.q)->(∀ e∈l,(fT e.1 z.1).2=0)->(i:Int)->(s:cO.q)->bC (qu (rF z) True) i l s=.inl (ztv z.1 l s)
 |[],_,_,_=>rfl
 |e::l,h,i,s=>by
  have a:(qu (rF z) True i e s).get=.inl (qi 1 e.2.1 (qi 0 (fT e.1 z.1).1 s)):=by show(if ((fT e.1 z.1).2 != 0)=Z then _ else (nE (λc=>nE (λd=>Jv (Sum.inl (β:=C9.R.X) d)) (qL 1 e.2.1 c)) (qL 0 (fT e.1 z.1).1 s)).get)=_;rw[h e ucc,ufx (by decide),TR,TR];rfl
  unfold bC;rw[a];exact zwe l (λx b=>h x (ubj _ b)) (i+1) _
def zxt{z:ak.q}{d:Int}(p:RI z)(v:1<=d)(w:d<=292194)(x:∀ a∈bW z,a.1.2.2.1.1.2.1<=d+1)(A:(cW z).2.1=0):(mO z d).2.1=0/\(mO z d).1=(cW z).1.1:=by
 have o:=zvm (z:=z) (d:=d) z.2.1 (λe k=>⟨qrp d (p.due e k),zxo (p.due e k) (x e k) v w⟩) 0 cO.j;have u:=zwe (z:=z) z.2.1 (λe k=>p.due e k) 0 cO.j;have m:sh (ztw z.1 z.2.1 cO.j) (ztv z.1 z.2.1 cO.j):=zv9 z.1 z.2.1 _ _ (λ_=>⟨rfl,rfl⟩);generalize ztw z.1 z.2.1 cO.j=a at o m;have t:gP (λy:aa [bQ,i64]=>y.2.1=0->a.2.1=Y/\a.1.1=y.1.1) (F7 (z,())):=by
  refine MN (Q:=λy:aa [bQ,i64]=>y.2.1=0->a.2.1=Y/\a.1.1=y.1.1) (λg f=>?_) (λy r=>?_);have n:g=ztv z.1 z.2.1 cO.j:=Sum.inl.inj (f.symm.trans u);have F:sh a (bw (Dv (G6 z) True) 0 (e8 z).1 g):=zty (sh a) (λi e s h=>by show sh a (nE (λH=>nE (λK=>qL 4 e.2.2.2.2.1 K) (qL 3 e.2.2.2.1 H)) (qL 2 e.2.2.1 s)).get;rw[TR,TR];exact ztm _ rfl (ztm _ rfl (ztm _ rfl h))) _ 0 g (n ▸ m)
  have G:sh a (bw (Dw (G7 z) True) 0 (lE z).1 (bw (Dv (G6 z) True) 0 (e8 z).1 g)):=zty (step:=Dw (G7 z) True) (sh a) (λi e s h=>zty (step:=Dx (Xj (G7 z) i e) True) (sh a) (λ_ c s h=>ztm c.2.1 rfl h) e 0 s h) _ 0 _ F;exact⟨λb h=>absurd h (jx b),λ_=>⟨λb h=>absurd h (jx b),λ_=>⟨λ_ h=>absurd (show(5:Int)=0 from h) (by decide),λb _=>G b⟩⟩⟩;cases r.symm.trans u
 obtain⟨B,C⟩:=dS t A;have l:gP (λy:aa [i64,i64]=>y.2.1=0/\y.1=a.1.1) (LR (z,d,())):=by refine MN (Q:=λy:aa [i64,i64]=>y.2.1=0/\y.1=a.1.1) (λg f=>?_) (λy r=>?_);have n:g=a:=Sum.inl.inj (f.symm.trans o);subst n;exact⟨λb=>absurd (show g.2.1=Z from b) (by rw[B];decide),λ_=>⟨rfl,rfl⟩⟩;cases r.symm.trans o
 obtain⟨D,E⟩:=dS l;exact⟨D,E.trans C⟩
def zcl{j:jourT.q}(h:(i5 j day).2.1=0):mT (kF day j.2.1 (hZ j.1))=0:=by
 rw[uB]at h;cases a:eD day j.2.1 (fK j)with
 |inl s=>obtain⟨c,d⟩:=zop j day a;rw[<- d];exact(zol c).1
 |inr y=>have b:=BN day j.2.1 (fK j) ⟨λe f=>(by cases f),List.Pairwise.nil⟩;rw[a]at h b;exact absurd h b.1
def mx(c n:Int):Int:=U6.wrap (U6.wrap (Bvo U6.bits c ^^^ Bvo U6.bits (U6.wrap n)).toNat*1099511628211)
structure jI (n:Nat) (k:jourT.q):Prop where
 few:bf k.1
 len:List.length (α:=ae.q) k.2.1<=n
 ord:List.Pairwise (λf g:ae.q=>f.1<=g.1) k.2.1
 right:∀ f:ae.q,f∈(k.2.1:List ae.q)->cG f=true
 ff:∀ f∈k.2.1,fo f
def zbp{l:List ae.q}{f:ae.q}(d:l.Pairwise (λf g=>f.1<=g.1))(h:rJ l f=Y):∀ g∈l,g.1<=f.1:=λg a=>by
 unfold rJ at h;cases b:l.getLast? with
 |none=>rw[List.getLast?_eq_none_iff.1 b]at a;cases a
 |some z=>
  rw[b]at h;have c:z.1<=f.1:=ufm.1 (uch h);obtain⟨e,rfl⟩:=List.getLast?_eq_some_iff.1 b;rcases udt.1 a with a|a
  exact ue5 ((ubp.1 d).2.2 g a z (ucf.2 rfl)) c;rw[ucf.1 a];exact c
def zas{k:jourT.q}{f:ae.q}(h:jI n k)(l:fo f)(e:(cN k f).2=0):jI (n+1) (cN k f).1:=by
 obtain⟨m,_,_,o⟩:=CG e;obtain⟨p,_,r,_⟩:=ZB m;rw[o];refine⟨h.few,?_,ubp.2 ⟨h.ord,uay _ _,λa d c i=>?_⟩,λg b=>?_,λg b=>?_⟩;show(k.2.1++[f]).length<=n+1;rw[ub6];exact udk h.len;rw[ucf.1 i];exact zbp h.ord r a d;rcases udt.1 b with b|b
 exact h.right g b;rw[ucf.1 b];exact p;rcases udt.1 b with b|b
 exact h.ff g b;rw[ucf.1 b];exact l
def zvf:(l:List ae.q)->(∀ f∈l,cG f=Z)->(d:Int)->(s:ak.q)->d<=kg s->l.foldl AU d<=kg (kF 292194 l s)
 |[],_,_,_,h=>h
 |f::l,b,d,s,h=>by have c:=b f ucc;refine zvf l (λg e=>b g (ubj _ e)) (AU d f) (lD 292194 s f) ?_;rw[ztc (ML c).2];have a:=ue5 h (ztl s f);unfold AU;cases i:aM f==7;exact a;show(if d<dA f then dA f else d)<=_;split;exact zv7 c (ufr i);exact a
def zxb{b d:Int}(a:1<=b/\b<=292194)(c:1<=d/\d<=b):cG (be b d)=true:=by have e:wE (se (be b d))=true:=rfl;have f:pp (be b d)=(J (d>=1)&&J (d<=b)):=rfl;unfold cG;rw[e,f];show((J (1<=(7:Int))&&J ((7:Int)<=7))&&((J (1<=b)&&J (b<=292194))&&(Z&&(J (d>=1)&&J (d<=b)))))=Z;rw[ueb a.1,ueb a.2,ueb (show d>=1 from c.1),ueb c.2];rfl
def zvn{k:jourT.q}(n:jI 30 k){e:Int}(o:1<=e)(s:e<=292194)(w:∀ f:ae.q,f∈(k.2.1:List ae.q)->f.1<=e)(m:kg (kF 292194 k.2.1 (hZ k.1))<e):(cN k (be e e)).2=0:=by
 have l:((List.length (α:=ae.q) k.2.1:Nat):Int)<=2000:=by have:=n.len;omega
 have c:¬ ((List.length (α:=ae.q) k.2.1:Nat):Int)>=2000:=by have:=n.len;omega
 have r:=zxb (b:=e) (d:=e) ⟨o,s⟩ ⟨o,ufc e⟩;have i:KK k.2.1<e:=Int.lt_of_le_of_lt (zvf k.2.1 n.right 0 (hZ k.1) (ufc 0)) m;have a:rJ k.2.1 (be e e)=false:=by
  unfold rJ;cases u:List.getLast? (α:=ae.q) k.2.1 with
  |none=>rfl
  |some g=>exact udw (ufm.2 (w g (List.mem_of_getLast? u)))
 have h:HH k.2.1 (be e e)=false:=by unfold HH;rw[show J (bF (be e e)<=KK k.2.1)=Y from udw (ufl.2 i),show J (dA (be e e)<=KK k.2.1)=Y from udw (ufl.2 i)];rfl
 have v:(j5 k (be e e)).2=0:=by unfold j5;rw[r,a,h,udw c];rfl
 have p:=zg5 (b:=292194) l;have y:(dq (dW k 292194).1 (be e e)).2=0:=by
  rw[p];have x:jv (kF 292194 k.2.1 (hZ k.1)) (be e e)=0:=by unfold jv;rw[r,show J (bF (be e e)<=kg (kF 292194 k.2.1 (hZ k.1)))=Y from udw (ufl.2 m)];rfl
  have t:(gU (kF 292194 k.2.1 (hZ k.1)) (be e e)).2=0:=by rw[zug];unfold gi;rw[show J (dA (be e e)<=kg (kF 292194 k.2.1 (hZ k.1)))=Y from udw (ufl.2 m)];rfl
  unfold dq;rw[x,t];rfl
 unfold cN;rw[v,y,p];rfl
def zze{b:Int}{f:ae.q}(s:ak.q)(c:f.1<=a)(d:f.1<=b):lD a s f=lD b s f:=by rw[ztc c,ztc d]
def zv0{b:Int}:(l:List ae.q)->(∀ f∈l,f.1<=a/\f.1<=b)->(s:ak.q)->kF a l s=kF b l s
 |[],_,_=>rfl
 |f::l,h,s=>by show kF a l (lD a s f)=kF b l (lD b s f);rw[zze s (h f ucc).1 (h f ucc).2];exact zv0 l (λg c=>h g (ubj _ c)) _
def zxr{k:jourT.q}(t:jI 30 k){e:Int}(z:1<=e)(p:e<=292194)(B:∀ f:ae.q,f∈(k.2.1:List ae.q)->f.1<=e)(F:kg (kF 292194 k.2.1 (hZ k.1))<e)(D:∀ a∈bW (kF 292194 k.2.1 (hZ k.1)),a.1.2.2.1.1.2.1<=e+1):
  (i5 (k.1,k.2.1++[be e e],()) e).2.1≠0\/((i5 (k.1,k.2.1++[be e e],()) e).2.1=0/\(cW (kF e (k.2.1++[be e e]) (hZ k.1))).2.1=0/\kY (bU (i5 (k.1,k.2.1++[be e e],()) e).1) 3 e=0 /\
   kY (bU (i5 (k.1,k.2.1++[be e e],()) e).1) 4 e=I6.wrap (0-(cW (kF e (k.2.1++[be e e]) (hZ k.1))).1.1)):=by
 have G:=zvn t z p B F;rcases zxp k e e G (by have:=t.len;omega)with h|⟨L,o,c⟩
 exact .inl h;refine .inr ⟨o,?_⟩;have m:(cW (kF e (k.2.1++[be e e]) (hZ k.1))).2.1=0:=zcl (j:=(k.1,k.2.1++[be e e],())) o;have v:kF e (k.2.1++[be e e]) (hZ k.1)=l5 (kF 292194 k.2.1 (hZ k.1)) (be e e):=by rw[zvz,ztc (ufc e),zv0 (a:=e) (b:=292194) k.2.1 (λf A=>⟨B f A,(ML (t.right f A)).2⟩)]
 have g:bW (kF e (k.2.1++[be e e]) (hZ k.1))=bW (kF 292194 k.2.1 (hZ k.1)):=by rw[v];unfold l5;cases H:(dq (kF 292194 k.2.1 (hZ k.1)) (be e e)).2==0;rfl;show bW (dq (kF 292194 k.2.1 (hZ k.1)) (be e e)).1=_;rw[(Dp (ufr H)).2.2,zug];unfold gi;cases J (dA (be e e)<=kg (kF 292194 k.2.1 (hZ k.1)))<;>rfl
 have u:RI (kF e (k.2.1++[be e e]) (hZ k.1)):=zur _ (zlh k.1);obtain⟨M,C⟩:=zxt (d:=e) u z p (by rw[g];exact D) m;refine⟨m,?_,by rw[c,C]⟩;have l:=uB (k.1,k.2.1++[be e e],()) e;cases i:eD e (k.2.1++[be e e]) (fK k)with
 |inr y=>have n:=BN e (k.2.1++[be e e]) (fK k) ⟨λe r=>(by cases r),List.Pairwise.nil⟩;rw[i]at n;rw[show i5 (k.1,k.2.1++[be e e],()) e=GS (eD e (k.2.1++[be e e]) (fK k)) from l,i]at o;exact absurd o n.1
 |inl s=>
  have n:=BN e (k.2.1++[be e e]) (fK k) ⟨λe r=>(by cases r),List.Pairwise.nil⟩;rw[i]at n;obtain⟨K,w⟩:=zop (k.1,k.2.1++[be e e],()) e i;have E:bU (i5 (k.1,k.2.1++[be e e],()) e).1=bU s.1:=by rw[show i5 (k.1,k.2.1++[be e e],()) e=GS (eD e (k.2.1++[be e e]) (fK k)) from l,i];rfl
  rw[E]at c |-;rw[zu4 n p]at c |-;rw[zwd K (by decide)]at c |-;have c:I6.wrap (0-s.2.2.1)=I6.wrap (0-(mO (kF e (k.2.1++[be e e]) (hZ k.1)) e).1):=c;show I6.wrap (s.2.2.1-(cW s.2.2.2).1.1)=0;have w:s.2.2.2=kF e (k.2.1++[be e e]) (hZ k.1):=w;rw[w];rw[C]at c;generalize (cW (kF e (k.2.1++[be e e]) (hZ k.1))).1.1=x at *;generalize s.2.2.1=b at *;exact wrap_same c
where
 wrap_same {b x:Int} (h:I6.wrap (0-b)=I6.wrap (0-x)):I6.wrap (b-x)=0:=by simp only[udf]at *;omega
def peA(s:jourT.q×Int)(f:ae.q):jourT.q×Int:=if ((cN s.1 f).2==0)=Z then ((cN s.1 f).1,f.1)else s
structure peI (n:Nat) (s:jourT.q×Int):Prop where
 j:jI n s.1
 le:∀ f:ae.q,f∈(s.1.2.1:List ae.q)->f.1<=s.2
 a:1<=s.2
 b:s.2<=292194
def zyt{s:jourT.q×Int}{f:ae.q}(i:fo f)(h:peI n s):peI (n+1) (peA s f):=by
 unfold peA;by_cases d:((cN s.1 f).2==0)=Z;rw[ufw d];have d:=ufr d;obtain⟨k,_,_,l⟩:=CG d;obtain⟨m,_,o,_⟩:=ZB k;have e:=ML m;refine⟨zas h.j i d,λg c=>?_,e.1,e.2⟩;rw[l]at c;have c:g∈(s.1.2.1++[f]:List ae.q):=c;rcases udt.1 c with c|c
 exact zbp h.j.ord o g c;rw[ucf.1 c];exact ufc _;rw[ufx d];exact⟨⟨h.j.few,uc3 h.j.len,h.j.ord,h.j.right,h.j.ff⟩,h.le,h.a,h.b⟩
def zv8:(l:List ae.q)->(∀ f∈l,fo f) -> {n:Nat} -> {s:jourT.q×Int}->peI n s->peI (n+l.length) (l.foldl peA s)
 |[],_,_,_,h=>h
 |f::l,a,n,_,h=>by have:=zv8 l (λg b=>a g (ubj _ b)) (zyt (a f ucc) h);rw[uc9,show n+(l.length+1)=n+1+l.length by omega];exact this
def zys{j:jourT.q}(h:jc j 30=Z):peI 30 (j.2.1.foldl peA ((j.1,[],()),1)):=by obtain⟨i,d,e⟩:=Bf h;have c:=zv8 (j.2.1:List ae.q) (λf g=>UB (e f g)) (n:=0) (s:=((j.1,[],()),1)) ⟨⟨i,ufb _,List.Pairwise.nil,λ_ h=>(nomatch h),λ_ h=>(nomatch h)⟩,λ_ h=>(nomatch h),(show(1:Int)<=1 by decide),(show(1:Int)<=292194 by decide)⟩;exact⟨⟨c.j.few,uep c.j.len (by have d:((List.length (α:=ae.q) j.2.1:Nat):Int)<=30:=d;omega),c.j.ord,c.j.right,c.j.ff⟩,c.le,c.a,c.b⟩
def zt3(e:ae.q)(s:jourT.q×Int):Fr (jourT.q×Int):=
 Jd True (Jd (fo e) (Jd (bf s.1.1) (Jb ((cN s.1 e).2==0) (Jd True (Jv ((cN s.1 e).1,e.1))) (Jv s))))
def zyr{j:jourT.q}(h:jc j 30=Z):bY (λ_=>zt3) 0 j.2.1 ((j.1,[],()),1)/\bw (λ_=>zt3) 0 j.2.1 ((j.1,[],()),1)=j.2.1.foldl peA ((j.1,[],()),1):=by obtain⟨f,_,d⟩:=Bf h;refine⟨(dK (step:=λ_=>zt3) (λ_ (s:jourT.q×Int)=>s.1.1=j.1) j.2.1 (λi e s c b=>?_) ((j.1,[],()),1) rfl).1,BK (step:=λ_=>zt3) (g:=peA) (λi e s=>?_) j.2.1 0 _⟩;refine⟨uT,UB (d e (ubg c)),by show bf s.1.1;rw[b];exact f,λa=>⟨uT,?_⟩,λ_=>b⟩;have a:((cN s.1 e).2==0)=true:=a;show(cN s.1 e).1.1=j.1;rw[(CG (ufr a)).2.2.2];exact b;rfl
def it(a b:Int):Int:=if a<b then b else a
def zt2(x:bn.q)(s:Int):Fr Int:=Jd True (Jv (it s (I6.wrap (x.1.2.2.1.1.2.1-1))))
def zv5(a b:Int):a<=it a b:=by unfold it;split<;>omega
def zv6(a b:Int):b<=it a b:=by unfold it;split<;>omega
def zxs(l:List bn.q)(d:Int):bY (λ_=>zt2) 0 l d/\bw (λ_=>zt2) 0 l d=l.foldl (λs x=>it s (I6.wrap (x.1.2.2.1.1.2.1-1))) d:=
 ⟨(dK (step:=λ_=>zt2) (λ_ _=>True) l (λi e s a b=>⟨uT,uT⟩) d trivial).1,BK (step:=λ_=>zt2) (g:=λs x=>it s (I6.wrap (x.1.2.2.1.1.2.1-1))) (λi e s=>rfl) l 0 _⟩
def zv4:(l:List bn.q)->(d:Int)->d<=l.foldl (λs x=>it s (I6.wrap (x.1.2.2.1.1.2.1-1))) d/\∀ x∈l,I6.wrap (x.1.2.2.1.1.2.1-1)<=l.foldl (λs x=>it s (I6.wrap (x.1.2.2.1.1.2.1-1))) d
 |[],d=>⟨ufc _,λ_ h=>(nomatch h)⟩
 |y::l,d=>by
  obtain⟨b,c⟩:=zv4 l (it d (I6.wrap (y.1.2.2.1.1.2.1-1)));refine⟨ue5 (zv5 _ _) b,λx a=>?_⟩;rcases uej.1 a with rfl|a
  exact ue5 (zv6 _ _) b;exact c x a
def zw5{z:ak.q}(d:RI z):∀ a∈bW z,1<=a.1.2.2.1.1.2.1/\a.1.2.2.1.1.2.1<=292195:=λa c=>by obtain⟨_,e,_,_⟩:=qrj (d.due a c);have b:=Wv (zg3 e).1;exact⟨ueu (Int.lt_of_le_of_lt b.a1 b.ab),b.b1⟩
def zvi:(l:List ae.q)->(s:ak.q)->kg s<=292194->kg (kF 292194 l s)<=292194
 |[],_,h=>h
 |f::l,s,h=>zvi l (lD 292194 s f) (by
  unfold lD;cases a:J (bF f>292194);show kg (l5 s f)<=292194;have a:=uch a;rcases zun s f with b|⟨_,c,_,d⟩
  rw[b];exact h;rw[c];omega;exact h)
def zzk{c e:Int}(a:0<=c)(b:c<=292194)(h:I6.wrap (c+1)<=e):c<e:=by rw[IntWalk.i64_in _ (by omega)]at h;omega
def zzj{t e:Int}(a:1<=t/\t<=292195)(h:I6.wrap (t-1)<=e):t<=e+1:=by rw[IntWalk.i64_in _ (by omega)]at h;omega
def Fp(s:jourT.q×Int):Int:=(bW (kF 292194 s.1.2.1 (hZ s.1.1))).foldl (λs x=>it s (I6.wrap (x.1.2.2.1.1.2.1-1))) (it s.2 (I6.wrap (kg (kF 292194 s.1.2.1 (hZ s.1.1))+1)))
def zxq{s:jourT.q×Int}(h:peI 30 s):1<=Fp s/\(∀ f:ae.q,f∈(s.1.2.1:List ae.q)->f.1<=Fp s)/\kg (kF 292194 s.1.2.1 (hZ s.1.1))<Fp s/\∀ a∈bW (kF 292194 s.1.2.1 (hZ s.1.1)),a.1.2.2.1.1.2.1<=Fp s+1:=by have e:RI (kF 292194 s.1.2.1 (hZ s.1.1)):=zur _ (zlh s.1.1);have k:=zvi s.1.2.1 (hZ s.1.1) (by show(0:Int)<=292194;decide);obtain⟨b,g⟩:=zv4 (bW (kF 292194 s.1.2.1 (hZ s.1.1))) (it s.2 (I6.wrap (kg (kF 292194 s.1.2.1 (hZ s.1.1))+1)));have c:s.2<=Fp s:=ue5 (zv5 _ _) b;have i:I6.wrap (kg (kF 292194 s.1.2.1 (hZ s.1.1))+1)<=Fp s:=ue5 (zv6 _ _) b;exact⟨ue5 h.a c,λf l=>ue5 (h.le f l) c,zzk e.clo k i,λa d=>zzj (zw5 e a d) (g a d)⟩
abbrev ri:Ty:=.pair i64 (.pair i64 (.pair i64 .unit))
abbrev ea:Ty:=.pair i64 (.pair i64 (.pair i64 .unit))
abbrev twT:Ty:=.pair i64 (.pair i64 (.pair i64 (.pair i64 (.pair i64 (.pair i64 (.pair i64 (.pair i64 (.pair i64 (.pair i64 (.pair i64 (.pair i64 .unit)))))))))))
def zwo:Cx:=cx [(239,pu)] []
def zwp:CxOK prog zwo:=aQ aH ⟨NT,uT⟩ trivial
def zvx(x:ap [.d aP,.d i64]):Fr (aa [i64]):=
 let c:=I6.wrap (0+1)+1;let b:=((List.length x.1):Int);let a:=I6.wrap c+1;let g:=I6.wrap a+1;Jb (J (0<b)) (Jd ((0:Int)<=0/\0<b) (Jb (x.2.1==List.getD x.1 (Int.toNat 0) i64.j) (Jv (0,())) (Jb (J (I6.wrap (0+1)<b)) (Jd (0<=I6.wrap (0+1)/\I6.wrap (0+1)<b) (Jb (x.2.1==List.getD x.1 (I6.wrap (0+1)).toNat i64.j) (Jv (I6.wrap (0+1),())) (Jb (J (I6.wrap c<b)) (Jd (0<=I6.wrap c/\I6.wrap c<b) (Jb (x.2.1==List.getD x.1 (I6.wrap c).toNat i64.j) (Jv (I6.wrap c,())) (Jb (J (I6.wrap a<b)) (Jd (0<=I6.wrap a/\I6.wrap a<b) (Jb (x.2.1==List.getD x.1 (I6.wrap a).toNat i64.j) (Jv (I6.wrap a,())) (Jb (J (I6.wrap g<b)) (Jd (0<=I6.wrap g/\I6.wrap g<b) (Jb (x.2.1==List.getD x.1 (I6.wrap g).toNat i64.j) (Jv (I6.wrap g,())) (Jd False (Jv (0,()))))) (Jv (-1,()))))) (Jv (-1,()))))) (Jv (-1,()))))) (Jv (-1,()))))) (Jv (-1,()))
def zx9:ag prog 147 ⟨[.d aP,.d i64],[i64],λxs=>(zvx xs).get,λxs=>[(zvx xs).ok]⟩:=
 cF aL (Λ:=(λ_=>SI prog eN 0 bK (au f147 0) 5)) (fn:=f147) (aY [.d aP,.d i64]) (by kernel_rfl) (λc E a=>fH a (by kernel_rfl) (b:=au f147 0) (by kernel_rfl) (zti aL (bm _ 0))) (λx=>by kernel_rfl)
def ztt(x:ap [.d i64]):Fr (aa [.bool]):=
 Jv (bif J (x.1>=1)then J (x.1<=292194)else Y,())
def zx4:ag prog 106 ⟨[.d i64],[.bool],λxs=>(ztt xs).get,λxs=>[(ztt xs).ok]⟩:=
 cF aL (Λ:=bK) (fn:=f106) (aY [.d i64]) (by kernel_rfl) (λc E _=>bm c 0) (λx=>by kernel_rfl)
def zuf:Ct:=⟨[.d i64],[.bool],λx=>(ztt x).get,λ_=>[]⟩
def zxa:ag prog 106 zuf:=cq zx4 _ (λx a _=>by unfold ztt;repeat' first|exact trivial|decide|intro _|refine⟨?_,?_⟩|decide)
def zts(x:ap [.d i64]):Fr (aa [i64]):=
 let a:=I6.wrap (x.1-1601);Jd ((4:Int)≠0) (Jd ((100:Int)≠0) (Jd ((400:Int)≠0) (Jv (I6.wrap (I6.wrap (I6.wrap (I6.wrap (I6.wrap (x.1-1601)*365)+I6.wrap (a.tdiv 4))-I6.wrap (a.tdiv 100))+I6.wrap (a.tdiv 400)),()))))
def zx3:ag prog 107 ⟨[.d i64],[i64],λxs=>(zts xs).get,λxs=>[(zts xs).ok]⟩:=
 cF aL (Λ:=bK) (fn:=f107) (aY [.d i64]) (by kernel_rfl) (λc E _=>bm c 0) (λx=>by kernel_rfl)
def CI:Ct:=⟨[.d i64],[i64],λx=>(zts x).get,λ_=>[]⟩
def zue:ag prog 107 CI:=cq zx3 _ (λx a _=>by unfold zts;repeat' first|exact trivial|decide|intro _|refine⟨?_,?_⟩|decide)
def ztr(x:ap [.d i64]):Fr (aa [.bool]):=
 Jd ((4:Int)≠0) (Jd ((Int.tmod x.1 4==0)=Z->(100:Int)≠0) (Jd ((Int.tmod x.1 100 != 0)=Y->(Int.tmod x.1 4==0)=Z->(400:Int)≠0) (Jv (bif Int.tmod x.1 4==0 then bif Int.tmod x.1 100 != 0 then Z else Int.tmod x.1 400==0 else Y,()))))
def zxy:ag prog 214 ⟨[.d i64],[.bool],λxs=>(ztr xs).get,λxs=>[(ztr xs).ok]⟩:=
 cF aL (Λ:=bK) (fn:=f214) (aY [.d i64]) (by kernel_rfl) (λc E _=>bm c 0) (λx=>by kernel_rfl)
def zud:Ct:=⟨[.d i64],[.bool],λx=>(ztr x).get,λ_=>[]⟩
def zw9:ag prog 214 zud:=cq zxy _ (λx a _=>by unfold ztr;repeat' first|exact trivial|decide|intro _|refine⟨?_,?_⟩|decide)
def zvv(x:ap [.d (.sl ea),.d (.sl ea)]):Fr (aa [.bool]):=
 let o:=(Y,());let n:=((List.length x.2.1):Int);let m:=List.getD x.1 (Int.toNat 0) ea.j;let l:=List.getD x.2.1 (Int.toNat 0) ea.j;let g:=List.getD x.1 (I6.wrap (0+1)).toNat ea.j;let c:=List.getD x.2.1 (I6.wrap (0+1)).toNat ea.j;let b:=((List.length x.1):Int);let a:=I6.wrap (0+1)+1;let k:=List.getD x.1 (I6.wrap a).toNat ea.j;let h:=List.getD x.2.1 (I6.wrap a).toNat ea.j;Jb (b != n) (Jv o) (Jb (J (0<b)) (Jd ((0:Int)<=0/\0<b) (Jd ((0:Int)<=0/\0<n) (Jb (!(m.1==l.1&&(m.2.1==l.2.1&&(m.2.2.1==l.2.2.1&&Z)))) (Jv o) (Jb (J (I6.wrap (0+1)<b)) (Jd (0<=I6.wrap (0+1)/\I6.wrap (0+1)<b) (Jd (0<=I6.wrap (0+1)/\I6.wrap (0+1)<n) (Jb (!(g.1==c.1&&(g.2.1==c.2.1&&(g.2.2.1==c.2.2.1&&Z)))) (Jv o) (Jb (J (I6.wrap a<b)) (Jd (0<=I6.wrap a/\I6.wrap a<b) (Jd (0<=I6.wrap a/\I6.wrap a<n) (Jb (!(k.1==h.1&&(k.2.1==h.2.1&&(k.2.2.1==h.2.2.1&&Z)))) (Jv o) (Jd False (Jv o))))) (Jv (Z,())))))) (Jv (Z,())))))) (Jv (Z,())))
def zx7:ag prog 41 ⟨[.d (.sl ea),.d (.sl ea)],[.bool],λxs=>(zvv xs).get,λxs=>[(zvv xs).ok]⟩:=
 cF aL (Λ:=(λ_=>SI prog eN 0 bK (au f41 0) 3)) (fn:=f41) (aY [.d (.sl ea),.d (.sl ea)]) (by kernel_rfl) (λc E a=>fH a (by kernel_rfl) (b:=au f41 0) (by kernel_rfl) (zti aL (bm _ 0))) (λx=>by kernel_rfl)
def zvp(x:ap [.d u64,.d u64]):Fr (aa [u64,u64]):=
 Jb Y (Jd False (Jv (0,0,()))) (Jv (pu.f x))
def zxx:ag prog 213 ⟨[.d u64,.d u64],[u64,u64],λxs=>(zvp xs).get,λxs=>[(zvp xs).ok]⟩:=
 cF zwp (Λ:=bK) (fn:=f213) (aY [.d u64,.d u64]) (by kernel_rfl) (λc E _=>bm c 0) (λx=>by kernel_rfl)
def zt9:Ct:=⟨[.d aP,.d i64],[i64],λ_=>(1,()),λx=>[x=([1,2,4,12],2,())]⟩
def zye:ag prog 147 zt9:=conv zx9 _ _ (λ_ _ x _ _ h=>by have h:x=([1,2,4,12],2,()):=h;subst h;exact aV rfl (aw (by decide) (aN rfl (aV rfl (aw (by decide) (aV rfl ⟨uT,rfl⟩))))))
def tI:List ea.q:=[(1,5000,0,()),(182,5000,0,())]
def zvb:Ct:=⟨[.d (.sl ea),.d (.sl ea)],[.bool],λ_=>(Z,()),λx=>[x=(tI,tI,())]⟩
def zy9:ag prog 41 zvb:=conv zx7 _ _ (λ_ _ x _ _ h=>by have h:x=(tI,tI,()):=h;subst h;exact aN rfl (aV rfl (aw (by decide) (aw (by decide) (aN rfl (aV rfl (aw (by decide) (aw (by decide) (aN rfl (aN rfl ⟨uT,rfl⟩))))))))))
def zw8:Ct:=⟨[.d u64,.d u64],[u64,u64],λx=>((pu.f (x.1,x.2.1,())).1,(pu.f (x.1,x.2.1,())).2.1,()),λ_=>[]⟩
def zyi:ag prog 213 zw8:=conv zxx _ _ (λ_ _ _ _ _ _=>aN rfl ⟨uT,rfl⟩)
def zuw:Cx:=cx [(106,zuf),(107,CI),(214,zud)] []
def zt7:CxOK prog zuw:=aQ aH ⟨zxa,zue,zw9,uT⟩ trivial
def zvt(x:ap [.d i64]):Fr (aa [i64,i64]):=
 let a:=1601+I6.wrap ((I6.wrap (x.1-1)).tdiv 365);let b:=I6.wrap a-1;let c:=I6.wrap b-1;Jb (!(zuf.f (x.1,())).1) (Jv (0,3,())) (Jd ((365:Int)≠0) (Jb (J ((CI.f (I6.wrap a,())).1>=x.1)) (Jb (J ((CI.f (I6.wrap b,())).1>=x.1)) (Jb (J ((CI.f (I6.wrap c,())).1>=x.1)) (Jd False (Jv (0,0,()))) (Jv (I6.wrap c,0,()))) (Jv (I6.wrap b,0,()))) (Jv (I6.wrap a,0,()))))
def zx2:ag prog 65 ⟨[.d i64],[i64,i64],λxs=>(zvt xs).get,λxs=>[(zvt xs).ok]⟩:=
 cF zt7 (Λ:=(λ_=>SI prog zuw 0 bK (au f65 0) 3)) (fn:=f65) (aY [.d i64]) (by kernel_rfl) (λc E a=>fH a (by kernel_rfl) (b:=au f65 0) (by kernel_rfl) (zti zt7 (bm _ 0))) (λx=>by kernel_rfl)
def ztu(x:ap [.d i64]):Fr (aa [twT]):=
 let a:=[31,28,31,30,31,30,31,31,30,31,30,31].getD (Int.toNat 1) 0+1;Jb (zud.f (x.1,())).1 (Jd ((0:Int)<=1/\1<(12:Int)) (Jd ((0:Int)<=1/\1<(12:Int)) (Jv ((bif 1==(0:Int)then I6.wrap a else 31,bif 1==((0+1):Int)then I6.wrap a else 28,bif 1==((0+1+1):Int)then I6.wrap a else 31,bif 1==((0+1+1+1):Int)then I6.wrap a else 30,bif 1==((0+1+1+1+1):Int)then I6.wrap a else 31,bif 1==((0+1+1+1+1+1):Int)then I6.wrap a else 30,bif 1==((0+1+1+1+1+1+1):Int)then I6.wrap a else 31,bif 1==((0+1+1+1+1+1+1+1):Int)then I6.wrap a else 31,bif 1==((0+1+1+1+1+1+1+1+1):Int)then I6.wrap a else 30,bif 1==((0+1+1+1+1+1+1+1+1+1):Int)then I6.wrap a else 31,bif 1==((0+1+1+1+1+1+1+1+1+1+1):Int)then I6.wrap a else 30,bif 1==((0+1+1+1+1+1+1+1+1+1+1+1):Int)then I6.wrap a else 31,()),())))) (Jv ((31,28,31,30,31,30,31,31,30,31,30,31,()),()))
def zx5:ag prog 152 ⟨[.d i64],[twT],λxs=>(ztu xs).get,λxs=>[(ztu xs).ok]⟩:=
 cF zt7 (Λ:=bK) (fn:=f152) (aY [.d i64]) (by kernel_rfl) (λc E _=>bm c 0) (λx=>by kernel_rfl)
def si:Ct:=⟨[.d i64],[twT],λx=>(ztu x).get,λ_=>[]⟩
def ztp:ag prog 152 si:=cq zx5 _ (λx a _=>by unfold ztu;repeat' first|exact trivial|decide|intro _|refine⟨?_,?_⟩|decide)
def zuc:Ct:=⟨[.d i64],[i64,i64],λ_=>(1601,0,()),λx=>[x.1=1]⟩
def zzl:ag prog 65 zuc:=conv zx2 _ _ (λ_ _ x _ _ h=>by obtain⟨n,_⟩:=x;have h:n=1:=h;subst h;exact aN rfl (aw (by decide) (aN rfl ⟨uT,rfl⟩)))
def zta(a:twT.q):List Int:=[a.1,a.2.1,a.2.2.1,a.2.2.2.1,a.2.2.2.2.1,a.2.2.2.2.2.1,a.2.2.2.2.2.2.1,a.2.2.2.2.2.2.2.1,a.2.2.2.2.2.2.2.2.1,a.2.2.2.2.2.2.2.2.2.1,a.2.2.2.2.2.2.2.2.2.2.1,a.2.2.2.2.2.2.2.2.2.2.2.1]
def zth(c:ri.q):Prop:=c=(1601,1,1,())\/c=(1601,7,1,())
def zwq:Cx:=cx [(152,si)] []
def zwr:CxOK prog zwq:=aQ aH ⟨ztp,uT⟩ trivial
def zux:Cx:=cx [(65,zuc),(107,CI),(152,si)] []
def zuy:CxOK prog zux:=aQ aH ⟨zzl,zue,ztp,uT⟩ trivial
def zvu(x:ap [.d ri]):Fr (aa [.bool]):=
 let a:=x.1.2;Jb (bif bif bif J (x.1.1<1601)then Z else J (x.1.1>2400)then Z else J (a.1<1)then Z else J (a.1>12)) (Jv (Y,())) (Jd (J (a.2.1>=1)=Z->0<=I6.wrap (a.1-1)/\I6.wrap (a.1-1)<(12:Int)) (Jv (bif J (a.2.1>=1)then J (a.2.1<=(zta (si.f (x.1.1,())).1).getD (I6.wrap (a.1-1)).toNat 0)else Y,())))
def zx6:ag prog 215 ⟨[.d ri],[.bool],λxs=>(zvu xs).get,λxs=>[(zvu xs).ok]⟩:=
 cF zwr (Λ:=bK) (fn:=f215) (aY [.d ri]) (by kernel_rfl) (λc E _=>bm c 0) (λx=>by kernel_rfl)
def zvr(x:ap [.d i64]):Fr (aa [ri,i64]):=
 let k:=Int.toNat 0;let a:=zuc.f (x.1,());let c:=zta (si.f (a.1,())).1;let b:=x.1-(CI.f (a.1,())).1;let h:=((a.1,1,I6.wrap b,()),0,());let g:=((a.1,I6.wrap (1+1),I6.wrap (I6.wrap b-c.getD k 0),()),0,());Jd (x.1=1) (Jb (a.2.1 != 0) (Jv ((0,0,0,()),a.2.1,())) (Jb (J ((0:Int)<12)) (Jd ((0:Int)<=0/\0<(12:Int)) (Jb (J (I6.wrap b<=c.getD k 0)) (Jv h) (Jb (J (I6.wrap (0+1)<12)) (Jd (0<=I6.wrap (0+1)/\I6.wrap (0+1)<(12:Int)) (Jb (J (I6.wrap (I6.wrap b-c.getD k 0)<=c.getD (I6.wrap (0+1)).toNat 0)) (Jv g) (Jd False (Jv ((0,0,0,()),0,()))))) (Jv g)))) (Jv h)))
def zx0:ag prog 151 ⟨[.d i64],[ri,i64],λxs=>(zvr xs).get,λxs=>[(zvr xs).ok]⟩:=
 cF zuy (Λ:=(λ_=>SI prog zux 0 bK (au f151 0) 2)) (fn:=f151) (aY [.d i64]) (by kernel_rfl) (λc E a=>fH a (by kernel_rfl) (b:=au f151 0) (by kernel_rfl) (zti zuy (bm _ 0))) (λx=>by kernel_rfl)
def zub:Ct:=⟨[.d ri],[.bool],λ_=>(Z,()),λx=>[zth x.1]⟩
def zy8:ag prog 215 zub:=conv zx6 _ _ (λ_ _ x _ _ h=>by obtain⟨c,⟨⟩⟩:=x;have h:zth c:=h;rcases h with rfl|rfl<;>exact aN (by decide +kernel) (aw (λ_=>by decide +kernel) ⟨uT,by decide +kernel⟩))
def bp:Ct:=⟨[.d i64],[ri,i64],λ_=>((1601,1,1,()),0,()),λx=>[x.1=1]⟩
def zyl:ag prog 151 bp:=conv zx0 _ _ (λ_ _ x _ _ h=>by obtain⟨n,⟨⟩⟩:=x;have h:n=1:=h;subst h;exact aw rfl (aN rfl (aV rfl (aw (by decide +kernel) (aV (by decide +kernel) ⟨uT,by decide +kernel⟩)))))
def zuz:Cx:=cx [(215,zub),(152,si),(107,CI)] []
def zu0:CxOK prog zuz:=aQ aH ⟨zy8,ztp,zue,uT⟩ trivial
def zvq(x:ap [.d ri]):Fr (aa [i64,i64]):=
 let m:=I6.wrap (0+1)+1;let l:=x.1.2.1-1;let b:=zta (si.f (x.1.1,())).1;let k:=I6.wrap ((CI.f (x.1.1,())).1+x.1.2.2.1)+b.getD (Int.toNat 0) 0;let c:=I6.wrap (I6.wrap k+b.getD (I6.wrap (0+1)).toNat 0)+b.getD (I6.wrap m).toNat 0;let a:=I6.wrap m+1;let n:=I6.wrap a+1;let h:=I6.wrap (I6.wrap c+b.getD (I6.wrap a).toNat 0)+b.getD (I6.wrap n).toNat 0;let g:=I6.wrap n+1;let o:=I6.wrap g+1;Jd (zth x.1) (Jb (!(zub.f (x.1,())).1) (Jv (0,3,())) (Jb (J (0<I6.wrap l)) (Jd ((0:Int)<=0/\0<(12:Int)) (Jb (J (I6.wrap (0+1)<I6.wrap l)) (Jd (0<=I6.wrap (0+1)/\I6.wrap (0+1)<(12:Int)) (Jb (J (I6.wrap m<I6.wrap l)) (Jd (0<=I6.wrap m/\I6.wrap m<(12:Int)) (Jb (J (I6.wrap a<I6.wrap l)) (Jd (0<=I6.wrap a/\I6.wrap a<(12:Int)) (Jb (J (I6.wrap n<I6.wrap l)) (Jd (0<=I6.wrap n/\I6.wrap n<(12:Int)) (Jb (J (I6.wrap g<I6.wrap l)) (Jd (0<=I6.wrap g/\I6.wrap g<(12:Int)) (Jb (J (I6.wrap o<I6.wrap l)) (Jd (0<=I6.wrap o/\I6.wrap o<(12:Int)) (Jd False (Jv (0,0,())))) (Jv (I6.wrap (I6.wrap h+b.getD (I6.wrap g).toNat 0),0,())))) (Jv (I6.wrap h,0,())))) (Jv (I6.wrap (I6.wrap c+b.getD (I6.wrap a).toNat 0),0,())))) (Jv (I6.wrap c,0,())))) (Jv (I6.wrap (I6.wrap k+b.getD (I6.wrap (0+1)).toNat 0),0,())))) (Jv (I6.wrap k,0,())))) (Jv (I6.wrap ((CI.f (x.1.1,())).1+x.1.2.2.1),0,()))))
def zxz:ag prog 153 ⟨[.d ri],[i64,i64],λxs=>(zvq xs).get,λxs=>[(zvq xs).ok]⟩:=
 cF zu0 (Λ:=(λ_=>SI prog zuz 0 bK (au f153 0) 7)) (fn:=f153) (aY [.d ri]) (by kernel_rfl) (λc E a=>fH a (by kernel_rfl) (b:=au f153 0) (by kernel_rfl) (zti zu0 (bm _ 0))) (λx=>by kernel_rfl)
def zyj(c:ri.q):Int:=if c.2.1=1 then 1 else 182
def zua:Ct:=⟨[.d ri],[i64,i64],λx=>(zyj x.1,0,()),λx=>[zth x.1]⟩
def zyk:ag prog 153 zua:=conv zxz _ _ (λ_ _ x _ _ h=>by
 obtain⟨c,⟨⟩⟩:=x;have a:zth c:=h;rcases a with rfl|rfl
 exact aw h (aN rfl (aN (by decide +kernel) ⟨uT,by decide +kernel⟩));refine aw h (aN rfl ?_)
 iterate 6 refine aV (by decide +kernel) (aw (by decide +kernel) ?_)
 exact aN (by decide +kernel) ⟨uT,by decide +kernel⟩)
def zs9:Fr α->List Prop×α
 |.val x=>([],x)
 |.br b x y=>bif b then zs9 x else zs9 y
 |.need p x=>(p::(zs9 x).1,(zs9 x).2)
def zt6:{t:Fr α}->az (zs9 t).1->t.ok/\t.get=(zs9 t).2
 |.val _,_=>⟨uT,rfl⟩
 |.br Z _ _,h=>aV rfl (zt6 h)
 |.br Y _ _,h=>aN rfl (zt6 h)
 |.need _ _,h=>by obtain⟨a,b⟩:=lk.1 h;exact aw a (zt6 b)
def fnw{C:Cx}(k:CxOK P C){Λ:Nat->St->Option Tr}(a:Func){ps:List PT}{rs:List Ty}(c:ap ps)(v:aa rs)(L:List Prop)(i:∀ c E,a.body=U c->co P E Λ c 0)(m:az L)(l:P.funcs[f]?= U a:=by kernel_rfl)(n:∀ xs,(oP P C Λ a ps rs xs).isSome=true:=by intro _;kernel_rfl)(d:(oP P C Λ a ps rs c).map zs9=U (L,v):=by kernel_rfl):ag P f ⟨ps,rs,λ_=>v,λx=>[x=c]⟩:=by
 have h:=cF k (Λ:=Λ) (fr:=λxs=>(oP P C Λ a ps rs xs).getD (.val v)) c l i (λxs=>by
  have:=n xs;cases b:oP P C Λ a ps rs xs with
  |some t=>rfl
  |none=>rw[b]at this;cases this)
 refine conv h _ _ (λ_ _ x _ _ g=>?_);have g:x=c:=g;subst g;dsimp only;cases b:oP P C Λ a ps rs x with
 |none=>rw[b]at d;cases d
 |some t=>rw[b]at d;have e:zs9 t=(L,v):=ud4 d;have:=zt6 (t:=t) (by rw[e];exact m);rw[e]at this;exact this
end Go.Proofs.YtdadnmgajcfkfaaGreat
