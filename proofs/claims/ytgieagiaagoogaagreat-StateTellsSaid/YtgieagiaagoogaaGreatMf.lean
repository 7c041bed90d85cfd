/-
  Parts of the proof, one behind the other: I17, I18, I19, I20, I21, I22, I23, I12, I13, I24, I25, I15, I26, I27, I29, I30, K1, S1, S5, S2, S3, S4, S6, S7, S8, S9, S10, S14, S21, S15, S16, S17, S18, I31, I32, I33, I35, L0, L2, L3, L4, L5.
-/
import Derived.Test.YtgieagiaagoogaaGreatMe
import Derived.Defers
import Derived.MapKept
import Derived.Carry
import Derived.WalkKit
import Derived.Deep.RegionLaw
import Derived.Lib.Overlaps
import Derived.Lib.AppendZerosOnto
import Derived.Laws.NewBlocks
import Derived.Lib.AppendZeros
set_option linter.all false
namespace Go.Proofs.YtgieagiaagoogaaGreat
open Go Go.Ab Go.RowKit Go.Proofs Tryz
open Go.Ab.Fr renaming val->Jv,need->Jd,br->Jb
def zv (T:Ty) (n:Nat) (x:aq [.d (.sl T)]):Fr (ae [.sl T]):=
 let a:=([]:List T.den);let b:=(a++x.1,());Jd (x.1=[] ->
   (Jb true (Jv (a,())) (Jd (a.length+x.1.length<=maxLen/\(a.length+x.1.length)*n<=140737488355328) (Jv b))).ok /\
   (Jb true (Jv (a,())) (Jd (a.length+x.1.length<=maxLen/\(a.length+x.1.length)*n<=140737488355328) (Jv b))).get =
    (Jb false (Jv (a,())) (Jd (a.length+x.1.length<=maxLen/\(a.length+x.1.length)*n<=140737488355328) (Jv b))).get)
  (Jb false (Jv (a,())) (Jd (a.length+x.1.length<=maxLen/\(a.length+x.1.length)*n<=140737488355328) (Jv b)))
def kC (T:Ty):Ct:=⟨[.d (.sl T)],[.sl T],λx=>(x.1,()),λx=>[x.1.length<=1000000]⟩
def Hz {T:Ty} {n:Nat} (hn:n<=1000) {l:List T.den} (hl:l.length<=1000000):(zv T n (l,())).ok/\(zv T n (l,())).get=(l,()):=by
 have h1:([]:List T.den).length+l.length<=maxLen/\(([]:List T.den).length+l.length)*n<=140737488355328:=by
  refine⟨by simp; unfold maxLen; omega,?_⟩;have:(([]:List T.den).length+l.length)*n<=1000000*1000:=uec (by simp; omega) hn;omega
 refine au (λh=>?_) (ax rfl (au h1 ⟨uT,rfl⟩));subst h;exact⟨⟨λ_=>uT,λh=>by cases h⟩,rfl⟩
def qcw:aa prog 155 (kC aS):=
 cg (aH eI f155 (fr:=zv aS 16)) _ _
  (λ_ _ x _ _ hok=>Hz (by decide) hok)
def qcx:aa prog 156 (kC i64):=
 cg (aH eI f156 (fr:=zv i64 8)) _ _
  (λ_ _ x _ _ hok=>Hz (by decide) hok)
def yU:aa prog 70 (kC ak):=
 cg (aH eI f70 (fr:=zv ak 40)) _ _
  (λ_ _ x _ _ hok=>Hz (by decide) hok)
def jp (g:Int->Bool):List Int->Int->Option Int
 |[],_=>none
 |x::r,i=>if g x=true then some i else jp g r (i+1)
abbrev zt:PT:=.fn [i64] [.bool]
def yd:LS:=⟨[(0,.d bE),(1,zt),(7,.d i64),(8,.d i64)],[]⟩
def wG:Pt:=⟨19,0,yd,⟨[],[]⟩,⟨[(4,.d i64)],[]⟩⟩
def Ik (x:yd.X):Fr wG.Out:=
 match x with
 |((l,g,n,i,_),_)=>Jb (decide (i<n))
  (Jd (0<=i/\i<l.length)
   (Jb (g (l.getD i.toNat i64.dflt,())).1 (Jv (Rd.back ((i,()),())))
    (Jv (Rd.next ((l,g,n,I6.wrap (i+1),()),())))))
  (Jv (Rd.out ((),())))
def rR (l:List Int) (n i:Int):Prop:=0<=i/\i<=n/\n=l.length/\n<=9223372036854775807
def Nm (x:yd.X):Fr wG.Out:=
 Jd (rR x.1.1 x.1.2.2.1 x.1.2.2.2.1) (Jb (jp (λn=>(x.1.2.1 (n,())).1) (x.1.1.drop x.1.2.2.2.1.toNat) x.1.2.2.2.1).isSome
   (Jv (.back (((jp (λn=>(x.1.2.1 (n,())).1) (x.1.1.drop x.1.2.2.2.1.toNat) x.1.2.2.2.1).getD (-1),()),()))) (Jv (.out ((),()))))
def zax:ah prog (aC f225 0) yd wG Ik:=ah.of_run eI (bs:=0) rfl rfl rfl (λ_=>bL _ 0) (λx=>by kernel_rfl)
def qql (l:List Int) (g:ae [i64]->ae [.bool]) (n i:Int) (hinv:rR l n i) (Q:wG.Out->Prop) (hq:(Jb (jp (λn=>(g (n,())).1) (l.drop i.toNat) i).isSome (Jv (Rd.back (((jp (λn=>(g (n,())).1) (l.drop i.toNat) i).getD (-1),()),()))) (Jv (Rd.out ((),())))  : Fr wG.Out).satP Q) :
  (Ik ((l,g,n,i,()),())).satP λ
   |.next x'=>rR x'.1.1 x'.1.2.2.1 x'.1.2.2.2.1/\(x'.1.2.2.1-x'.1.2.2.2.1).toNat<(n-i).toNat/\(Nm x').satP Q
   |.out y=>Q (.out y)
   |.back z=>Q (.back z)
   |.pan p=>Q (.pan p):=by
 obtain⟨h1,h2,h3,h4⟩:=hinv;subst h3;refine⟨λhi=>?_,λhi=>?_⟩
 ·have hi':i<(l.length:Int):=ucv hi;obtain⟨k,rfl⟩:∃ k:Nat,i=k:=⟨i.toNat,by omega⟩;have hl:k<l.length:=by omega
  have g1:l.getD (k:Int).toNat i64.dflt=l[k]:=by
   rw[show(k:Int).toNat=k by omega,uah,uap hl]; rfl
  have hw:I6.wrap ((k:Int)+1)=k+1:=IntWalk.i64_in _ (by omega);have hd:l.drop (k:Int).toNat=l[k]::l.drop (k+1):=by
   exact(ual hl)
  rw[hd] at hq;dsimp only[Fr.satP];rw[g1,hw];refine⟨⟨by omega,by omega⟩,λhb=>?_,λhb=>?_⟩
  ·have:jp (λn=>(g (n,())).1) (l[k]::l.drop (k+1)) k=some (k:Int):=if_pos hb;rw[this] at hq;exact hq.1 rfl
  ·have hb':¬ (g (l[k],())).1=true:=by rw[hb]; decide
   have:jp (λn=>(g (n,())).1) (l[k]::l.drop (k+1)) k=jp (λn=>(g (n,())).1) (l.drop (k+1)) (k+1):=if_neg hb';rw[this] at hq;have hI:rR l l.length ((k:Int)+1):=⟨by omega,by omega,rfl,h4⟩;refine⟨hI,by omega,hI,?_⟩;exact hq
 ·have hi':¬ i<(l.length:Int):=ucf hi;have e:l.drop i.toNat=[]:=ua0 (by omega);rw[e] at hq;exact hq.2 rfl
def qr1:ah prog (.loop (aC f225 0)) yd wG Nm:=by
 refine ah.loop zax (μ:=λx=>(x.1.2.2.1-x.1.2.2.2.1).toNat) ?_ (λx Q h=>h.1);rintro⟨⟨l,g,n,i,_⟩,_⟩ hinv Q hq;exact qql l g n i hinv Q hq.2
def GV:Ct:=⟨[.d bE,zt],[i64],λx=>((jp (λn=>(x.2.1 (n,())).1) x.1 0).getD (-1),()),λ_=>[]⟩
def qn9:aa prog 225 GV:=
 cg (bz eI qr1 (ps:=[.d bE,zt]) (fr:=λx=>Jd (rR x.1 x.1.length 0) (Jb (jp (λn=>(x.2.1 (n,())).1) x.1 0).isSome (Jv ((jp (λn=>(x.2.1 (n,())).1) x.1 0).getD (-1),())) (Jv (-1,()))))) _ _ (λw F x vs hr _=>by
  obtain⟨l,g,_⟩:=x;obtain⟨v,vs',rfl,hv,_⟩:=hr;have hlen:=fw hv;have hI:rR l l.length 0:=⟨by omega,by omega,rfl,hlen⟩;refine au hI ?_;cases hf:jp (λn=>(g (n,())).1) l 0 with
  |some k=>exact ay rfl ⟨uT,rfl⟩
  |none=>exact ax rfl ⟨uT,rfl⟩)
def Q2 (g:Int->Bool):(l:List Int)->(i:Int)->0<=i->decide ((jp g l i).getD (-1)>=0)=l.any g
 |[],i,_=>rfl
 |x::r,i,h=>by
  unfold jp;simp;split
  ·rename_i hg;rw[hg];simpa using h
  ·rename_i hg;rw[Q2 g r (i+1) (by omega)];simp at hg;rw[hg];rfl
def GJ:Ct:=⟨[.d bE,zt],[.bool],λx=>(x.1.any λn=>(x.2.1 (n,())).1,()),λ_=>[]⟩
noncomputable def Xm:Cx:=cx [(225,GV)] []
def Xn:CxOK prog Xm:=aJ aG ⟨qn9,uT⟩ trivial
def qay:aa prog 208 GJ:=
 cg (aH Xn f208 (fr:=λx=>Jv (decide ((GV.f (x.1,x.2.1,())).1>=0),())) (ps:=[.d bE,zt])) _ _
  (λ_ _ x _ _ _=>by
   obtain⟨l,g,_⟩:=x;exact⟨uT,ufw (Q2 (λn=>(g (n,())).1) l 0 (ufb 0)) rfl⟩)
def CZ (n:Int):Bool:=bif decide (n<0) then true else decide (n>100000)
def GT:Ct:=⟨[.d i64],[.bool],λx=>(CZ x.1,()),λ_=>[]⟩
def qhf:aa prog 209 GT:=
 cg (aH eI f209 (fr:=λx=>Jv (CZ x.1,())) (ps:=[.d i64])) _ _ (λ_ _ _ _ _ _=>⟨uT,rfl⟩)
def qhh (l:List Int):(!l.any CZ)=cY l:=by
 rw[List.not_any_eq_all_not];congr 1;funext n;unfold CZ;rw[udv];by_cases h:n<0
 ·simp[h]; omega
 ·simp[h]; omega
noncomputable def Xo:Cx:=cx [(208,GJ),(209,GT)] []
def Xp:CxOK prog Xo:=aJ aG ⟨qay,qhf,uT⟩ trivial
def qhi:aa prog 191 mN:=
 cg (aH Xp f191 (fr:=λx=>Jd (∀ (y:ae [i64]),kB [i64] y->True) (Jv (!(GJ.f (x.1,λy=>GT.f (y.1,()),())).1,()))) (ps:=[.d bE])) _ _
  (λ_ _ x _ _ _=>by
   obtain⟨l,_⟩:=x;exact⟨⟨λ_ _=>uT,uT⟩,ufw (qhh l) rfl⟩)
def jF (v:az.den):Bool:=
 decide (1<=v.1/\v.1<=292194/\0<=v.2.2.2.2.2.1/\v.2.2.2.2.2.1<=1000000000000000/\v.2.2.1.length<=100/\1<=v.2.2.2.1.length/\v.2.2.2.1.length<=100/\v.2.2.2.2.1.length=8) &&
  (cY [v.2.1.1,v.2.1.2.1,v.2.1.2.2.1,v.2.1.2.2.2.1]&&(cY v.2.2.2.1&&(cY v.2.2.2.2.1&&mL v.2.2.1)))
def qe:Ct:=⟨[.d az],[.bool],λx=>(jF x.1,()),λ_=>[]⟩
noncomputable def Xq:Cx:=cx [(191,mN),(192,pY),(155,kC aS),(156,kC i64)] []
def Mw:CxOK prog Xq:=aJ aG ⟨qhi,NT,qcw,qcx,uT⟩ trivial
def rG (a b:Int):Bool:=bif bif bif decide (a<1) then true else decide (a>292194) then true else decide (b<0) then true else decide (b>1000000000000000)
def rH (n z p:Nat):Bool:=bif bif bif decide ((n:Int)>100) then true else decide ((z:Int)<1) then true else decide ((z:Int)>100) then true else (p:Int) != 8
def Dv (x:aq [.d az]):Fr (ae [.bool]):=
 Jb (rG x.1.1 x.1.2.2.2.2.2.1) (Jv (false,()))
  (Jb (rH x.1.2.2.1.length x.1.2.2.2.1.length x.1.2.2.2.2.1.length) (Jv (false,()))
   (Jv (bif bif bif (mN.f ([x.1.2.1.1,x.1.2.1.2.1,x.1.2.1.2.2.1,x.1.2.1.2.2.2.1],())).1 then (mN.f (x.1.2.2.2.1,())).1 else false then (mN.f (x.1.2.2.2.2.1,())).1 else false then (pY.f (x.1.2.2.1,())).1 else false,())))
def Wl (a b:Int) (n z p:Nat):(!(rG a b || rH n z p))=decide (1<=a/\a<=292194/\0<=b/\b<=1000000000000000/\n<=100/\1<=z/\z<=100/\p=8):=by
 have e1:rG a b=decide (a<1\/a>292194\/b<0\/b>1000000000000000):=by
  unfold rG;simp;cases decide (a<1)<;>cases decide (a>292194)<;>cases decide (b<0)<;>simp
 have e2:rH n z p=decide ((n:Int)>100\/(z:Int)<1\/(z:Int)>100\/(p:Int)≠8):=by
  unfold rH;simp;cases decide ((n:Int)>100)<;>cases decide ((z:Int)<1)<;>cases decide ((z:Int)>100)<;>simp[bne,Bool.beq_eq_decide_eq]
 rw[e1,e2,udv];simp;omega
def zdf:aa prog 159 qe:=
 cg (aH Mw f159 (fr:=Dv)) _ _
  (λ_ _ x _ _ _=>by
   obtain⟨v,_⟩:=x;unfold jF;rw[<- Wl];unfold Dv;cases h1:rG v.1 v.2.2.2.2.2.1 with
   |true=>exact ay rfl ⟨uT,rfl⟩
   |false=>
    refine ax rfl ?_;cases h2:rH v.2.2.1.length v.2.2.2.1.length v.2.2.2.2.1.length with
    |true=>exact ay rfl ⟨uT,rfl⟩
    |false=>
     refine ax rfl ⟨uT,ufw ?_ rfl⟩;show(bif bif bif cY _ then cY _ else false then cY _ else false then mL _ else false)=_;cases cY [v.2.1.1,v.2.1.2.1,v.2.1.2.2.1,v.2.1.2.2.2.1]<;>cases cY v.2.2.2.1<;>cases cY v.2.2.2.2.1<;>rfl)
def Me (v:az.den):Prop:=v.2.2.1.length<=1000000/\v.2.2.2.1.length<=1000000/\v.2.2.2.2.1.length<=1000000
def qb6:Ct:=⟨[.d az],[az],λx=>(x.1,()),λx=>[Me x.1]⟩
def qw9:aa prog 113 qb6:=
 cg (aH Mw f113 (fr:=λx=>Jd (x.1.2.2.1.length<=1000000) (Jd (x.1.2.2.2.1.length<=1000000) (Jd (x.1.2.2.2.2.1.length<=1000000) (Jv (x.1,()))))) (ps:=[.d az])) _ _
  (λ_ _ x _ _ hok=>⟨⟨hok.1,hok.2.1,hok.2.2,uT⟩,rfl⟩)
end Go.Proofs.YtgieagiaagoogaaGreat
namespace Go.Proofs.YtgieagiaagoogaaGreat
open Go Go.Ab Go.RowKit Go.Proofs Go.Shelf Tryz
open Go.Ab.Fr renaming val->Jv,need->Jd,br->Jb
attribute [local go_sem] Oper.semAt_some
def mW (f:Nat->Nat) (k:Nat):List Nat:=(List.range k).map f
def I8 (f:Nat->Nat) (k:Nat):mW f (k+1)=mW f k++[f k]:=by simp[mW,udz]
def Q5 (f:Nat->Nat) (k:Nat):(mW f k).length=k:=by simp[mW]
def Wj (c:Nat->Nat->Value) (k:Nat):Value:=.agg #[c k 0,c k 1,c k 2,c k 3,c k 4,c k 5,c k 6,c k 7,c k 8]
set_option maxRecDepth 100000 in
set_option maxHeartbeats 2000000 in
def qbf (n:Nat) (hn:1<=n) (l Bs n₀ b off len cap:Nat) (c:Nat->Nat->Value) (hreach:len<=1000000) (A:Option Addr) (hA:0<len->A=some ⟨b,off,none⟩/\b<n₀) (J Jx:List (Fin len)->World->Prop)
  (hY:∀ pre (k:Fin len) W,J pre W->pre.length<len->YieldAt Fence.wide (n-1) prog l #[.int .i64 ((k.1:Nat):Int),Wj c k.1] W λe W'=>
   (e = .returned (.bool true)/\J (pre++[k]) W'/\dh n₀ Bs Bs W W')\/(e = .returned (.bool false)/\Jx (pre++[k]) W'))
  (W:World) (hBs:W.heap[Bs]? = some (.cells #[.slice A len cap] 22 (0,0))) (hc:∀ k j,k<len->j<9->W.cell? ⟨b,off+(k*9+j),none⟩=some (c k j)) (h0:J [] W) :
  CallsIn Fence.wide n prog 154 #[.func (.yield l) #[] #[],.pointer (some ⟨Bs,0,none⟩)] W λe W'=>(∃ v,e = .returned v) /\
   ((∃ ys:List (Fin len),ys.map Fin.val=mW (λj=>len-1-j) len/\J ys W')\/(∃ pre:List (Fin len),(∃ k,k<=len/\pre.map Fin.val=mW (λj=>len-1-j) k)/\Jx pre W')):=by
 have hro:Fence.wide.round=none:=rfl;refine callsIn_of_wp func154 rfl trivial ?_ hro;simp only[ntmps154,uco,uc7,udj,Nat.reduceAdd,Nat.reduceSub,ubk,ubl,ucw,ubv,udk,uc2];have c0:W.cell? ⟨Bs,0,none⟩=some (.slice A len cap):=aU hBs 0
 gi_wp2
 gi_loopw [3] (λi wr=>∃ (k:Nat) (pre:List (Fin len)),k<=len/\i = .int .i64 ((len:Int)-1-k)/\pre.map Fin.val=mW (λj=>len-1-j) k/\J pre wr/\dh n₀ Bs Bs W wr)
  (λi _=>(intOf i+1).toNat)
 case atStart=>exact⟨0,[],ufg _,by simp,rfl,h0,dh.refl _ _ _ _⟩
 case round=>
  obtain⟨k,pre,hk,rfl,hpre,hJs,hnx⟩:=hrel;have e0:wr.cell? ⟨Bs,0,none⟩=some (.slice A len cap):=aU (hnx.2.1.trans hBs) 0;by_cases hlt:k<len
  ·obtain⟨rfl,hb⟩:=hA (by omega);obtain⟨fn,tmps,assign,body,hy,hR⟩:=hY pre ⟨len-1-k,by omega⟩ wr hJs (by have:=ufv List.length hpre; rw[Q5,ud0] at this; omega);have hcx:∀ j,j<9->wr.cell? ⟨b,off+(len-1-k)*9+j,none⟩=some (c (len-1-k) j):=λj hj=>by
    rw[uef];exact(hnx.1.cell (p:=⟨b,off+((len-1-k)*9+j),none⟩) hb).trans (hc _ j (by omega) hj)
   have x0:=hcx 0 (by omega);have x1:=hcx 1 (by omega);have x2:=hcx 2 (by omega);have x3:=hcx 3 (by omega);have x4:=hcx 4 (by omega);have x5:=hcx 5 (by omega);have x6:=hcx 6 (by omega);have x7:=hcx 7 (by omega);have x8:=hcx 8 (by omega);rw[uex] at x0;have ek:((len-1-k:Nat):Int)=(len:Int)-1-k:=by omega
   dsimp only at hy;rw[ek] at hy;unfold Wj at hy;clear hcx hc hBs
   gi_wp2
   refine hR.mono ?_;rintro e W3 (⟨rfl,hJ3,hk3⟩|⟨rfl,hJx3⟩)
   ·gi_wp2
    go_roundw
    case rel=>exact⟨k+1,pre++[⟨len-1-k,by omega⟩],by omega,by simp; omega,by rw[I8,udu,hpre]; rfl,hJ3,hnx.trans hk3⟩
    case measure=>simp[intOf]; omega
   ·gi_wp2
    refine ue1 (ue2 rfl _ _ _) rfl ?_;exact⟨⟨_,rfl⟩,.inr ⟨_,⟨k+1,by omega,by rw[I8,udu,hpre]; rfl⟩,hJx3⟩⟩
  ·obtain rfl:k=len:=by omega
   gi_wp2
   go_end0
   exact⟨⟨_,rfl⟩,.inl ⟨_,hpre,hJs⟩⟩
end Go.Proofs.YtgieagiaagoogaaGreat
namespace Go.Ab
open Go Go.RowKit
open Go.Ab.Fr renaming val->Jv,need->Jd,br->Jb
def Ty.plain:Ty->Bool
 |.fm _=>false
 |.ic _ _=>false
 |.sl e=>e.plain&&decide (0<e.size)
 |.pair a b=>a.plain&&b.plain
 |_=>true
def Mg {w:World} {F:Nat->Prop}:{t:Ty} -> {x:t.den} -> {g:Nat->Value->Prop}->0<t.size->aD w F t x g->∃ j u,g j u
 |.int _,_,_,_,h=>⟨0,_,h.1⟩
 |.bool,_,_,_,h=>⟨0,_,h⟩
 |.str,_,_,_,h=>⟨0,_,h.1⟩
 |.sl _,_,_,_,h=>by
  obtain⟨A,c,h1,_⟩:=h;exact⟨0,_,h1⟩
 |.unit,_,_,h,_=>absurd h (by decide)
 |.pair a b,_,_,h,hr=>by
  by_cases ha:0<a.size
  ·exact Mg ha hr.1
  ·have hb:0<b.size:=by simp only[Ty.size] at h; omega
   obtain⟨j,u,hu⟩:=Mg hb hr.2;exact⟨_,u,hu⟩
 |.fm _,_,_,_,h=>by
  obtain⟨r,arr,ck,h1,_⟩:=h;exact⟨0,_,h1⟩
 |.ic _ _,_,_,_,h=>by
  rcases h with ⟨ty,u,_,h2,_⟩|⟨_,h2⟩
  ·exact⟨0,_,h2⟩
  ·exact⟨0,_,h2⟩
 |.fc _,_,_,_,h=>by
  obtain⟨u,h1,_⟩:=h;exact⟨0,_,h1⟩
def Hu {w:World} {a:Addr} {u:Value} (h:w.cell? a=some u):∃ arr ty p,w.heap[a.block]? = some (.cells arr ty p):=by
 unfold World.cell? at h;split at h
 ·rename_i arr ty p he;exact⟨arr,ty,p,he⟩
 ·cases h
def aD.only {w:World} {F G:Nat->Prop} (hG:∀ b,F b->(∃ arr ty p,w.heap[b]? = some (.cells arr ty p))->G b):{t:Ty} -> {x:t.den} -> {g:Nat->Value->Prop}->t.plain=true->aD w F t x g->aD w G t x g
 |.int _,_,_,_,h=>h
 |.bool,_,_,_,h=>h
 |.str,_,_,_,h=>h
 |.sl e,_,_,hp,h=>by
  obtain⟨A,c,h1,h2,h3,h4⟩:=h;simp only[Ty.plain,uc9,ucs] at hp;refine⟨A,c,h1,h2,h3,λi x hx=>?_⟩;obtain⟨ad,ha,hf,hr⟩:=h4 i x hx;obtain⟨j,u,hu⟩:=Mg hp.2 hr;have hc:=Hu hu;have hb:(ad.add (i*e.size+j)).block=ad.block:=by unfold Addr.add; split<;>rfl
  rw[hb] at hc;exact⟨ad,ha,hG _ hf hc,aD.only hG hp.1 hr⟩
 |.unit,_,_,_,_=>trivial
 |.pair a b,_,_,hp,h=>by
  simp only[Ty.plain,uc9] at hp;exact⟨aD.only hG hp.1 h.1,aD.only hG hp.2 h.2⟩
 |.fm _,_,_,hp,_=>by cases hp
 |.ic _ _,_,_,hp,_=>by cases hp
 |.fc _,_,_,_,h=>h
def bq.only {w:World} {F G:Nat->Prop} (hG:∀ b,F b->(∃ arr ty p,w.heap[b]? = some (.cells arr ty p))->G b) {t:Ty} {x:t.den} {v:Value} (hp:t.plain=true) (h:bq w F t x v):bq w G t x v:=
 ⟨h.1,h.2.1,h.2.2.only hG hp⟩
end Go.Ab
namespace Go.Proofs.YtgieagiaagoogaaGreat
open Go Go.Ab Go.RowKit Go.Proofs Go.Shelf Tryz
open Go.Ab.Fr renaming val->Jv,need->Jd,br->Jb
attribute [local go_sem] Oper.semAt_some
structure VC where
 p:Nat->Int
 A:Nat->Option Addr
 l:Nat->Nat
 c:Nat->Nat
def fK (d:VC):Array Value:=#[.int .i64 (d.p 0),.int .i64 (d.p 1),.int .i64 (d.p 2),.int .i64 (d.p 3),.int .i64 (d.p 4),.slice (d.A 0) (d.l 0) (d.c 0),.slice (d.A 1) (d.l 1) (d.c 1),.slice (d.A 2) (d.l 2) (d.c 2),.int .i64 (d.p 5)]
def iE (d:VC):Value:=.agg (fK d)
def Wk {w:World} {F:Nat->Prop} {x:az.den} {g:Nat->Value->Prop} (h:aD w F az x g):∃ d:VC,(∀ j u,(fK d)[j]? = some u->g j u)/\d.p 0=x.1:=by
 obtain⟨h0,⟨b0,b1,b2,b3,_⟩,⟨A1,c1,h1,_⟩,⟨A2,c2,h2,_⟩,⟨A3,c3,h3,_⟩,h4,_⟩:=h;refine⟨⟨λj=>match j with|0=>x.1|1=>x.2.1.1|2=>x.2.1.2.1|3=>x.2.1.2.2.1|4=>x.2.1.2.2.2.1|_=>x.2.2.2.2.2.1,λj=>match j with|0=>A1|1=>A2|_=>A3,λj=>match j with|0=>x.2.2.1.length|1=>x.2.2.2.1.length|_=>x.2.2.2.2.1.length,λj=>match j with|0=>c1|1=>c2|_=>c3⟩,λj u hj=>?_,rfl⟩
 match j,hj with
 |0,hj=>cases hj; exact h0.1
 |1,hj=>cases hj; exact b0.1
 |2,hj=>cases hj; exact b1.1
 |3,hj=>cases hj; exact b2.1
 |4,hj=>cases hj; exact b3.1
 |5,hj=>cases hj; exact h1
 |6,hj=>cases hj; exact h2
 |7,hj=>cases hj; exact h3
 |8,hj=>cases hj; exact h4.1
 |j+9,hj=>simp[fK] at hj
def ze8 {w:World} {F:Nat->Prop} {x:az.den} {v:Value} (h:bq w F az x v):∃ d:VC,v=iE d/\d.p 0=x.1:=by
 obtain⟨cs,rfl⟩:=h.2.1.1 rfl;have hs:=h.1;obtain⟨d,hd,h0⟩:=Wk h.2.2;refine⟨d,?_,h0⟩;congr 1;apply ufo
 ·exact hs
 ·intro i hi1 hi2;have:=hd i (fK d)[i] (uam hi2);have h2:cs[i]? = some (fK d)[i]:=this;rw[uam hi1] at h2;exact ud1 h2
def jH:Array Value:=#[.int .i64 0,.int .i64 0,.int .i64 0,.int .i64 0,.int .i64 0,.slice none 0 0,.slice none 0 0,.slice none 0 0,.int .i64 0]
def N4 (F:Nat->Prop) (x:az.den) (d:VC) (W w':World):Prop:=
 ∃ F',bq w' F' az x (iE d)/\∀ b,F' b->(F b\/W.heap.size<=b)/\∃ arr ty p,w'.heap[b]? = some (.cells arr ty p)
def qw6 {w W:World} {F:Nat->Prop} {x:az.den} {v:Value} (hb:∀ b,F b->b<w.heap.size) (hW:Below w.heap.size w W) (hx:bq w F az x v) (hf:Me x) :
  Calls prog 113 #[v] W λe w'=>∃ d,e = .returned (iE d)/\Below W.heap.size W w'/\N4 F x d W w':=by
 have hx':=hx.mono (λ_ h=>h) (λb h=>hW.block b (hb b h));refine(qw9.2 W F (x,()) [v] (λb h=>ub9 (hb b h) hW.size) ⟨v,[],rfl,hx',rfl⟩ hf).mono ?_;rintro e w' ⟨u,F',rfl,hbel,h1,h2,h3⟩;have h3':=h3;obtain⟨d,rfl,_⟩:=ze8 h3';exact⟨d,rfl,hbel,λb=>F' b/\∃ arr ty p,w'.heap[b]? = some (.cells arr ty p),h3'.only (λb h hc=>⟨h,hc⟩) rfl,λb h=>⟨(h2 b h.1).1,h.2⟩⟩
structure AtI (w:World) {len:Nat} (day:Int) (sv:Value) (fr:Nat->Int) (pre:List (Fin len)) (W:World):Prop where
 x3:Boxed W (w.heap.size+1) 3 (.int .i64 day)
 x4:W.heap[w.heap.size+2]? = some (.cells jH 132 (0,0))
 x5:Boxed W (w.heap.size+3) 57 (.int .i64 0)
 xs:Boxed W (w.heap.size+4) 22 sv
 bel:Below w.heap.size w W
 sz:w.heap.size+5<=W.heap.size
 no:∀ k∈pre,¬ fr k.1<=day
structure AtX (w:World) {len:Nat} (F:Nat->Prop) (day:Int) (x:Nat->az.den) (fr:Nat->Int) (c:Code) (pre:List (Fin len)) (W:World):Prop where
 ret:c = .ret
 res:∃ ini k d F',pre=ini++[k]/\(∀ k∈ini,¬ fr k.1<=day)/\fr k.1<=day/\W.heap[w.heap.size+2]? = some (.cells (fK d) 132 (0,0))/\bq W F' az (x k.1) (iE d)/\(∀ b,F' b->(F b\/w.heap.size<=b)/\∃ arr ty p,W.heap[b]? = some (.cells arr ty p))
 x5:Boxed W (w.heap.size+3) 57 (.int .i64 0)
 bel:Below w.heap.size w W
def uR {X Y:World} {row:Option Nat} {B b:Nat} {cs:Array Value} {t:TypeId} {p:Nat×Nat} (h:X.heap[b]? = some (.cells cs t p)) (hg:X.grownBy Y row) (hr:∀ r,row=some r->B<=r/\∃ o:Obj,X.heap[r]? = some o/\o.isCells=false):Y.heap[b]? = some (.cells cs t p):=
 (hg.block b (uaf.1 h).1 (λe=>by
  obtain⟨_,o,ho,hc⟩:=hr b e.symm;rw[h] at ho;cases ho;cases hc)).trans h
def qa5 {w:World} {len:Nat} {day:Int} {sv:Value} {fr:Nat->Int} {B:Nat} (hB:w.heap.size<=B):OwnFrom B (λ(pre:List (Fin len)) W=>AtI w day sv fr pre W):=λpre X Y row h hg hr=>
 ⟨mM h.x3 hg hr,uR h.x4 hg hr,mM h.x5 hg hr,mM h.xs hg hr,h.bel.grown hg h.bel.size (λk e=>uen hB (hr k e).1),uen h.sz hg.size,h.no⟩
def qa9 {w:World} {len:Nat} {F:Nat->Prop} {day:Int} {x:Nat->az.den} {fr:Nat->Int} {B:Nat} (hB:w.heap.size<=B) (c:Code):OwnFrom B (λ(pre:List (Fin len)) W=>AtX w F day x fr c pre W):=λpre X Y row h hg hr=>by
 refine⟨h.ret,?_,mM h.x5 hg hr,h.bel.grown hg h.bel.size (λk e=>uen hB (hr k e).1)⟩;obtain⟨ini,k,d,F',e1,e2,e3,e4,e5,e6⟩:=h.res;refine⟨ini,k,d,F',e1,e2,e3,uR e4 hg hr,e5.mono (λ_ h=>h) (λb hb=>?_),λb hb=>?_⟩
 ·obtain⟨_,arr,ty,p,hc⟩:=e6 b hb;rw[hc];exact uR hc hg hr
 ·obtain⟨hh,arr,ty,p,hc⟩:=e6 b hb;exact⟨hh,arr,ty,p,uR hc hg hr⟩
def Ml (w0:Nat) (c:Nat->VC) (a:Nat->Nat->Act) (k:Nat) (a':Act) (W:World):Prop:=∃ Bx,w0<=Bx/\W.heap[Bx]? = some (.cells (fK (c k)) 132 (0,0))/\a'=a k Bx
def qa3 {w0 B:Nat} {c:Nat->VC} {a:Nat->Nat->Act} (k:Nat) (a':Act):OwnFrom B (λ(_:Unit) W=>Ml w0 c a k a' W):=λ_ X Y row hs hg hr=>by
 obtain⟨Bx,h1,h2,h3⟩:=hs;exact⟨Bx,h1,uR h2 hg hr,h3⟩
set_option maxRecDepth 100000 in
set_option maxHeartbeats 1000000 in
def qbg (n:Nat) (A:Option Addr) (len cap:Nat) (w:World) :
  CallsIn Fence.wide n prog 112 #[.slice A len cap] w λe w'=>e = .returned (.func (.func 154) #[] #[.pointer (some ⟨w.heap.size,0,none⟩)])/\w'=w.alloc (.cells #[.slice A len cap] 22):=by
 refine callsIn_of_wp func112 rfl trivial ?_ rfl;simp only[ntmps112,uco,uc7,udj,Nat.reduceAdd,Nat.reduceSub,ubk,ubl,ucw,ubv,udk,uc2]
 gi_wp2
 go_ret
 exact⟨rfl,rfl⟩
end Go.Proofs.YtgieagiaagoogaaGreat
namespace Go.Proofs.YtgieagiaagoogaaGreat
open Go Go.Ab Go.RowKit Go.Proofs Go.Shelf Tryz
open Go.Ab.Fr renaming val->Jv,need->Jd,br->Jb
attribute [local go_sem] Oper.semAt_some
def WG (w:World) (F:Nat->Prop) (day:Int) (x:Nat->az.den) (fr:Nat->Int) (len:Nat) (e:Ending) (w':World):Prop:=
 (e = .returned (.tuple #[.agg jH,.int .i64 7])/\∀ k,k<len->¬ fr k<=day) \/
 ∃ k d F',k<len/\fr k<=day/\(∀ j,k<j->j<len->¬ fr j<=day)/\e = .returned (.tuple #[iE d,.int .i64 0])/\bq w' F' az (x k) (iE d)/\(∀ b,F' b->(F b\/w.heap.size<=b)/\b<w'.heap.size)
def UQ {W:World} {B:Nat} {a0 a1 a2 a3 a4 a5 a6 a7 a8:Value} {t:TypeId} (h:W.heap[B]? = some (.cells #[a0,a1,a2,a3,a4,a5,a6,a7,a8] t (0,0))) (v0 v1 v2 v3 v4 v5 v6 v7 v8:Value) :
  (W.setCells B 0 [v0,v1,v2,v3,v4,v5,v6,v7,v8]).heap[B]? = some (.cells #[v0,v1,v2,v3,v4,v5,v6,v7,v8] t (0,0)):=by
 have h0:=ucz W B 0 _ t v0 h;rw[show(#[a0,a1,a2,a3,a4,a5,a6,a7,a8]:Array Value).setIfInBounds 0 v0 = #[v0,a1,a2,a3,a4,a5,a6,a7,a8] from rfl] at h0;have h1:=ucz _ B 1 _ t v1 h0;rw[show(#[v0,a1,a2,a3,a4,a5,a6,a7,a8]:Array Value).setIfInBounds 1 v1 = #[v0,v1,a2,a3,a4,a5,a6,a7,a8] from rfl] at h1;have h2:=ucz _ B 2 _ t v2 h1;rw[show(#[v0,v1,a2,a3,a4,a5,a6,a7,a8]:Array Value).setIfInBounds 2 v2 = #[v0,v1,v2,a3,a4,a5,a6,a7,a8] from rfl] at h2;have h3:=ucz _ B 3 _ t v3 h2;rw[show(#[v0,v1,v2,a3,a4,a5,a6,a7,a8]:Array Value).setIfInBounds 3 v3 = #[v0,v1,v2,v3,a4,a5,a6,a7,a8] from rfl] at h3;have h4:=ucz _ B 4 _ t v4 h3;rw[show(#[v0,v1,v2,v3,a4,a5,a6,a7,a8]:Array Value).setIfInBounds 4 v4 = #[v0,v1,v2,v3,v4,a5,a6,a7,a8] from rfl] at h4;have h5:=ucz _ B 5 _ t v5 h4;rw[show(#[v0,v1,v2,v3,v4,a5,a6,a7,a8]:Array Value).setIfInBounds 5 v5 = #[v0,v1,v2,v3,v4,v5,a6,a7,a8] from rfl] at h5;have h6:=ucz _ B 6 _ t v6 h5;rw[show(#[v0,v1,v2,v3,v4,v5,a6,a7,a8]:Array Value).setIfInBounds 6 v6 = #[v0,v1,v2,v3,v4,v5,v6,a7,a8] from rfl] at h6;have h7:=ucz _ B 7 _ t v7 h6;rw[show(#[v0,v1,v2,v3,v4,v5,v6,a7,a8]:Array Value).setIfInBounds 7 v7 = #[v0,v1,v2,v3,v4,v5,v6,v7,a8] from rfl] at h7;have h8:=ucz _ B 8 _ t v8 h7;exact h8
def EN {B k:Nat} (h:k≠B):(vs:List Value)->(o:Nat)->(W:World)->(W.setCells B o vs).heap[k]? = W.heap[k]?
 |[],_,_=>rfl
 |v::r,o,W=>(EN h r (o+1) _).trans (uci W _ k v h)
def L4 {B n:Nat} (h:n<=B):(vs:List Value)->(o:Nat)->(W:World)->Below n W (W.setCells B o vs)
 |[],_,W=>ufi n W
 |v::r,o,W=>((ufi n W).setCell h v).trans (L4 h r (o+1) _)
def L5 {B:Nat}:(vs:List Value)->(o:Nat)->(W:World)->KeepsOthers W (W.setCells B o vs)
 |[],_,W=>KeepsOthers.refl W
 |v::r,o,W=>(KeepsOthers.setCell W _ v).trans (L5 r (o+1) _)
def qpf {B:Nat} {W W':World} (h:Below W.heap.size W W'):KeepsFrom B W W':=
 ⟨h.size,λk o _ hk _=>(h.block k (uaf.1 hk).1).trans hk⟩
set_option maxRecDepth 100000 in
def NO {W:World} {R:Ending->World->Prop} {D z:Nat} {v0 v1 v2 v3 v4 v5 v6 v7 v8 a0 a1 a2 a3 a6 a7 a8 a9 a10 a11 a12 a13 a14 a15 a16 a17 a18 a19:Value} {n:Int}
  (z4:W.heap[z+2]? = some (.cells #[v0,v1,v2,v3,v4,v5,v6,v7,v8] 132 (0,0))) (z5:Boxed W (z+3) 57 (.int .i64 n)) (hK:W.heap[D]? = some (.deferred (some []))) (hD:z+5<=D)
  (hR:R (.returned (.tuple #[.agg #[v0,v1,v2,v3,v4,v5,v6,v7,v8],.int .i64 n])) (W.putObj D (.deferred none))) :
  bodyPostM Fence.wide 8 prog f76 R .ret { tmps:=#[a0,a1,a2,a3,.pointer (some ⟨z+1+1,0,none⟩),.pointer (some ⟨z+1+1+1,0,none⟩),a6,a7,a8,a9,a10,a11,a12,a13,a14,a15,a16,a17,a18,a19],defers:=[{ target:=.collected D,args:=#[] }] } W:=by
 have k4:=(World.putObj_heap_other (r:=D) (o:=.deferred none) (by omega)).trans z4;have k5:=(World.putObj_heap_other (r:=D) (o:=.deferred none) (by omega)).trans z5;have u0:=aU k4 0;have u1:=aU k4 1;have u2:=aU k4 2;have u3:=aU k4 3;have u4:=aU k4 4;have u5:=aU k4 5;have u6:=aU k4 6;have u7:=aU k4 7;have u8:=aU k4 8;have g5:=aU k5 0;refine⟨by simp,.inl ⟨_,_,rfl,run_takeDeferred hK,?_⟩⟩;refine⟨.tuple #[.agg #[v0,v1,v2,v3,v4,v5,v6,v7,v8],.int .i64 n],?_,hR⟩;simp[results,results76,go_sem,u0,u1,u2,u3,u4,u5,u6,u7,u8,g5]
set_option maxRecDepth 100000 in
set_option maxHeartbeats 4000000 in
def qbb (b off len cap:Nat) (day:Int) (c:Nat->VC) (x:Nat->az.den) (F:Nat->Prop) (w:World) (hlen:len<=1000000) (A:Option Addr) (hA:0<len->A=some ⟨b,off,none⟩/\b<w.heap.size) (hbF:∀ q,F q->q<w.heap.size)
  (hc:∀ k j u,k<len->(fK (c k))[j]? = some u->w.cell? ⟨b,off+(k*9+j),none⟩=some u)
  (hown:∀ k W,k<len->Below w.heap.size w W->Calls prog 113 #[iE (c k)] W λe w'=>∃ d,e = .returned (iE d)/\Below W.heap.size W w'/\N4 F (x k) d W w') :
  CallsIn Fence.wide 8 prog 76 #[.agg #[.slice A len cap],.int .i64 day] w λe w'=>WG w F day x (λk=>(c k).p 0) len e w'/\Below w.heap.size w w':=by
 refine callsIn_of_wp_marks func76 rfl trivial ?_ rfl;simp only[ntmps76,uco,uc7,udj,Nat.reduceAdd,Nat.reduceSub,ubk,ubl,ucw,ubv,udk,uc2]
 gi_wp2_with (refine⟨uT,?_⟩; gi_at_call 112; refine(qbg _ _ _ _ _).mono ?_; rintro e w' ⟨rfl,rfl⟩)
 have q1:=World.alloc_heap_new (w.alloc (.cells #[.slice A len cap] 24)) (.cells #[.int .i64 day] 3);have q2:=World.alloc_heap_new ((w.alloc (.cells #[.slice A len cap] 24)).alloc (.cells #[.int .i64 day] 3)) (.cells jH 132);have q3:=World.alloc_heap_new (((w.alloc (.cells #[.slice A len cap] 24)).alloc (.cells #[.int .i64 day] 3)).alloc (.cells jH 132)) (.cells #[.int .i64 0] 57);have q4:=World.alloc_heap_new ((((w.alloc (.cells #[.slice A len cap] 24)).alloc (.cells #[.int .i64 day] 3)).alloc (.cells jH 132)).alloc (.cells #[.int .i64 0] 57)) (.cells #[.slice A len cap] 22);have hbel:Below w.heap.size w (((((w.alloc (.cells #[.slice A len cap] 24)).alloc (.cells #[.int .i64 day] 3)).alloc (.cells jH 132)).alloc (.cells #[.int .i64 0] 57)).alloc (.cells #[.slice A len cap] 22)):=
  (((((ufi _ w).alloc (ufa _) _).alloc (by simp) _).alloc (by simp; omega) _).alloc (by simp; omega) _).alloc (by simp; omega) _
 have hsz:(((((w.alloc (.cells #[.slice A len cap] 24)).alloc (.cells #[.int .i64 day] 3)).alloc (.cells jH 132)).alloc (.cells #[.int .i64 0] 57)).alloc (.cells #[.slice A len cap] 22)).heap.size=w.heap.size+5:=by simp
 simp only[ude] at q1 q2 q3 q4;have r1:=(uc8 ((((w.alloc (.cells #[.slice A len cap] 24)).alloc (.cells #[.int .i64 day] 3)).alloc (.cells jH 132)).alloc (.cells #[.int .i64 0] 57)) (.cells #[.slice A len cap] 22) (w.heap.size+1) (by simp only[ude]; omega)).trans ((uc8 _ _ _ (by simp only[ude]; omega)).trans ((uc8 _ _ _ (by simp only[ude]; omega)).trans q1));have r2:=(uc8 ((((w.alloc (.cells #[.slice A len cap] 24)).alloc (.cells #[.int .i64 day] 3)).alloc (.cells jH 132)).alloc (.cells #[.int .i64 0] 57)) (.cells #[.slice A len cap] 22) (w.heap.size+1+1) (by simp only[ude]; omega)).trans ((uc8 _ _ _ (by simp only[ude]; omega)).trans q2);have r3:=(uc8 ((((w.alloc (.cells #[.slice A len cap] 24)).alloc (.cells #[.int .i64 day] 3)).alloc (.cells jH 132)).alloc (.cells #[.int .i64 0] 57)) (.cells #[.slice A len cap] 22) (w.heap.size+1+1+1) (by simp only[ude]; omega)).trans q3;unfold jH at hbel hsz r1 r2 r3 q4;obtain⟨W0,hW0⟩:∃ W0,((((w.alloc (.cells #[.slice A len cap] 24)).alloc (.cells #[.int .i64 day] 3)).alloc (.cells #[.int .i64 0,.int .i64 0,.int .i64 0,.int .i64 0,.int .i64 0,.slice none 0 0,.slice none 0 0,.slice none 0 0,.int .i64 0] 132)).alloc (.cells #[.int .i64 0] 57)).alloc (.cells #[.slice A len cap] 22)=W0:=⟨_,rfl⟩;rw[hW0] at hbel hsz r1 r2 r3 q4 |-;clear hW0 q1 q2 q3;have hI0:AtI w day (.slice A len cap) (λk=>(c k).p 0) ([]:List (Fin len)) W0:=⟨r1,r2,r3,q4,hbel,by omega,λk hk=>by cases hk⟩;refine wpIn_rangeFunc_ownH rfl (by omega) (gf:=154) (lb:=#[.pointer (some ⟨w.heap.size+1+1+1+1,0,none⟩)]) rfl trivial (enters_of func154 (by kernel_rfl) rfl)
  (α:=Fin len) (encs:=λ(k:Fin len)=>#[.int .i64 ((k.1:Nat):Int),iE (c k.1)]) (Kp:=dh w.heap.size (w.heap.size+4) (w.heap.size+4)) (S:=λys=>ys.map Fin.val=mW (λj=>len-1-j) len) (Sp:=λpre=>∃ k,k<=len/\pre.map Fin.val=mW (λj=>len-1-j) k) (N:=len) (w0:=W0)
  (λl J Jx W hW _ _ hY h0=>qbf 7 (by omega) l (w.heap.size+4) w.heap.size b off len cap (λk j=>(fK (c k)).getD j undef) hlen A hA J Jx hY W ((hW.block _ (by omega)).trans q4) (λk j hk hj=>have hb:=(hA (by omega)).2; ((hW.mono (by omega)).cell (p:=⟨b,off+(k*9+j),none⟩) hb).trans ((hbel.cell (p:=⟨b,off+(k*9+j),none⟩) hb).trans (hc k j _ hk (by match j,hj with|0,_|1,_|2,_|3,_|4,_|5,_|6,_|7,_|8,_=>rfl)))) h0)
  (λh k=>h.trans k) (λW l o o' hl ho hoc how=>⟨belowK_b (w:=w) (ufa _) W l o o' (by omega) ho hoc how,World.putObj_heap_other (by omega),World.putObj_heap_other (by omega)⟩) (ufi _ _) (λ_=>rfl)
  (λpre W=>AtI w day (.slice A len cap) (λk=>(c k).p 0) pre W)
  (λcd pre W=>AtX w F day x (λk=>(c k).p 0) cd pre W)
  (qa5 (by omega)) (qa9 (by omega)) hI0
  (λk a' W=>Ml W0.heap.size c (λk Bx=>{ tmps:=#[.agg #[.slice A len cap],.int .i64 day,.pointer (some ⟨w.heap.size,0,none⟩),.pointer (some ⟨w.heap.size+1,0,none⟩),.pointer (some ⟨w.heap.size+1+1,0,none⟩),.pointer (some ⟨w.heap.size+1+1+1,0,none⟩),undef,.pointer (some ⟨Bx,0,none⟩),
   .pointer (some ⟨w.heap.size,0,none⟩),.slice A len cap,.func (.func 154) #[] #[.pointer (some ⟨w.heap.size+1+1+1+1,0,none⟩)],.int .i64 (k:Int),iE (c k),undef,undef,undef,undef,undef,undef,undef],defers:=[] }) k.1 a' W)
  (λk a'=>qa3 k.1 a') ?assign ?body ?done ?stop
 case assign=>
  rintro l pre ⟨k,hkl⟩ W K hi hK;unfold iE fK
  gi_wp2
  have hsz1:=hi.sz;have hB:=(ufi w.heap.size W).alloc (by have:=hi.bel.size; omega) (.cells (fK (c k)) 132);exact hK _ _ ((KeepsOthers.alloc _ _).from _) (dh.below ((ufi _ W).alloc (ufa _) _) hi.bel.size (by omega) (by omega))
   ⟨hi.x3.alloc _,(uc8 _ _ _ (by omega)).trans hi.x4,hi.x5.alloc _,hi.xs.alloc _,hi.bel.alloc hi.bel.size _,by simp; omega,hi.no⟩ ⟨W.heap.size,by omega,World.alloc_heap_new W _,rfl⟩
 case body=>
  rintro l pre ⟨k,hkl⟩ a' W hl ⟨r,hr⟩ hi ⟨Bx,hBx,bX,rfl⟩ hlt;have bX':=bX;unfold fK at bX';have y0:=aU bX' 0;have y1:=aU bX' 1;have y2:=aU bX' 2;have y3:=aU bX' 3;have y4:=aU bX' 4;have y5:=aU bX' 5;have y6:=aU bX' 6;have y7:=aU bX' 7;have y8:=aU bX' 8;simp at y0 y1 y2 y3 y4 y5 y6 y7 y8;have c3:=hi.x3.cell;have hown':=hown k W hkl hi.bel;unfold iE fK at hown';clear bX' hr hc hown
  gi_wp2
  ·refine⟨uT,?_⟩;refine(CallsIn.inRound l (callsIn_wide.2 hown')).mono ?_;rintro e w1 ⟨d,rfl,hb1,hres⟩;have hsz1:=hi.sz;have z4:=(hb1.block (w.heap.size+2) (by omega)).trans hi.x4;have z5:w1.heap[w.heap.size+3]? = _:=(hb1.block (w.heap.size+3) (by omega)).trans hi.x5;unfold jH at z4;have u0:=aU z4 0;have u1:=aU z4 1;have u2:=aU z4 2;have u3:=aU z4 3;have u4:=aU z4 4;have u5:=aU z4 5;have u6:=aU z4 6;have u7:=aU z4 7;have u8:=aU z4 8;simp at u0 u1 u2 u3 u4 u5 u6 u7 u8;have ff:∀ j,w1.frozen? ⟨w.heap.size+2,j,none⟩=false:=λj=>by simp[World.frozen?,z4]
   have g5:=aU z5 0;have h5:w1.frozen? ⟨w.heap.size+3,0,none⟩=false:=by simp[World.frozen?,z5]
   gi_wp2
   have hday:(c k).p 0<=day:=by assumption
   have s4:=UQ z4 (.int .i64 (d.p 0)) (.int .i64 (d.p 1)) (.int .i64 (d.p 2)) (.int .i64 (d.p 3)) (.int .i64 (d.p 4)) (.slice (d.A 0) (d.l 0) (d.c 0)) (.slice (d.A 1) (d.l 1) (d.c 1)) (.slice (d.A 2) (d.l 2) (d.c 2)) (.int .i64 (d.p 5));have s5:Boxed (w1.setCells (w.heap.size+2) 0 [.int .i64 (d.p 0),.int .i64 (d.p 1),.int .i64 (d.p 2),.int .i64 (d.p 3),.int .i64 (d.p 4),.slice (d.A 0) (d.l 0) (d.c 0),.slice (d.A 1) (d.l 1) (d.c 1),.slice (d.A 2) (d.l 2) (d.c 2),.int .i64 (d.p 5)]) (w.heap.size+3) 57 (.int .i64 0):=(EN (by omega) _ _ _).trans z5;have kk:=L5 (B:=w.heap.size+2) [.int .i64 (d.p 0),.int .i64 (d.p 1),.int .i64 (d.p 2),.int .i64 (d.p 3),.int .i64 (d.p 4),.slice (d.A 0) (d.l 0) (d.c 0),.slice (d.A 1) (d.l 1) (d.c 1),.slice (d.A 2) (d.l 2) (d.c 2),.int .i64 (d.p 5)] 0 w1;have bb:=L4 (B:=w.heap.size+2) (n:=w.heap.size) (by omega) [.int .i64 (d.p 0),.int .i64 (d.p 1),.int .i64 (d.p 2),.int .i64 (d.p 3),.int .i64 (d.p 4),.slice (d.A 0) (d.l 0) (d.c 0),.slice (d.A 1) (d.l 1) (d.c 1),.slice (d.A 2) (d.l 2) (d.c 2),.int .i64 (d.p 5)] 0 w1;have oo:∀ q,q≠w.heap.size+2->(w1.setCells (w.heap.size+2) 0 [.int .i64 (d.p 0),.int .i64 (d.p 1),.int .i64 (d.p 2),.int .i64 (d.p 3),.int .i64 (d.p 4),.slice (d.A 0) (d.l 0) (d.c 0),.slice (d.A 1) (d.l 1) (d.c 1),.slice (d.A 2) (d.l 2) (d.c 2),.int .i64 (d.p 5)]).heap[q]? = w1.heap[q]? := λq hq=>EN hq _ _ _;show KeepsFrom _ W ((w1.setCells (w.heap.size+2) 0 [.int .i64 (d.p 0),.int .i64 (d.p 1),.int .i64 (d.p 2),.int .i64 (d.p 3),.int .i64 (d.p 4),.slice (d.A 0) (d.l 0) (d.c 0),.slice (d.A 1) (d.l 1) (d.c 1),.slice (d.A 2) (d.l 2) (d.c 2),.int .i64 (d.p 5)]).setCell ⟨w.heap.size+3,0,none⟩ (.int .i64 0))/\AtX w F day x (λk=>(c k).p 0) .ret (pre++[⟨k,hkl⟩]) ((w1.setCells (w.heap.size+2) 0 [.int .i64 (d.p 0),.int .i64 (d.p 1),.int .i64 (d.p 2),.int .i64 (d.p 3),.int .i64 (d.p 4),.slice (d.A 0) (d.l 0) (d.c 0),.slice (d.A 1) (d.l 1) (d.c 1),.slice (d.A 2) (d.l 2) (d.c 2),.int .i64 (d.p 5)]).setCell ⟨w.heap.size+3,0,none⟩ (.int .i64 0));generalize w1.setCells (w.heap.size+2) 0 [.int .i64 (d.p 0),.int .i64 (d.p 1),.int .i64 (d.p 2),.int .i64 (d.p 3),.int .i64 (d.p 4),.slice (d.A 0) (d.l 0) (d.c 0),.slice (d.A 1) (d.l 1) (d.c 1),.slice (d.A 2) (d.l 2) (d.c 2),.int .i64 (d.p 5)]=W2 at *;obtain⟨F',hF1,hF2⟩:=hres;have bel2:Below w.heap.size w W2:=(hi.bel.trans (hb1.mono hi.bel.size)).trans bb;have hne:∀ q,F' q->q≠w.heap.size+2/\q≠w.heap.size+3:=λq hq=>by
    have hs0:=hi.sz;rcases(hF2 q hq).1 with h|h
    ·have:=hbF q h;omega
    ·omega
   have hsame:∀ q,F' q->(W2.setCell ⟨w.heap.size+3,0,none⟩ (.int .i64 0)).heap[q]? = w1.heap[q]? := λq hq=>(uci _ _ q _ (hne q hq).2).trans (oo q (hne q hq).1);refine⟨(qpf hb1).trans ((kk.trans (KeepsOthers.setCell _ _ _)).from _),rfl,⟨pre,⟨k,hkl⟩,d,F',rfl,hi.no,hday,(uci _ _ _ _ (by show w.heap.size+2≠w.heap.size+3; omega)).trans s4,hF1.mono (λ_ h=>h) hsame,λq hq=>?_⟩,s5.set _,bel2.setCell (p:=⟨w.heap.size+3,0,none⟩) (by show w.heap.size<=w.heap.size+3; omega) _⟩;obtain⟨q1,arr,ty,p,q2⟩:=hF2 q hq;exact⟨q1.elim .inl (λh=>.inr (uen hi.bel.size h)),arr,ty,p,(hsame q hq).trans q2⟩
  ·have hday:¬ (c k).p 0<=day:=by simp_all
   exact⟨KeepsFrom.refl _ _,dh.refl _ _ _ _,hi.x3,hi.x4,hi.x5,hi.xs,hi.bel,hi.sz,λq hq=>(udq.1 hq).elim (hi.no q) (λe=>by simp at e; subst e; exact hday)⟩
 case done=>
  rintro D zs W hD hzs hi hK;have z4:=hi.x4;have z5:W.heap[w.heap.size+3]? = _:=hi.x5;unfold jH at z4;have u0:=aU z4 0;have u1:=aU z4 1;have u2:=aU z4 2;have u3:=aU z4 3;have u4:=aU z4 4;have u5:=aU z4 5;have u6:=aU z4 6;have u7:=aU z4 7;have u8:=aU z4 8;simp at u0 u1 u2 u3 u4 u5 u6 u7 u8;have ff:∀ j,W.frozen? ⟨w.heap.size+2,j,none⟩=false:=λj=>by simp[World.frozen?,z4]
  have g5:=aU z5 0;have h5:W.frozen? ⟨w.heap.size+3,0,none⟩=false:=by simp[World.frozen?,z5]
  clear hown hc
  gi_wp2
  have s4:=UQ z4 (.int .i64 0) (.int .i64 0) (.int .i64 0) (.int .i64 0) (.int .i64 0) (.slice none 0 0) (.slice none 0 0) (.slice none 0 0) (.int .i64 0);have s5:Boxed (W.setCells (w.heap.size+2) 0 [.int .i64 0,.int .i64 0,.int .i64 0,.int .i64 0,.int .i64 0,.slice none 0 0,.slice none 0 0,.slice none 0 0,.int .i64 0]) (w.heap.size+3) 57 (.int .i64 0):=(EN (by omega) _ _ _).trans z5;have kk:=(L5 (B:=w.heap.size+2) [.int .i64 0,.int .i64 0,.int .i64 0,.int .i64 0,.int .i64 0,.slice none 0 0,.slice none 0 0,.slice none 0 0,.int .i64 0] 0 W).same D _ hK rfl;have bb:=hi.bel.trans (L4 (B:=w.heap.size+2) (n:=w.heap.size) (by omega) [.int .i64 0,.int .i64 0,.int .i64 0,.int .i64 0,.int .i64 0,.slice none 0 0,.slice none 0 0,.slice none 0 0,.int .i64 0] 0 W);have kk':=(KeepsOthers.setCell (W.setCells (w.heap.size+2) 0 [.int .i64 0,.int .i64 0,.int .i64 0,.int .i64 0,.int .i64 0,.slice none 0 0,.slice none 0 0,.slice none 0 0,.int .i64 0]) ⟨w.heap.size+3,0,none⟩ (.int .i64 7)).same D _ kk rfl;have bb':=bb.setCell (p:=⟨w.heap.size+3,0,none⟩) (by show w.heap.size<=w.heap.size+3; omega) (.int .i64 7);refine NO ((uci _ _ _ _ (by show w.heap.size+2≠w.heap.size+3; omega)).trans s4) (s5.set (.int .i64 7)) kk' (by omega) ⟨.inl ⟨rfl,λk hk=>?_⟩,bb'.trans (belowK_b (w:=w) (ufa _) _ D _ _ (by omega) kk' rfl rfl)⟩;have hm:k∈zs.map Fin.val:=by
   rw[hzs];exact ue7.2 ⟨len-1-k,ud7.2 (by omega),by show len-1-(len-1-k)=k; omega⟩
  obtain⟨q,hq,rfl⟩:=ue7.1 hm;exact hi.no q hq
 case stop=>
  rintro D cd pre W hD ⟨m,hm,hpre⟩ h hK;obtain rfl:=h.ret
  gi_wp2
  obtain⟨ini,k,d,F',e1,e2,e3,e4,e5,e6⟩:=h.res;refine NO e4 h.x5 hK (by omega) ⟨.inr ⟨k.1,d,F',k.2,e3,λj hj1 hj2=>?_,rfl,?_,λq hq=>?_⟩,h.bel.trans (belowK_b (w:=w) (ufa _) _ D _ _ (by omega) hK rfl rfl)⟩
  ·subst e1;have hl:=ufv List.length hpre;rw[Q5,ud0,ub4] at hl;obtain rfl:m=ini.length+1:=by simpa using hl.symm
   rw[I8,udu] at hpre;obtain⟨h2,h3⟩:=List.append_inj' hpre rfl;have hlast:k.1=len-1-ini.length:=by simpa using h3
   have hin:j∈(ini.map Fin.val):=by
    rw[h2];exact ue7.2 ⟨len-1-j,ud7.2 (by omega),by show len-1-(len-1-j)=j; omega⟩
   obtain⟨q,hq,rfl⟩:=ue7.1 hin;exact e2 q hq
  ·refine e5.mono (λ_ h=>h) (λq hq=>?_);obtain⟨_,arr,ty,p,hc2⟩:=e6 q hq;exact World.putObj_heap_other (λe=>by subst e; rw[hK] at hc2; cases hc2)
  ·obtain⟨h1,arr,ty,p,hc2⟩:=e6 q hq;refine⟨h1,?_⟩;have:=(uaf.1 hc2).1;simpa[World.putObj] using this
end Go.Proofs.YtgieagiaagoogaaGreat
namespace Go.Proofs.YtgieagiaagoogaaGreat
open Go Go.Ab Go.RowKit Go.Proofs Go.Shelf Tryz
open Go.Ab.Fr renaming val->Jv,need->Jd,br->Jb
def ze9 {w:World} {F:Nat->Prop} {l:List az.den} {v:Value} (h:aD w F (.sl az) l (λ_ u=>u=v)) :
  ∃ (A:Option Addr) (cap:Nat) (b off:Nat) (c:Nat->VC),v = .slice A l.length cap/\(0<l.length->A=some ⟨b,off,none⟩/\F b) /\
   (∀ k j u,k<l.length->(fK (c k))[j]? = some u->w.cell? ⟨b,off+(k*9+j),none⟩=some u)/\∀ k x,l[k]? = some x->(c k).p 0=x.1/\bq w F az x (iE (c k)):=by
 obtain⟨A,cap,h0,h1,h2,h3⟩:=h;by_cases hp:0<l.length
 ·obtain⟨ad,hA,hF,hc⟩:=h3 0 l[0] (uap hp);have hsp:ad.spot=none:=by
   have hc':w.cell? (ad.add (0*az.size+0))=some (.int .i64 l[0].1):=hc.1.1;have he:ad.add (0*az.size+0)=ad:=by simp[Addr.add]
   rw[he] at hc';unfold World.cell? at hc';split at hc'
   ·split at hc'
    ·cases hc'
    ·rename_i hsp;cases hsp2:ad.spot with
     |none=>rfl
     |some _=>rw[hsp2] at hsp; exact absurd rfl hsp
   ·cases hc'
  obtain⟨b,off,sp⟩:=ad;simp only at hsp;subst hsp;have hall:∀ k,∃ d:VC,∀ x,l[k]? = some x->(∀ j u,(fK d)[j]? = some u->w.cell? ⟨b,off+(k*9+j),none⟩=some u)/\d.p 0=x.1/\bq w F az x (iE d):=by
   intro k;cases hk:l[k]? with
   |none=>exact⟨⟨λ_=>0,λ_=>none,λ_=>0,λ_=>0⟩,λx hx=>by cases hx⟩
   |some x=>
    obtain⟨ad',hA',_,hr⟩:=h3 k x hk;rw[hA] at hA';cases hA';obtain⟨d,hd,hd0⟩:=Wk hr;refine⟨d,λy hy=>?_⟩;cases hy;have hcell:∀ j u,(fK d)[j]? = some u->w.cell? ⟨b,off+(k*9+j),none⟩=some u:=λj u hj=>by
     have:=hd j u hj;rw[show az.size=9 from rfl] at this;have e:(⟨b,off,none⟩:Addr).add (k*9+j)=⟨b,off+(k*9+j),none⟩:=by unfold Addr.add; split<;>simp_all
     rw[e] at this;exact this
    refine⟨hcell,hd0,rfl,⟨λ_=>⟨_,rfl⟩,λ_=>rfl⟩,?_⟩;refine hr.mono (λ_ h=>h) (λ_ _=>rfl) λj u hj hu=>?_;have hj9:j<(fK d).size:=hj;have h2:=hd j (fK d)[j] (uam hj9);have h3:some u=some (fK d)[j]:=hu.symm.trans h2;show(fK d)[j]? = some u;rw[uam hj9];exact h3.symm
  obtain⟨c,hcc⟩:=Classical.axiomOfChoice hall;refine⟨A,cap,b,off,c,h0.symm,λ_=>⟨hA,hF⟩,λk j u hk hj=>(hcc k l[k] (uap hk)).1 j u hj,λk x hx=>(hcc k x hx).2⟩
 ·refine⟨A,cap,0,0,λ_=>⟨λ_=>0,λ_=>none,λ_=>0,λ_=>0⟩,h0.symm,λh=>absurd h hp,λk j u hk=>absurd hk (by omega),λk x hx=>?_⟩;have:=(uak.1 hx).1;omega
def Md (day:Int) (b:List az.den):(a:List az.den)->(∀ v∈a,¬ v.1<=day)->bB day (a++b)=bB day b
 |[],_=>rfl
 |v::a,h=>by
  have hv:¬ v.1<=day:=h v (by simp);have:bB day (v::a++b)=bB day (a++b):=if_neg hv;rw[this];exact Md day b a λx hx=>h x (by simp[hx])
def ze6 {day:Int} {l:List az.den} (h:∀ v∈l,¬ v.1<=day):bB day l.reverse=(iT,7):=by
 have:=Md day [] l.reverse λv hv=>h v (List.mem_reverse.1 hv);rw[udp] at this;exact this
def ze7 {day:Int} {l:List az.den} {k:Nat} {x:az.den} (hk:l[k]? = some x) (hx:x.1<=day) (h:∀ j y,k<j->l[j]? = some y->¬ y.1<=day):bB day l.reverse=(x,0):=by
 obtain⟨hlt,rfl⟩:=uak.1 hk;have hsplit:l=l.take k++l[k]::l.drop (k+1):=by
  rw[<- ual hlt,ua8]
 have hr:l.reverse=(l.drop (k+1)).reverse++(l[k]::(l.take k).reverse):=by
  conv=>lhs; rw[hsplit]
  simp
 rw[hr,Md]
 ·exact if_pos hx
 ·intro v hv;obtain⟨j,hj⟩:=ubq (List.mem_reverse.1 hv);rw[ubz] at hj;exact h _ v (by omega) hj
def bT (t:aP.den):Prop:=t.1.length<=1000000/\∀ v∈t.1,Me v
def yC:Ct:=⟨[.d aP,.d i64],[az,i64],λx=>((bB x.2.1 x.1.1.reverse).1,(bB x.2.1 x.1.1.reverse).2,()),λx=>[bT x.1]⟩
def qug (w:World) (F:Nat->Prop):bq w F az iT (.agg jH):=by
 have h0:inR .i64 0:=⟨by decide,by decide⟩;refine⟨rfl,⟨λ_=>⟨_,rfl⟩,λ_=>rfl⟩,⟨rfl,h0⟩,⟨⟨rfl,h0⟩,⟨rfl,h0⟩,⟨rfl,h0⟩,⟨rfl,h0⟩,uT⟩,?_,?_,?_,⟨rfl,h0⟩,uT⟩
 all_goals exact⟨none,0,rfl,ufa _,ufg _,λi x hx=>by simp[iT] at hx⟩
def TY {w:World} {F:Nat->Prop} {x:az.den} {n:Int} {u:Value} (h:bq w F az x u) (hn : -9223372036854775808<=n/\n<=9223372036854775807):ja w F [az,i64] (x,n,()) (.tuple #[u,.int .i64 n]):=
 ⟨_,rfl,_,_,rfl,h,_,_,rfl,⟨rfl,⟨λh=>(by cases h),λ⟨cs,h⟩=>(by cases h)⟩,rfl,hn⟩,rfl⟩
def zdl:aa prog 76 yC:=by
 refine⟨enters (fn:=f76) (by kernel_rfl) rfl rfl,λw F xs vs hbd hr hok=>?_⟩;obtain⟨⟨l,ut⟩,day,_⟩:=xs;obtain⟨va,vs',rfl,hva,vb,vs'',rfl,hvb,hn⟩:=hr;cases hn;have hva':bq w F aP (l,ut) va:=hva;have hvb':bq w F i64 day vb:=hvb;have hb2:vb = .int .i64 day:=by
  have h:aM prog w F (λ_ _=>True) (gL i64 day) vb:=jV hvb';exact h.2.1
 subst hb2;obtain⟨cs,rfl⟩:=hva'.2.1.1 rfl;have hs:cs.size=1:=hva'.1;obtain⟨hsl,_⟩:aD w F (.sl az) l (λj u=>cs[j]? = some u)/\True:=⟨hva'.2.2.1,uT⟩;have hcs:cs = #[cs.getD 0 undef]:=by
  apply ufo
  ·simp[hs]
  ·intro i h1 h2;have:i=0:=by omega
   subst this;simp[Array.getD,hs]
 rw[hcs];have hsl':aD w F (.sl az) l (λ_ u=>u=cs.getD 0 undef):=by
  obtain⟨A,c,h1,h2⟩:=hsl;refine⟨A,c,?_,h2⟩;simp[Array.getD,hs];rw[uam (by omega)] at h1;exact(ud1 h1).symm
 obtain⟨A,cap,b,off,c,e1,hA,hc,hx⟩:=ze9 hsl';rw[e1];obtain⟨hfew1,hfew2⟩:bT (l,ut):=hok;have key:=qbb b off l.length cap day c (λk=>l.getD k az.dflt) F w hfew1 A (λh=>⟨(hA h).1,hbd b (hA h).2⟩) hbd hc (λk W hk hW=>by
  obtain⟨_,h2⟩:=hx k l[k] (uap hk);have e:l.getD k az.dflt=l[k]:=by rw[uah,uap hk]; rfl
  rw[e];exact qw6 hbd hW h2 (hfew2 _ (udg hk)))
 refine(callsIn_wide.1 key).mono ?_;rintro e w' ⟨he,hbel⟩;rcases he with ⟨rfl,hno⟩|⟨k,d,F',hk,hday,hafter,rfl,hrep,hF'⟩
 ·have hv:bB day l.reverse=(iT,7):=ze6 λv hv=>by
   obtain⟨j,hj⟩:=ubq hv;have:=hno j (uak.1 hj).1;dsimp only at this;rw[(hx j v hj).1] at this;exact this
  refine⟨_,F,rfl,hbel,λ_ h=>h,λb hb=>⟨.inl hb,ub9 (hbd b hb) hbel.size⟩,?_⟩;show ja w' F [az,i64] ((bB day l.reverse).1,(bB day l.reverse).2,()) _;rw[hv];exact TY (qug _ _) (n:=7) (by decide)
 ·have hlk:l[k]? = some l[k]:=uap hk;have hv:bB day l.reverse=(l[k],0):=ze7 hlk (by dsimp only at hday; rw[(hx k _ hlk).1] at hday; exact hday) λj y hj hy=>by
   have:=hafter j hj (uak.1 hy).1;dsimp only at this;rw[(hx j y hy).1] at this;exact this
  have e:l.getD k az.dflt=l[k]:=by rw[uah,hlk]; rfl
  dsimp only at hrep;rw[e] at hrep;refine⟨_,λb=>F b\/F' b,rfl,hbel,λ_ h=>.inl h,λb hb=>?_,?_⟩
  ·rcases hb with h|h
   ·exact⟨.inl h,ub9 (hbd b h) hbel.size⟩
   ·exact hF' b h
  ·show ja w' _ [az,i64] ((bB day l.reverse).1,(bB day l.reverse).2,()) _;rw[hv];exact TY (hrep.mono (λ_ h=>.inr h) (λ_ _=>rfl)) (n:=0) (by decide)
open Go.Ab.Fr renaming val->Jv,need->Jd,br->Jb
attribute [local go_sem] Oper.semAt_some
def qas (Bn Ba Bo:Nat) (k:Int) (A:Option Addr) (len cap:Nat) (w:World) (hn:Boxed w Bn 3 (.int .i64 k)) (ha:Boxed w Ba 251 (.slice A len cap)) (ho:Boxed w Bo 4 (.bool false)) :
  CallsD prog 178 #[.pointer (some ⟨Bn,0,none⟩),.pointer (some ⟨Ba,0,none⟩),.pointer (some ⟨Bo,0,none⟩)] .returning w λe u' w'=>
   u' = .returning/\(∃ v,e = .returned v)/\w'=w.setCell ⟨Bo,0,none⟩ (.bool (decide (k=len))):=by
 have c1:=hn.cell;have c2:=ha.cell;have c3:=ho.cell;have f3:=ho.frozen
 go_enter_d func178,ntmps178
 go_wp2
 go_end0
 exact⟨⟨_,rfl⟩,by rw[Bool.beq_eq_decide_eq]⟩
structure AllI (w:World) (b off cap:Nat) (bs:Nat->Bool) (k:Nat) (W:World):Prop where
 x0:Boxed W w.heap.size 251 (.slice (some ⟨b,off,none⟩) 4 cap)
 x1:Boxed W (w.heap.size+1) 4 (.bool false)
 x2:Boxed W (w.heap.size+2) 3 (.int .i64 k)
 bel:Below w.heap.size w W
 sz:w.heap.size+3<=W.heap.size
 yes:∀ j,j<k->bs j=true
structure FourFn (w:World) (b off:Nat) (g:Nat->Nat) (caps:Nat->Array Value) (bs:Nat->Bool):Prop where
 blk:b<w.heap.size
 cell:∀ k,k<4->w.cell? ⟨b,off+k,none⟩=some (.func (.func (g k)) #[] (caps k))
 enter:∀ k,k<4->∀ args w,(callFunc (g k) args).run prog w = .ok (.enter (g k) args) w
 call:∀ k,k<4->∀ W,Below w.heap.size w W->Calls prog (g k) (caps k) W λe W'=>e = .returned (.bool (bs k))/\Below W.heap.size W W'
def NH {w W : World} {b off cap : Nat} {bs : Nat -> Bool} {k : Nat} {r : Bool} {a0 a4 a5 a7 a8 a9 a10 a11 a12 a13 a14 a15 a16 a17 a18 : Value} (hi : AllI w b off cap bs k W) (hr : decide ((k : Int) = (4 : Nat)) = r) :
    bodyPostD prog f137 (λe w' => e = .returned (.bool r) /\ Below w.heap.size w w') .ret
      { tmps := #[a0, .pointer (some ⟨w.heap.size, 0, none⟩), .pointer (some ⟨w.heap.size + 1, 0, none⟩), .pointer (some ⟨w.heap.size + 1 + 1, 0, none⟩), a4, a5, .func (.func 178) #[] #[.pointer (some ⟨w.heap.size + 1 + 1, 0, none⟩), .pointer (some ⟨w.heap.size, 0, none⟩), .pointer (some ⟨w.heap.size + 1, 0, none⟩)], a7, a8, a9, a10, a11, a12, a13, a14, a15, a16, a17, a18],
        defers := [{ target := .fn (.func 178) #[.pointer (some ⟨w.heap.size + 1 + 1, 0, none⟩), .pointer (some ⟨w.heap.size, 0, none⟩), .pointer (some ⟨w.heap.size + 1, 0, none⟩)], args := #[] }] } W := by
  refine uff (f := 178) (args := #[.pointer (some ⟨w.heap.size + 2, 0, none⟩), .pointer (some ⟨w.heap.size, 0, none⟩), .pointer (some ⟨w.heap.size + 1, 0, none⟩)]) (by simp) (by simp[go_sem]) ?_
  refine(qas (w.heap.size + 2) w.heap.size (w.heap.size + 1) k _ 4 cap W hi.x2 hi.x0 hi.x1).mono ?_
  rintro e u' w'' ⟨rfl, ⟨v, rfl⟩, rfl⟩
  have c := (hi.x1.set (.bool (decide ((k : Int) = (4 : Nat))))).cell
  have hb := hi.bel.setCell (p := ⟨w.heap.size + 1, 0, none⟩) (by show w.heap.size <= w.heap.size + 1; omega) (.bool (decide ((k : Int) = (4 : Nat))))
  rw[hr] at c hb |-
  refine⟨.bool r, ?_, rfl, hb⟩
  simp[results, results137, go_sem, c]
set_option maxRecDepth 100000 in
set_option maxHeartbeats 1000000 in
def qav (b off cap : Nat) (g : Nat -> Nat) (caps : Nat -> Array Value) (bs : Nat -> Bool) (w : World) (h : FourFn w b off g caps bs) :
    Calls prog 137 #[.slice (some ⟨b, off, none⟩) 4 cap] w λe w' => e = .returned (.bool (bs 0 && (bs 1 && (bs 2 && bs 3)))) /\ Below w.heap.size w w' := by
  have hmf : ∀ (fn : Fn) (first cap : Array Value) (w : World), (Instr.makeFunc fn first cap).run prog w = .ok (.func fn first cap) w := λ_ _ _ _ => rfl
  go_enter_defers func137, ntmps137
  go_wp2
  have z0 := (uc8 ((w.alloc (.cells #[.slice (some ⟨b, off, none⟩) 4 cap] 251)).alloc (.cells #[.bool false] 4)) (.cells #[.int .i64 0] 3) w.heap.size (by simp only[ude]; omega)).trans ((uc8 _ _ _ (by simp only[ude]; omega)).trans (World.alloc_heap_new w (.cells #[.slice (some ⟨b, off, none⟩) 4 cap] 251)))
  have z1' := World.alloc_heap_new (w.alloc (.cells #[.slice (some ⟨b, off, none⟩) 4 cap] 251)) (.cells #[.bool false] 4)
  rw[ude] at z1'
  have z1 := (uc8 ((w.alloc (.cells #[.slice (some ⟨b, off, none⟩) 4 cap] 251)).alloc (.cells #[.bool false] 4)) (.cells #[.int .i64 0] 3) (w.heap.size + 1) (by simp only[ude]; omega)).trans z1'
  have z2 : (((w.alloc (.cells #[.slice (some ⟨b, off, none⟩) 4 cap] 251)).alloc (.cells #[.bool false] 4)).alloc (.cells #[.int .i64 0] 3)).heap[w.heap.size + 2]? = some (.cells #[.int .i64 0] 3 (0, 0)) := by
    have := World.alloc_heap_new ((w.alloc (.cells #[.slice (some ⟨b, off, none⟩) 4 cap] 251)).alloc (.cells #[.bool false] 4)) (.cells #[.int .i64 0] 3)
    rwa [ude, ude] at this
  have hbel : Below w.heap.size w (((w.alloc (.cells #[.slice (some ⟨b, off, none⟩) 4 cap] 251)).alloc (.cells #[.bool false] 4)).alloc (.cells #[.int .i64 0] 3)) := (((ufi _ w).alloc (ufa _) _).alloc (by simp) _).alloc (by simp; omega) _
  have hsz : (((w.alloc (.cells #[.slice (some ⟨b, off, none⟩) 4 cap] 251)).alloc (.cells #[.bool false] 4)).alloc (.cells #[.int .i64 0] 3)).heap.size = w.heap.size + 3 := by simp
  have hI0 : AllI w b off cap bs 0 (((w.alloc (.cells #[.slice (some ⟨b, off, none⟩) 4 cap] 251)).alloc (.cells #[.bool false] 4)).alloc (.cells #[.int .i64 0] 3)) := ⟨z0, z1, z2, hbel, by omega, λj hj => by omega⟩
  go_loopw [9] (λi wr => ∃ k : Nat, k <= 4 /\ i = .int .i64 k /\ AllI w b off cap bs k wr)
    (λi _ => 4 - (intOf i).toNat)
  case atStart => exact⟨0, by omega, rfl, hI0⟩
  case round =>
    obtain⟨k, hk, rfl, hi⟩ := hrel
    by_cases hlt : k < 4
    · have hc : wr.cell? ⟨b, off + k, none⟩ = some (.func (.func (g k)) #[] (caps k)) := (hi.bel.cell (p := ⟨b, off + k, none⟩) h.blk).trans (h.cell k hlt)
      have he := h.enter k hlt
      have c2 := hi.x2.cell
      have f2 := hi.x2.frozen
      go_wp2
      refine(h.call k hlt wr hi.bel).mono ?_
      rintro e w1 ⟨rfl, hb1⟩
      have hs := hi.sz
      have y0 : Boxed w1 _ _ _ := (hb1.block _ (by omega)).trans hi.x0
      have y1 : Boxed w1 _ _ _ := (hb1.block (w.heap.size + 1) (by omega)).trans hi.x1
      have y2 : Boxed w1 _ _ _ := (hb1.block (w.heap.size + 2) (by omega)).trans hi.x2
      have hi1 : AllI w b off cap bs k w1 := ⟨y0, y1, y2, hi.bel.trans (hb1.mono hi.bel.size), uen hi.sz hb1.size, hi.yes⟩
      have d2 := y2.cell
      have e2 := y2.frozen
      clear hc he c2 f2
      cases hbk : bs k with
      | false =>
        go_wp2
        refine NH hi1 ?_
        have h4 : ¬ ((k : Int) = (4 : Nat)) := by omega
        rw[udt h4]
        have : k = 0 \/ k = 1 \/ k = 2 \/ k = 3 := by omega
        rcases this with rfl | rfl | rfl | rfl <;> rw[hbk] <;> simp
      | true =>
        go_wp2
        go_roundw
        case rel => exact⟨k + 1, by omega, by simp, y0.other (by omega) _, y1.other (by omega) _, y2.set _, hi1.bel.setCell (p := ⟨w.heap.size + 2, 0, none⟩) (by show w.heap.size <= w.heap.size + 2; omega) _, by simp; exact hi1.sz, λj hj => by
          by_cases hjk : j = k
          · rw[hjk]; exact hbk
          · exact hi.yes j (by omega)⟩
        case measure => simp[intOf]; omega
    · obtain rfl : k = 4 := by omega
      go_wp2
      refine NH hi ?_
      rw[hi.yes 0 (by omega), hi.yes 1 (by omega), hi.yes 2 (by omega), hi.yes 3 (by omega)]
      rfl
end Go.Proofs.YtgieagiaagoogaaGreat
namespace Go.Proofs.YtgieagiaagoogaaGreat
open Go Go.Ab Go.RowKit Go.Proofs Go.Shelf Tryz
open Go.Ab.Fr renaming val->Jv,need->Jd,br->Jb
attribute [local go_sem] Oper.semAt_some
noncomputable def Xr:Cx:=cx [(104,fz),(68,mO),(141,iF),(143,oG)] []
def Bz:CxOK prog Xr:=aJ aG ⟨Lf,S8,Lj,VD,uT⟩ trivial
def tq (k:Nat) (t:cr.den):Bool:=match k with
 |0=>(fz.f (t.1,())).1
 |1=>bif decide ((mO.f (t.1,())).1>=1) then decide ((mO.f (t.1,())).1<=1100) else false
 |2=>(iF.f (t.2.1,())).1
 |_=>(oG.f (t.2.2.1,())).1
def yD (k:Nat):Ct:=⟨[.ptr cr],[.bool],λx=>(tq k x.1,()),λ_=>[]⟩
def zdz:aa prog 138 (yD 0):=
 cg (aH Bz f138 (fr:=λx=>Jv (tq 0 x.1,())) (ps:=[.ptr cr]) (rs:=[.bool])) _ _ (λ_ _ _ _ _ _=>⟨uT,rfl⟩)
def zd0:aa prog 139 (yD 1):=
 cg (aH Bz f139 (fr:=λx=>Jv (tq 1 x.1,())) (ps:=[.ptr cr]) (rs:=[.bool])) _ _ (λ_ _ _ _ _ _=>⟨uT,rfl⟩)
def zd1:aa prog 140 (yD 2):=
 cg (aH Bz f140 (fr:=λx=>Jv (tq 2 x.1,())) (ps:=[.ptr cr]) (rs:=[.bool])) _ _ (λ_ _ _ _ _ _=>⟨uT,rfl⟩)
def zd2:aa prog 142 (yD 3):=
 cg (aH Bz f142 (fr:=λx=>Jv (tq 3 x.1,())) (ps:=[.ptr cr]) (rs:=[.bool])) _ _ (λ_ _ _ _ _ _=>⟨uT,rfl⟩)
def ev:Nat->Nat
 |0=>138
 |1=>139
 |2=>140
 |_=>142
def VL:(k:Nat)->k<4->aa prog (ev k) (yD k)
 |0,_=>zdz
 |1,_=>zd0
 |2,_=>zd1
 |3,_=>zd2
 |n+4,h=>absurd h (by omega)
def zd3 {a b:Int} (hf:dd (a,b,())=true):e9 (a,b,())=true/\decide (b-a>=1)=true:=by
 obtain⟨h1,h2,h3⟩:=jY.1 hf;refine⟨?_,?_⟩
 ·have h2':a<=b:=ues h2;simp only[e9,uc9,ucs];exact⟨h1,h2',h3⟩
 ·simp; omega
def zdt (t:cr.den):(tq 0 t&&(tq 1 t&&(tq 2 t&&tq 3 t)))=ft t:=by
 obtain⟨⟨a,b,_⟩,r,cs,_⟩:=t;show(e9 (a,b,())&&((bif decide (kV a b>=1) then decide (kV a b<=1100) else false)&&(jA r.1 r.2.1 r.2.2.1 r.2.2.2.1&&ji cs)))=(dd (a,b,())&&(decide (b-a<=1100)&&(jA r.1 r.2.1 r.2.2.1 r.2.2.2.1&&ji cs)));by_cases hf:dd (a,b,())=true
 ·have hm:kV a b=b-a:=if_pos hf;obtain⟨hr,hge⟩:=zd3 hf;rw[hm,hr,hf,hge];rfl
 ·have hm:kV a b=0:=if_neg hf;have hf':dd (a,b,())=false:=by simpa using hf
  rw[hm,hf'];simp
set_option maxRecDepth 100000 in
set_option maxHeartbeats 1000000 in
def zdr (c0 c1 c2 c3 c4 c5 c6:Value) (R:Ending->World->Prop) (w:World)
  (hall:∀ cap,Calls prog 137 #[.slice (some ⟨w.heap.size+1,0,none⟩) 4 cap] ((w.alloc (.cells #[c0,c1,c2,c3,c4,c5,c6] 36)).alloc (.cells #[.func (.func (ev 0)) #[] #[.pointer (some ⟨w.heap.size,0,none⟩)],.func (.func (ev 1)) #[] #[.pointer (some ⟨w.heap.size,0,none⟩)],.func (.func (ev 2)) #[] #[.pointer (some ⟨w.heap.size,0,none⟩)],.func (.func (ev 3)) #[] #[.pointer (some ⟨w.heap.size,0,none⟩)]] 47)) R)
  (hR:∀ e w',R e w'->∃ r,e = .returned (.bool r)) :
  Calls prog 98 #[.agg #[c0,c1,c2,c3,c4,c5,c6]] w R:=by
 have hmf:∀ (fn:Fn) (first cap:Array Value) (w:World),(Instr.makeFunc fn first cap).run prog w = .ok (.func fn first cap) w:=λ_ _ _ _=>rfl
 go_enter func98,ntmps98
 go_wp2_with (go_at_call 137; refine(hall 4).mono ?_; rintro e w' hRe; obtain⟨r,rfl⟩:=hR e w' hRe)
 exact hRe
def LN:aa prog 98 kE:=by
 refine⟨enters (fn:=f98) (by kernel_rfl) rfl rfl,λw F xs vs hbd hr _=>?_⟩;obtain⟨t,_⟩:=xs;obtain⟨va,vs',rfl,hva,hn⟩:=hr;cases hn;have hva':bq w F cr t va:=hva;obtain⟨cs,rfl⟩:=hva'.2.1.1 rfl;have hs:cs.size=7:=hva'.1;obtain⟨c0,c1,c2,c3,c4,c5,c6,rfl⟩:∃ c0 c1 c2 c3 c4 c5 c6,cs = #[c0,c1,c2,c3,c4,c5,c6]:=by
  refine⟨cs[0],cs[1],cs[2],cs[3],cs[4],cs[5],cs[6],?_⟩;apply ufo
  ·simp[hs]
  ·intro i h1 h2;have:i<7:=by omega
   match i,this with
   |0,_|1,_|2,_|3,_|4,_|5,_|6,_=>rfl
 have hsz:((w.alloc (.cells #[c0,c1,c2,c3,c4,c5,c6] 36)).alloc (.cells #[.func (.func (ev 0)) #[] #[.pointer (some ⟨w.heap.size,0,none⟩)],.func (.func (ev 1)) #[] #[.pointer (some ⟨w.heap.size,0,none⟩)],.func (.func (ev 2)) #[] #[.pointer (some ⟨w.heap.size,0,none⟩)],.func (.func (ev 3)) #[] #[.pointer (some ⟨w.heap.size,0,none⟩)]] 47)).heap.size=w.heap.size+2:=by simp
 have z0:=(uc8 (w.alloc (.cells #[c0,c1,c2,c3,c4,c5,c6] 36)) (.cells #[.func (.func (ev 0)) #[] #[.pointer (some ⟨w.heap.size,0,none⟩)],.func (.func (ev 1)) #[] #[.pointer (some ⟨w.heap.size,0,none⟩)],.func (.func (ev 2)) #[] #[.pointer (some ⟨w.heap.size,0,none⟩)],.func (.func (ev 3)) #[] #[.pointer (some ⟨w.heap.size,0,none⟩)]] 47) w.heap.size (by simp only[ude]; omega)).trans (World.alloc_heap_new w (.cells #[c0,c1,c2,c3,c4,c5,c6] 36));have z1:=World.alloc_heap_new (w.alloc (.cells #[c0,c1,c2,c3,c4,c5,c6] 36)) (.cells #[.func (.func (ev 0)) #[] #[.pointer (some ⟨w.heap.size,0,none⟩)],.func (.func (ev 1)) #[] #[.pointer (some ⟨w.heap.size,0,none⟩)],.func (.func (ev 2)) #[] #[.pointer (some ⟨w.heap.size,0,none⟩)],.func (.func (ev 3)) #[] #[.pointer (some ⟨w.heap.size,0,none⟩)]] 47);have hbel:Below w.heap.size w ((w.alloc (.cells #[c0,c1,c2,c3,c4,c5,c6] 36)).alloc (.cells #[.func (.func (ev 0)) #[] #[.pointer (some ⟨w.heap.size,0,none⟩)],.func (.func (ev 1)) #[] #[.pointer (some ⟨w.heap.size,0,none⟩)],.func (.func (ev 2)) #[] #[.pointer (some ⟨w.heap.size,0,none⟩)],.func (.func (ev 3)) #[] #[.pointer (some ⟨w.heap.size,0,none⟩)]] 47)):=((ufi _ w).alloc (ufa _) _).alloc (by simp) _;refine(zdr c0 c1 c2 c3 c4 c5 c6 (λe w'=>e = .returned (.bool (ft t))/\Below w.heap.size w w') w (λcap=>?_) (λe w' h=>⟨_,h.1⟩)).mono ?_
 ·rw[ude] at z1;generalize ((w.alloc (.cells #[c0,c1,c2,c3,c4,c5,c6] 36)).alloc (.cells #[.func (.func (ev 0)) #[] #[.pointer (some ⟨w.heap.size,0,none⟩)],.func (.func (ev 1)) #[] #[.pointer (some ⟨w.heap.size,0,none⟩)],.func (.func (ev 2)) #[] #[.pointer (some ⟨w.heap.size,0,none⟩)],.func (.func (ev 3)) #[] #[.pointer (some ⟨w.heap.size,0,none⟩)]] 47))=W0 at *;have hf:FourFn W0 (w.heap.size+1) 0 ev (λ_=>#[.pointer (some ⟨w.heap.size,0,none⟩)]) (λk=>tq k t):=by
   refine⟨by omega,λk hk=>?_,λk hk=>(VL k hk).1,λk hk W hW=>?_⟩
   ·rw[uew,aU z1 k]
    match k,hk with
    |0,_|1,_|2,_|3,_=>rfl
   ·have hz:W.heap[w.heap.size]? = _:=(hW.block _ (by omega)).trans z0;have hrep:aD W (λb=>F b\/b=w.heap.size) cr t (λj u=>W.cell? ((⟨w.heap.size,0,none⟩:Addr).add j)=some u):=by
     refine hva'.2.2.mono (λ_ h=>.inl h) (λb hb=>(hW.block b (by have:=hbd b hb; omega)).trans (hbel.block b (hbd b hb))) λj u _ hu=>?_;have e:(⟨w.heap.size,0,none⟩:Addr).add j=⟨w.heap.size,j,none⟩:=by unfold Addr.add; split<;>simp_all
     rw[e,aU hz j];exact hu
    refine((VL k hk).2 W (λb=>F b\/b=w.heap.size) (t,()) [.pointer (some ⟨w.heap.size,0,none⟩)] (λb hb=>?_) ⟨_,[],rfl,⟨⟨w.heap.size,0,none⟩,rfl,.inr rfl,hrep⟩,rfl⟩ trivial).mono ?_
    ·have:=hW.size;rcases hb with h|h
     ·have:=hbd b h; omega
     ·omega
    ·rintro e W' ⟨v,F',rfl,hb',_,_,hv⟩;have hv':aM prog W' F' (λ_ _=>True) (gL .bool (tq k t)) v:=jV hv;exact⟨by rw[show v = .bool (tq k t) from hv'.2],hb'⟩
  refine(qav (w.heap.size+1) 0 cap ev _ (λk=>tq k t) W0 hf).mono ?_;rintro e w' ⟨rfl,hb⟩;rw[zdt];exact⟨rfl,hbel.trans (hb.mono (by omega))⟩
 ·rintro e w' ⟨rfl,hb⟩;exact⟨_,F,rfl,hb,λ_ h=>h,λb h=>⟨.inl h,ub9 (hbd b h) hb.size⟩,rfl,⟨λh=>(by cases h),λ⟨cs,h⟩=>(by cases h)⟩,rfl⟩
end Go.Proofs.YtgieagiaagoogaaGreat
namespace Go.Proofs.YtgieagiaagoogaaGreat
open Go Go.Ab Go.RowKit Go.Proofs Tryz
open Go.Ab.Fr renaming val->Jv,need->Jd,br->Jb
attribute [local go_sem] Oper.semAt_some
abbrev yO:List (Int×Nat):=[(1,179),(2,180),(3,181),(4,182)]
def B8 (w:World) (r:Nat) (es:List (Int×Nat)):Prop:=∃ arr ck,w.heap[r]? = some (.map arr ck)/\arr.toList.map (λe=>(e.key,e.val))=es.map (λx=>(Value.int .i64 x.1,Value.func (.func x.2) #[] #[]))
def DD {P:Program} {w:World} {t kt et:TypeId} {r f:Nat} {es:List (Int×Nat)} {n:Int} (ht:P.underlying t=some (.map kt et)) (hk:P.underlying kt=some (.int .i64))
  (h:B8 w r es) (hn:es.find? (λx=>x.1==n)=none) :
  ∃ w',(Instr.mapUpdate t (.map (some r)) (.int .i64 n) (.func (.func f) #[] #[])).run P w = .ok () w'/\B8 w' r (es++[(n,f)])/\w'.heap.size=w.heap.size/\(∀ b,b≠r->w'.heap[b]? = w.heap[b]?)/\w'.os=w.os/\w'.tape=w.tape/\w'.output=w.output:=by
 obtain⟨arr,ck,hr,he⟩:=h;obtain⟨j,hj⟩:=I5 (n:=n) arr.toList es 0 he;rw[hn] at hj;have hck:(Instr.checkKey false 10000 kt (.int .i64 n)).run P w = .ok () w:=OE hk false 9999 n;have hob:(getObj r).run P w = .ok (.map arr ck) w:=by simp[getObj,Sem.run,hr]
 have hlt:r<w.heap.size:=(uaf.1 hr).1;refine⟨{ w with heap:=w.heap.setIfInBounds r (.map (arr.push { key:=.int .i64 n,val:=.func (.func f) #[] #[],born:=ck }) (ck+1)) },?_,?_,?_,?_,rfl,rfl,rfl⟩
 ·simp[Instr.mapUpdate,ud3 ht,hob,hck,Instr.findKey,ud3 hk,hj,Go.MapKept.run_setObj_map _ hr]
 ·refine⟨_,_,by simp[hlt]; exact⟨rfl,rfl⟩,?_⟩;simp[he]
 ·simp
 ·intro b hb;simp[Array.getElem?_setIfInBounds,Ne.symm hb]
def Fo:prog.underlying 224=some (.map 3 176):=by kernel_rfl
def Fp:prog.underlying 3=some (.int .i64):=by kernel_rfl
set_option maxRecDepth 100000 in
set_option maxHeartbeats 1000000 in
def qcj (w:World):Calls prog 144 #[] w λe w'=>e = .returned (.map (some w.heap.size))/\B8 w' w.heap.size yO/\Below w.heap.size w w'/\w'.heap.size=w.heap.size+1:=by
 have hmm:=@run_makeMap prog;have s0:B8 (w.alloc (.map #[] 0)) w.heap.size []:=⟨#[],0,by show(w.heap.push _)[w.heap.size]? = _; exact Array.getElem?_push_size,rfl⟩
 go_enter func144,ntmps144
 obtain⟨w1,r1,m1,z1,o1,a1,b1,c1⟩:=DD (n:=1) (f:=179) Fo Fp s0 rfl;obtain⟨w2,r2,m2,z2,o2,a2,b2,c2⟩:=DD (n:=2) (f:=180) Fo Fp m1 rfl;obtain⟨w3,r3,m3,z3,o3,a3,b3,c3⟩:=DD (n:=3) (f:=181) Fo Fp m2 rfl;obtain⟨w4,r4,m4,z4,o4,a4,b4,c4⟩:=DD (n:=4) (f:=182) Fo Fp m3 rfl
 go_wp2
 go_ret
 refine⟨rfl,m4,⟨?_,?_,?_,?_,?_⟩,?_⟩
 ·rw[a4,a3,a2,a1]; rfl
 ·rw[b4,b3,b2,b1]; rfl
 ·rw[c4,c3,c2,c1]; rfl
 ·rw[z4,z3,z2,z1,World.alloc,Array.size_push]; omega
 ·intro b hb;rw[o4 b (by omega),o3 b (by omega),o2 b (by omega),o1 b (by omega),World.alloc];rw[Array.getElem?_push_lt hb,uam hb]
 ·rw[z4,z3,z2,z1,World.alloc,Array.size_push]
def Og:Ct:=⟨[],[.fm yO],λ_=>((),()),λ_=>[]⟩
def qci:aa prog 144 Og:=by
 refine⟨enters (fn:=f144) (by kernel_rfl) rfl rfl,λw F xs vs hb hr _=>?_⟩;have hv:vs=[]:=hr;subst hv;refine(qcj w).mono ?_;rintro e w' ⟨rfl,⟨arr,ck,hr,he⟩,hbel,hsz⟩;refine⟨_,λb=>F b\/b=w.heap.size,rfl,hbel,λb h=>.inl h,λb h=>⟨h.elim .inl (λh=>.inr (by omega)),h.elim (λh=>by have:=hb b h; omega) (λh=>by omega)⟩,?_⟩;refine⟨rfl,⟨λh=>(by cases h),λ⟨cs,h⟩=>(by cases h)⟩,w.heap.size,arr,ck,rfl,.inr rfl,hr,he⟩
end Go.Proofs.YtgieagiaagoogaaGreat
namespace Go.Proofs.YtgieagiaagoogaaGreat
open Go Go.Ab Go.RowKit Go.Proofs Tryz
open Go.Ab.Fr renaming val->Jv,need->Jd,br->Jb
noncomputable def Xj:Cx:=cx [(144,Og),(145,uZ),(179,GN),(180,GO),(181,GP),(182,GQ)] []
def Xk:CxOK prog Xj:=aJ aG ⟨qci,P5,qcq,qcr,qcs,qct,uT⟩ trivial
def sw (c:ar.den):Bool:=bif bif (yO.find? (λx=>x.1==c.2.2.1)).isSome then (uZ.f (c.1,())).1 else false then (uZ.f (c.2.1,())).1 else false
def Jg (x:aq [.d ar]):Fr (ae [.bool]):=
 let a:=x.1.2.2.1;Jd (sw x.1=true->a=1->True)
  (Jd (sw x.1=true->a≠1->(a=2->True)/\(a≠2->(a=3->True)/\(a≠3->a=4)))
   (Jv (bif sw x.1 then (bif a==1 then GN.f (x.1,()) else bif a==2 then GO.f (x.1,()) else bif a==3 then GP.f (x.1,()) else GQ.f (x.1,())).1 else false,())))
def qcp (k:Int):(yO.find? (λx=>x.1==k)).isSome=decide (k=1\/k=2\/k=3\/k=4):=by
 rw[udv];simp only[List.find?_isSome,yO,ueg,udh,or_false,ufh,ucs];constructor
 ·rintro⟨x,rfl|rfl|rfl|rfl,h⟩
  ·exact .inl h.symm
  ·exact .inr (.inl h.symm)
  ·exact .inr (.inr (.inl h.symm))
  ·exact .inr (.inr (.inr h.symm))
 ·rintro(h|h|h|h)
  ·exact⟨(1,179),.inl rfl,h.symm⟩
  ·exact⟨(2,180),.inr (.inl rfl),h.symm⟩
  ·exact⟨(3,181),.inr (.inr (.inl rfl)),h.symm⟩
  ·exact⟨(4,182),.inr (.inr (.inr rfl)),h.symm⟩
def qch (c:ar.den):(Jg (c,())).ok/\(Jg (c,())).get=(dF c,()):=by
 have hk:=qcp c.2.2.1;have hg:sw c=true->c.2.2.1=1\/c.2.2.1=2\/c.2.2.1=3\/c.2.2.1=4:=by
  intro h;unfold sw at h;rw[hk] at h;by_cases hd:c.2.2.1=1\/c.2.2.1=2\/c.2.2.1=3\/c.2.2.1=4
  ·exact hd
  ·rw[udt hd] at h;cases h
 refine⟨⟨λ_ _=>uT,λh hn=>⟨λ_=>uT,λh2=>⟨λ_=>uT,λh3=>?_⟩⟩,uT⟩,?_⟩
 ·rcases hg h with h1|h1|h1|h1
  ·exact absurd h1 hn
  ·exact absurd h1 h2
  ·exact absurd h1 h3
  ·exact h1
 ·show(bif sw c then (bif c.2.2.1==1 then (yP c,()) else bif c.2.2.1==2 then (yQ c,()) else bif c.2.2.1==3 then (yR c,()) else (yS c,())).1 else false,())=(dF c,());unfold sw dF zX;rw[hk];show((bif bif bif _ then eO c.1 else false then eO c.2.1 else false then _ else false),())=_;by_cases h1:c.2.2.1=1
  ·simp only[h1,true_or,decide_true,ufr,beq_self_eq_true,if_true];cases eO c.1<;>cases eO c.2.1<;>rfl
  ·by_cases h2:c.2.2.1=2
   ·simp[h2];cases eO c.1<;>cases eO c.2.1<;>rfl
   ·by_cases h3:c.2.2.1=3
    ·simp[h3];cases eO c.1<;>cases eO c.2.1<;>rfl
    ·by_cases h4:c.2.2.1=4
     ·simp[h4];cases eO c.1<;>cases eO c.2.1<;>rfl
     ·simp[h1,h2,h3,h4]
def Hw:aa prog 99 hP:=
 conv (aH Xk f99 (fr:=Jg) (ps:=[.d ar]) (rs:=[.bool])) _ _
  (λ_ _ x _ _ _=>by
   obtain⟨c,_⟩:=x;obtain⟨h1,h2⟩:=qch c;exact⟨h1,h2⟩)
open Go.Ab.Fr renaming val->Jv,need->Jd,br->Jb
noncomputable def Xh:Cx:=cx [(99,hP),(98,kE),(43,eN)] []
def Mu:CxOK prog Xh:=aJ aG ⟨Hw,LN,sL,uT⟩ trivial
abbrev nW:Pt:=⟨34,0,⟨[(8,.d i64),(7,.d i64),(6,.d (.sl ar))],[.x 1 54 ap,.r 1 1 0]⟩,⟨[],[.x 1 54 ap,.r 1 1 0]⟩,⟨[(2,.d .bool)],[]⟩⟩
abbrev tU:Type:=aq []×bW [.x 1 54 ap,.r 1 1 0]
def Bc (e:ar.den) (s:tU):Fr (tU ⊕ nW.R.X):=
 Jb (bif !(hP.f (e,())).1 then true else !(eN.f (s.2.1.2.2.1.1,e.2.1,())).1) (Jv (.inr ((false,()),()))) (Jv (.inl ((),s.2.1,())))
def rC (x:nW.M.X):Int×List ar.den×tU:=(x.1.1,x.1.2.2.1,x.1.2.2.2,x.2)
def RD (x:nW.M.X):Prop:=x.1.2.1=(x.1.2.2.1.length:Int)
def Ao (s:tU):nW.E.X:=((),s.2.1,())
def zc:tU:=(aW _,aZ _)
def HH:nW.R.X:=(aW _,aZ _)
def qtw:ah prog (.loop (aC f75 0)) nW.M nW (FL Bc rC RD Ao Rd.back zc HH):=
 ln Mu (λ_ _=>.n .o) ar.dflt (λx=>x.1.2.1) (λx s=>((I6.wrap (x.1.1+1),x.1.2.1,x.1.2.2.1,s.1),s.2)) (λ_ h=>h)
def pr (y:nW.M.X):tU ⊕ nW.R.X:=bc Bc ((rC y).2.1.drop (rC y).1.toNat) (rC y).2.2
def qvu (y:nW.M.X):Prop:=d7 Bc ((rC y).2.1.drop (rC y).1.toNat) (rC y).2.2
open Go.Ab.Fr renaming val->Jv,need->Jd,br->Jb
def qlj (x:aq [.d ap]):Fr (ae [.bool]):=
 let a:=((0,((List.length x.1.2.2.2.1):Int),x.1.2.2.2.1,()),x.1,());let c:=pr a;let b:=Ao (cZ zc c);Jd (InL (RD a) (rC a)) (Jd (qvu a) (Jb (bi c) (Jv (bif (kE.f (b.2.1.2.2.1,())).1 then decide (((List.length b.2.1.2.2.2.1):Int)<=2000) else false,())) (Jv ((ba HH c).1.1,()))))
def qlk:aa prog 75 (aL [.d ap] [.bool] qlj):=
 bz Mu qtw
def zcg (e:ar.den) (s:tU):(Bc e s).get=if (dF e&&cE s.2.1.2.2.1.1.1 s.2.1.2.2.1.1.2.1 e.2.1)=true then .inl s else .inr ((false,()),()):=by
 show(if (bif !(dF e) then true else !(cE s.2.1.2.2.1.1.1 s.2.1.2.2.1.1.2.1 e.2.1))=true then _ else _)=_;cases dF e<;>cases cE s.2.1.2.2.1.1.1 s.2.1.2.2.1.1.2.1 e.2.1<;>rfl
def qg0 {T σ:Type} (l:List T) (s:σ):kL (λ(_:T) (s:σ)=>s) l s=s:=by
 induction l with
 |nil=>rfl
 |cons e r ih=>exact ih
def qz7:aa prog 75 vi:=
 conv qlk _ _ (λw F x vs hr _=>by
  obtain⟨h,_⟩:=x;obtain⟨v,vs',rfl,hv,_⟩:=hr;have hwf:=aD.wf hv.2.2;have hlen:(h.2.2.2.1.length:Int)<=9223372036854775807:=np hwf.2.2.2.1.1;refine⟨⟨⟨rfl,ufb _,ub2 _,hlen⟩,iv (step:=Bc) (λe s=>⟨λ_=>uT,λ_=>uT⟩) _ _,λ_=>uT,λ_=>uT⟩,?_⟩;have hres:=lz (f:=λ_ s=>s) zcg h.2.2.2.1 ((),(h,()));rw[NG,qg0] at hres;have hres':pr ((0,(h.2.2.2.1.length:Int),h.2.2.2.1,()),(h,()))=if (h.2.2.2.1.all λc=>dF c&&cE h.2.2.1.1.1 h.2.2.1.1.2.1 c.2.1)=true then .inl ((),(h,())) else .inr ((false,()),()):=hres
  show(if bi (pr ((0,(h.2.2.2.1.length:Int),h.2.2.2.1,()),(h,())))=true then
   ((bif ft (Ao (cZ zc (pr ((0,(h.2.2.2.1.length:Int),h.2.2.2.1,()),(h,()))))).2.1.2.2.1 then decide (((Ao (cZ zc (pr ((0,(h.2.2.2.1.length:Int),h.2.2.2.1,()),(h,()))))).2.1.2.2.2.1.length:Int)<=2000) else false,()):Bool×Unit)
   else ((ba HH (pr ((0,(h.2.2.2.1.length:Int),h.2.2.2.1,()),(h,())))).1.1,()))=(gq h,())
  rw[hres'];unfold gq;cases ha:(h.2.2.2.1.all λc=>dF c&&cE h.2.2.1.1.1 h.2.2.1.1.2.1 c.2.1) with
  |false=>
   show((false,()):Bool×Unit)=_;rw[ueb]
  |true=>
   show((bif ft h.2.2.1 then decide ((h.2.2.2.1.length:Int)<=2000) else false,()):Bool×Unit)=_;rw[uek];have:decide ((h.2.2.2.1.length:Int)<=2000)=decide (h.2.2.2.1.length<=2000):=by
    rw[udv];simp only[ucs];omega
   rw[this];cases ft h.2.2.1<;>rfl)
open Go.Ab.Fr renaming val->Jv,need->Jd,br->Jb
abbrev BY:List (FuncId×Ct):=[(189,oL),(190,Cm)]
def G9:oz prog BY:=⟨SH,qf0,uT⟩
noncomputable def MV:Cx:=cx BY []
noncomputable def MW:Cx:=ib BY [] (ne prog MV BJ)
noncomputable def Z5:Cx:=ib BY [] (ne prog MW BK)
def Z3:CxOK prog MV:=aJ aG G9 trivial
def Z4:CxOK prog MW:=iI aG G9 trivial (q9 Z3 N7)
def Z6:CxOK prog Z5:=iI aG G9 trivial (q9 Z4 N8)
def zk (h l c:Int):Fr (ae [i64,i64]):=
 Jb (decide (h>=c)) (Jv (0,5,())) (Jd ((h=0/\0<c)\/(c=10000/\h<10000)) (qn (Cm.f (h,l,c,())).1 (Cm.f (h,l,c,())).2.1 c))
def Dk (x:aq [.d i64,.d i64,.d i64]):Fr (ae [i64,i64]):=
 let a:=oL.f (IntKind.u64.wrap x.1,IntKind.u64.wrap x.2.1,());Jb (bif bif decide (x.1<0) then true else decide (x.2.1<0) then true else decide (x.2.2.1<0)) (Jv (0,1,()))
  (Jb (x.2.2.1==0) (Jv (0,6,()))
   (zk a.1 a.2.1 (IntKind.u64.wrap x.2.2.1)))
def qg2 {p c:Int} (hp:0<=p) (hc:0<c) (hc2:c<=9223372036854775807) (h:p<18446744073709551616\/c=10000) :
  (zk (p/18446744073709551616) (p%18446744073709551616) c).ok/\(zk (p/18446744073709551616) (p%18446744073709551616) c).get=if gp p c>4000000000000000000 then (0,5,()) else (gp p c,0,()):=by
 have hsum:p/18446744073709551616*18446744073709551616+p%18446744073709551616=p:=by omega
 have hr1:=Int.emod_nonneg p (b:=c) (by omega);have hr2:=Int.emod_lt_of_pos p hc;have hq:=udi hp (ues hc);unfold zk;by_cases hge:p/18446744073709551616>=c
 ·refine ay (ud8 hge) ⟨uT,?_⟩;rcases h with h|h
  ·omega
  ·subst h;have:gp p 10000>4000000000000000000:=by
    unfold gp;split<;>omega
   rw[if_pos this];rfl
 ·have hneed:(p/18446744073709551616=0/\0<c)\/(c=10000/\p/18446744073709551616<10000):=by
   rcases h with h|h
   ·exact .inl ⟨by omega,hc⟩
   ·exact .inr ⟨h,by omega⟩
  refine ax (udt hge) (au hneed ?_);show(qn ((p/18446744073709551616*18446744073709551616+p%18446744073709551616)/c) ((p/18446744073709551616*18446744073709551616+p%18446744073709551616)%c) c).ok/\(qn ((p/18446744073709551616*18446744073709551616+p%18446744073709551616)/c) ((p/18446744073709551616*18446744073709551616+p%18446744073709551616)%c) c).get=_;rw[hsum];have key:=Qe (q:=p/c) (r:=p%c) (c:=c) ⟨hr1,hr2⟩ hc2 hq;refine⟨key.1,?_⟩;rw[key.2];rfl
def qg9 {a b c:Int} (ha : -9223372036854775808<=a/\a<=9223372036854775807) (hb : -9223372036854775808<=b/\b<=9223372036854775807) (hc : -9223372036854775808<=c/\c<=9223372036854775807)
  (hp:0<=a->0<=b->a*b<18446744073709551616\/c=10000):(Dk (a,b,c,())).ok/\(Dk (a,b,c,())).get=((cV a b c).1,(cV a b c).2,()):=by
 unfold Dk;simp only[G3];by_cases hn:a<0\/b<0\/c<0
 ·have hd:(decide (a<0) || (decide (b<0) || decide (c<0)))=true:=by simpa using hn
  refine ay hd ⟨uT,?_⟩;unfold cV;rw[if_pos hn];rfl
 ·have hd:(decide (a<0) || (decide (b<0) || decide (c<0)))=false:=by simpa using hn
  have ha0:0<=a:=by omega
  have hb0:0<=b:=by omega
  have hc0:0<=c:=by omega
  have hab0:0<=a*b:=ud9 ha0 hb0;refine ax hd ?_;rw[show IntKind.u64.wrap a=a from dn (by omega),show IntKind.u64.wrap b=b from dn (by omega),show IntKind.u64.wrap c=c from dn (by omega)];unfold cV;rw[if_neg hn];by_cases hz:c=0
  ·refine ay (by simpa using hz) ⟨uT,?_⟩;rw[if_pos hz];rfl
  ·refine ax (by simpa using hz) ?_;rw[if_neg hz];have key:=qg2 (p:=a*b) (c:=c) hab0 (by omega) hc.2 (hp ha0 hb0);refine⟨key.1,?_⟩;show(zk (a*b/18446744073709551616) (a*b%18446744073709551616) c).get=_;rw[key.2];split<;>rfl
def GS:Ct:=⟨[.d i64,.d i64,.d i64],[i64,i64],λx=>((cV x.1 x.2.1 x.2.2.1).1,(cV x.1 x.2.1 x.2.2.1).2,()),λx=>[0<=x.1->0<=x.2.1->x.1*x.2.1<18446744073709551616\/x.2.2.1=10000]⟩
def qg8:aa prog 111 GS:=
 flat (ps:=[.d i64,.d i64,.d i64]) (rs:=[i64,i64]) Z6 (fn:=f111) (fr:=Dk) (0,0,0,()) (by kernel_rfl) (λx=>by kernel_rfl) _ _
  (λw F x vs hr hok=>by
   obtain⟨a,b,c,u⟩:=x;obtain⟨v1,vs1,rfl,h1,v2,vs2,rfl,h2,v3,vs3,rfl,h3,_⟩:=hr;exact qg9 (nb h1) (nb h2) (nb h3) hok)
def dP (m b:Int):Int×Int:=cV m b 10000
def gj:Ct:=⟨[.d i64,.d i64],[i64,i64],λx=>((dP x.1 x.2.1).1,(dP x.1 x.2.1).2,()),λ_=>[]⟩
noncomputable def Z7:Cx:=cx [(111,GS)] []
def Z8:CxOK prog Z7:=aJ aG ⟨qg8,uT⟩ trivial
def Oa:aa prog 74 gj:=
 flat (ps:=[.d i64,.d i64]) (rs:=[i64,i64]) Z8 (fn:=f74) (fr:=λx=>Jd (0<=x.1->0<=x.2.1->x.1*x.2.1<18446744073709551616\/(10000:Int)=10000) (Jv (GS.f (x.1,x.2.1,10000,())))) (0,0,()) (by kernel_rfl) (λx=>by kernel_rfl) _ _
  (λw F x vs hr hok=>⟨⟨λ_ _=>.inr rfl,uT⟩,rfl⟩)
open Go.Ab.Fr renaming val->Jv,need->Jd,br->Jb
abbrev I9:Ty:=.pair i64 (.pair i64 (.pair i64 (.pair i64 (.pair i64 .unit))))
def f5 (f:I9.den):List Int:=[f.1,f.2.1,f.2.2.1,f.2.2.2.1,f.2.2.2.2.1]
def cN:List Int->Int->Int×Int
 |[],m=>(m,0)
 |b::r,m=>if (dP m b).2=0 then cN r (dP m b).1 else dP m b
noncomputable def CQ:Cx:=cx [(159,qe),(141,iF),(160,jO),(161,Cf),(74,gj)] []
def M7:CxOK prog CQ:=aJ aG ⟨zdf,Lj,OY,qbm,Oa,uT⟩ trivial
def MQ:LS:=⟨[(8,.d i64),(9,.d i64),(59,.d I9),(60,.d i64)],[.x 3 132 az,.r 3 3 0]⟩
def EQ:LS:=⟨[(8,.d i64),(9,.d i64)],[.x 3 132 az,.r 3 3 0]⟩
def At:Pt:=⟨79,1,MQ,EQ,⟨[],[]⟩⟩
def fQ (x:MQ.X):Fr At.Out:=
 Jb (decide (x.1.2.2.2.1<5))
  (Jd (0<=x.1.2.2.2.1/\x.1.2.2.2.1<((5:Nat):Int))
   (Jb ((gj.f (x.1.1,(f5 x.1.2.2.1).getD x.1.2.2.2.1.toNat 0,())).2.1 != 0)
    (Jv (Rd.out (((gj.f (x.1.1,(f5 x.1.2.2.1).getD x.1.2.2.2.1.toNat 0,())).1,(gj.f (x.1.1,(f5 x.1.2.2.1).getD x.1.2.2.2.1.toNat 0,())).2.1,()),x.2)))
    (Jv (Rd.next (((gj.f (x.1.1,(f5 x.1.2.2.1).getD x.1.2.2.2.1.toNat 0,())).1,(gj.f (x.1.1,(f5 x.1.2.2.1).getD x.1.2.2.2.1.toNat 0,())).2.1,x.1.2.2.1,I6.wrap (x.1.2.2.2.1+1),()),x.2)))))
  (Jv (Rd.out ((x.1.1,x.1.2.1,()),x.2)))
def zaz:ah prog (aC f118 0) MQ At fQ:=ah.of_run M7 (bs:=0) rfl rfl rfl (λ_=>bL _ 0) (λx=>by kernel_rfl)
def rS (i e:Int):Prop:=0<=i/\i<=5/\e=0
def FQ (x:MQ.X):Fr At.Out:=Jd (rS x.1.2.2.2.1 x.1.2.1) (Jv (.out (((cN ((f5 x.1.2.2.1).drop x.1.2.2.2.1.toNat) x.1.1).1,(cN ((f5 x.1.2.2.1).drop x.1.2.2.2.1.toNat) x.1.1).2,()),x.2)))
def qqq (m e i:Int) (f:I9.den) (y:bW [.x 3 132 az,.r 3 3 0]) (hinv:rS i e) (Q:At.Out->Prop) (hq:Q (.out (((cN ((f5 f).drop i.toNat) m).1,(cN ((f5 f).drop i.toNat) m).2,()),y))) :
  (fQ ((m,e,f,i,()),y)).satP λ
   |.next x'=>rS x'.1.2.2.2.1 x'.1.2.1/\(5-x'.1.2.2.2.1).toNat<(5-i).toNat/\(FQ x').satP Q
   |.out y=>Q (.out y)
   |.back z=>Q (.back z)
   |.pan p=>Q (.pan p):=by
 obtain⟨h1,h2,rfl⟩:=hinv;refine⟨λhi=>?_,λhi=>?_⟩
 ·have hi':i<5:=ucv hi;obtain⟨k,rfl⟩:∃ k:Nat,i=k:=⟨i.toNat,by omega⟩;have hl:k<(f5 f).length:=by show k<5; omega
  have hw:I6.wrap ((k:Int)+1)=k+1:=IntWalk.i64_in _ (by omega);have g1:(f5 f).getD (k:Int).toNat 0=(f5 f)[k]:=by
   rw[show(k:Int).toNat=k by omega,uah,uap hl]; rfl
  have hd:(f5 f).drop (k:Int).toNat=(f5 f)[k]::(f5 f).drop (k+1):=by
   exact ual hl
  rw[hd] at hq;rw[g1,hw];show(0<=(k:Int)/\(k:Int)<((5:Nat):Int))/\(((dP m (f5 f)[k]).2 != 0)=true->Q (.out (((dP m (f5 f)[k]).1,(dP m (f5 f)[k]).2,()),y)))/\(((dP m (f5 f)[k]).2 != 0)=false->rS (k+1) (dP m (f5 f)[k]).2/\(5-((k:Int)+1)).toNat<(5-(k:Int)).toNat/\(FQ (((dP m (f5 f)[k]).1,(dP m (f5 f)[k]).2,f,(k:Int)+1,()),y)).satP Q);refine⟨⟨by omega,by omega⟩,λhb=>?_,λhb=>?_⟩
  ·have hb':¬ (dP m (f5 f)[k]).2=0:=by simpa using hb
   have e:cN ((f5 f)[k]::(f5 f).drop (k+1)) m=dP m (f5 f)[k]:=if_neg hb';rw[e] at hq;exact hq
  ·have hb':(dP m (f5 f)[k]).2=0:=by simpa using hb
   have e:cN ((f5 f)[k]::(f5 f).drop (k+1)) m=cN ((f5 f).drop (k+1)) (dP m (f5 f)[k]).1:=if_pos hb';rw[e] at hq;have hI:rS ((k:Int)+1) (dP m (f5 f)[k]).2:=⟨by omega,by omega,hb'⟩;refine⟨hI,by omega,hI,?_⟩;have:((k:Int)+1).toNat=k+1:=by omega
   exact hq
 ·have hi':¬ i<5:=ucf hi;have:i=5:=by omega
  subst this;exact hq
def qr6:ah prog (.loop (aC f118 0)) MQ At FQ:=by
 refine ah.loop zaz (μ:=λx=>(5-x.1.2.2.2.1).toNat) ?_ (λx Q h=>h.1);rintro⟨⟨m,e,f,i,_⟩,y⟩ hinv Q hq;exact qqq m e i f y hinv Q hq.2
def eP (v:az.den) (r:cj.den) (c:ak.den):List Int:=
 [([v.2.1.1,v.2.1.2.1,v.2.1.2.2.1,v.2.1.2.2.2.1]:List Int).getD r.1.toNat 0,gi r.2.2.1 v.2.2.1 10000,v.2.2.2.1.getD r.2.2.2.1.toNat 0,v.2.2.2.2.1.getD c.1.toNat 0,c.2.2.2.2.1]
def cq (v:az.den) (r:cj.den) (c:ak.den):Int×Int:=
 if (jF v&&(jA r.1 r.2.1 r.2.2.1 r.2.2.2.1&&kG c.1 c.2.1 c.2.2.1 c.2.2.2.1 c.2.2.2.2.1))=true then
  if r.2.2.2.1>=v.2.2.2.1.length then (0,7) else
   if (cN (eP v r c) r.2.1).2=0 then (if (cN (eP v r c) r.2.1).1<v.2.2.2.2.2.1 then v.2.2.2.2.2.1 else (cN (eP v r c) r.2.1).1,0) else (0,(cN (eP v r c) r.2.1).2)
 else (0,1)
def jf:Ct:=⟨[.d az,.d cj,.d ak],[i64,i64],λx=>((cq x.1 x.2.1 x.2.2.1).1,(cq x.1 x.2.1 x.2.2.1).2,()),λ_=>[]⟩
def zy (x:aq [.d az,.d cj,.d ak]):Fr (ae [i64,i64]):=
 Jb (bif bif !(qe.f (x.1,())).1 then true else !(iF.f (x.2.1,())).1 then true else !(jO.f (x.2.2.1,())).1) (Jv (0,1,()))
  (Jb (decide (x.2.1.2.2.2.1>=x.1.2.2.2.1.length)) (Jv (0,7,()))
   (Jd (0<=x.2.1.1/\x.2.1.1<((4:Nat):Int))
    (Jd (0<=x.2.1.2.2.2.1/\x.2.1.2.2.2.1<x.1.2.2.2.1.length)
     (Jd (0<=x.2.2.1.1/\x.2.2.1.1<x.1.2.2.2.2.1.length)
      (Jd (rS 0 0)
       (Jb ((cN (eP x.1 x.2.1 x.2.2.1) x.2.1.2.1).2 != 0) (Jv (0,(cN (eP x.1 x.2.1 x.2.2.1) x.2.1.2.1).2,()))
        (Jv (if (cN (eP x.1 x.2.1 x.2.2.1) x.2.1.2.1).1<x.1.2.2.2.2.2.1 then x.1.2.2.2.2.2.1 else (cN (eP x.1 x.2.1 x.2.2.1) x.2.1.2.1).1,0,()))))))))
def qv4:aa prog 118 (aL [.d az,.d cj,.d ak] [i64,i64] zy):=
 bz M7 qr6
def SO (a b c:Bool):(bif bif !a then true else !b then true else !c) = !(a&&(b&&c)):=by cases a<;>cases b<;>cases c<;>rfl
def Wi {v:az.den} (h:jF v=true):v.2.2.2.2.1.length=8:=by
 unfold jF at h;rw[uc9] at h;have h1:=ucv h.1;exact h1.2.2.2.2.2.2.2
def Uq {k v a z:Int} (h:jA k v a z=true):0<=k/\k<4/\0<=z:=by
 have h1:=ucv h;exact⟨h1.1,h1.2.1,h1.2.2.2.2.2.2.1⟩
def OX {p l g d s:Int} (h:kG p l g d s=true):0<=p/\p<8:=by
 have h1:=ucv h;exact⟨h1.1,h1.2.1⟩
def qv2 (v:az.den) (k val a z:Int) (c:ak.den):(zy (v,(k,val,a,z,()),c,())).ok/\(zy (v,(k,val,a,z,()),c,())).get=((cq v (k,val,a,z,()) c).1,(cq v (k,val,a,z,()) c).2,()):=by
 obtain⟨p,l,g,d,s,_⟩:=c;unfold cq;have e0:(bif bif !(qe.f (v,())).1 then true else !(iF.f ((k,val,a,z,()),())).1 then true else !(jO.f ((p,l,g,d,s,()),())).1) = !(jF v&&(jA k val a z&&kG p l g d s)):=SO _ _ _;by_cases h:(jF v&&(jA k val a z&&kG p l g d s))=true
 ·rw[if_pos h];refine ax (by rw[e0,h]; rfl) ?_;rw[uc9,uc9] at h;obtain⟨h1,h2,h3⟩:=h;obtain⟨r1,r2,r3⟩:=Uq h2;obtain⟨c1,c2⟩:=OX h3;have hp:=Wi h1;by_cases hz:z>=(v.2.2.2.1.length:Int)
  ·rw[if_pos hz];exact ay (ud8 hz) ⟨uT,rfl⟩
  ·rw[if_neg hz];have hz':=ufk.1 hz;refine ax (udt hz) (au ⟨r1,by omega⟩ (au ⟨r3,hz'⟩ (au ⟨c1,?_⟩ (au ⟨by omega,by omega,rfl⟩ ?_))))
   ·show p<(v.2.2.2.2.1.length:Int);rw[hp];exact c2
   ·by_cases hb:(cN (eP v (k,val,a,z,()) (p,l,g,d,s,())) val).2=0
    ·have hb':((cN (eP v (k,val,a,z,()) (p,l,g,d,s,())) val).2 != 0)=false:=by rw[hb]; rfl
     rw[if_pos hb];exact ax hb' ⟨uT,rfl⟩
    ·have hb':=ufm.2 hb;rw[if_neg hb];exact ay hb' ⟨uT,rfl⟩
 ·rw[if_neg h];simp only[Bool.not_eq_true] at h;exact ay (by rw[e0,h]; rfl) ⟨uT,rfl⟩
def qv3:aa prog 118 jf:=
 cg qv4 _ _ (λ_ _ x _ _ _=>by
  obtain⟨v,⟨k,val,a,z,_⟩,c,_⟩:=x;exact qv2 v k val a z c)
open Go.Ab.Fr renaming val->Jv,need->Jd,br->Jb
noncomputable def Gz:FuncId->Option (Func×(Nat->St->Option Tr)):=dH [(117,(f117,dM)),(158,(f158,dM))]
def qac:∀ f fn Λ,Gz f=some (fn,Λ)->prog.funcs[f]? = some fn/\∀ c E',fn.body=some c->cH prog E' Λ c 0:=λf fn Λ h=>by
 simp only[Gz,dH] at h;split at h
 ·rename_i hf;subst hf;cases h;exact⟨by kernel_rfl,λc E' _=>bL c 0⟩
 ·split at h
  ·rename_i hf;subst hf;cases h;exact⟨by kernel_rfl,λc E' _=>bL c 0⟩
  ·cases h
noncomputable def CY:Cx:=ib [(118,jf)] [] (ne prog o5 Gz)
def Na:CxOK prog CY:=iI aG ⟨qv3,uT⟩ trivial (q9 eI qac)
def MY:LS:=⟨[(16,.d (.sl ak)),(17,.d i64),(18,.d i64),(9,.d i64),(10,.d .bool)],[.x 3 132 az,.r 3 3 0,.x 4 33 cj,.r 4 4 0,.x 160001 3 i64,.g 8 158 [160001]]⟩
def EY:LS:=⟨[(9,.d i64),(10,.d .bool)],[]⟩
def tl:Pt:=⟨43,0,MY,EY,⟨[(6,.d i64),(7,.d i64)],[]⟩⟩
def Ip (v:az.den) (r:cj.den) (l:List ak.den) (n i s:Int) (b:Bool) (q:Int) (c:ak.den):Fr tl.Out:=
 Jb ((jf.f (v,r,c,())).2.1 != 0) (Jv (Rd.back ((0,(jf.f (v,r,c,())).2.1,()),())))
  (Jb b
   (Jb (decide ((jf.f (v,r,c,())).1>I6.wrap (4000000000000000000-q)))
    (Jv (Rd.next ((l,n,I6.wrap (i+1),0,false,()),(v,r,q,()))))
    (Jv (Rd.next ((l,n,I6.wrap (i+1),I6.wrap (q+(jf.f (v,r,c,())).1),true,()),(v,r,I6.wrap (q+(jf.f (v,r,c,())).1),())))))
   (Jv (Rd.next ((l,n,I6.wrap (i+1),s,b,()),(v,r,q,())))))
def fY (x:MY.X):Fr tl.Out:=
 Jb (decide (x.1.2.2.1<x.1.2.1))
  (Jd (0<=x.1.2.2.1/\x.1.2.2.1<x.1.1.length) (Ip x.2.1 x.2.2.1 x.1.1 x.1.2.1 x.1.2.2.1 x.1.2.2.2.1 x.1.2.2.2.2.1 x.2.2.2.1 (x.1.1.getD x.1.2.2.1.toNat ak.dflt)))
  (Jv (Rd.out ((x.1.2.2.2.1,x.1.2.2.2.2.1,()),())))
def zba:ah prog (aC f78 0) MY tl fY:=ah.of_run Na (bs:=0) rfl rfl rfl (λ_=>bL _ 0) (λx=>by kernel_rfl)
def cM (v:az.den) (r:cj.den):List ak.den->Int->Bool->Int×Bool×Int
 |[],q,b=>(if b=true then q else 0,b,0)
 |c::l,q,b=>if (cq v r c).2=0 then
   (if b=true then (if (cq v r c).1>4000000000000000000-q then cM v r l q false else cM v r l (q+(cq v r c).1) true) else cM v r l q false)
  else (0,false,(cq v r c).2)
def Ky {v:az.den} {r:cj.den} {c:ak.den} (h:(cq v r c).2=0):0<=(cq v r c).1:=by
 unfold cq at h |-;split
 ·rename_i h1;split
  ·exact ufb 0
  ·rename_i h2;split
   ·have hv:=(Bool.and_eq_true_iff.1 h1).1;have hmin:0<=v.2.2.2.2.2.1:=by
     unfold jF at hv;rw[uc9] at hv;exact(ucv hv.1).2.2.1
    split
    ·exact hmin
    ·rename_i h3;exact ue3 hmin (ufl.1 h3)
   ·exact ufb 0
 ·exact ufb 0
def o6 (l:List ak.den) (n i s:Int) (b:Bool) (q:Int):Prop:=0<=i/\i<=n/\n=l.length/\n<=9223372036854775807/\0<=q/\q<=4000000000000000000/\s=if b=true then q else 0
def Am (y:Int×Bool×Int):Fr tl.Out:=Jb (y.2.2 != 0) (Jv (Rd.back ((0,y.2.2,()),()))) (Jv (Rd.out ((y.1,y.2.1,()),())))
def FY (x:MY.X):Fr tl.Out:=Jd (o6 x.1.1 x.1.2.1 x.1.2.2.1 x.1.2.2.2.1 x.1.2.2.2.2.1 x.2.2.2.1) (Am (cM x.2.1 x.2.2.1 (x.1.1.drop x.1.2.2.1.toNat) x.2.2.2.1 x.1.2.2.2.2.1))
def qq7 (v:az.den) (r:cj.den) (l:List ak.den) (n i s:Int) (b:Bool) (q:Int) (hinv:o6 l n i s b q) (Q:tl.Out->Prop) (hq:(Am (cM v r (l.drop i.toNat) q b)).satP Q) :
  (fY ((l,n,i,s,b,()),(v,r,q,()))).satP λ
   |.next x'=>o6 x'.1.1 x'.1.2.1 x'.1.2.2.1 x'.1.2.2.2.1 x'.1.2.2.2.2.1 x'.2.2.2.1/\(x'.1.2.1-x'.1.2.2.1).toNat<(n-i).toNat/\(FY x').satP Q
   |.out y=>Q (.out y)
   |.back z=>Q (.back z)
   |.pan p=>Q (.pan p):=by
 obtain⟨h1,h2,rfl,h4,h5,h6,h7⟩:=hinv;refine⟨λhi=>?_,λhi=>?_⟩
 ·have hi':i<(l.length:Int):=ucv hi;obtain⟨k,rfl⟩:∃ k:Nat,i=k:=⟨i.toNat,by omega⟩;have hl:k<l.length:=by omega
  have g1:l.getD (k:Int).toNat ak.dflt=l[k]:=by
   rw[show(k:Int).toNat=k by omega,uah,uap hl]; rfl
  have hw:I6.wrap ((k:Int)+1)=k+1:=IntWalk.i64_in _ (by omega);have hd:l.drop (k:Int).toNat=l[k]::l.drop (k+1):=by
   exact ual hl
  have hn1:((k:Int)+1).toNat=k+1:=by omega
  rw[hd] at hq;refine⟨⟨by omega,hi'⟩,?_⟩;rw[g1];unfold Ip;rw[hw];generalize l[k]=c at *;have hμ:((l.length:Int)-((k:Int)+1)).toNat<((l.length:Int)-k).toNat:=by omega
  refine⟨λhe=>?_,λhe=>?_⟩
  ·have he':=ufm.1 he;have e:cM v r (c::l.drop (k+1)) q b=(0,false,(cq v r c).2):=if_neg he';rw[e] at hq;exact hq.1 he
  ·have he':(cq v r c).2=0:=by
    have:((cq v r c).2 != 0)=false:=he;simpa using this
   have hpos:=Ky he';have e:cM v r (c::l.drop (k+1)) q b=(if b=true then (if (cq v r c).1>4000000000000000000-q then cM v r (l.drop (k+1)) q false else cM v r (l.drop (k+1)) (q+(cq v r c).1) true) else cM v r (l.drop (k+1)) q false):=if_pos he';rw[e] at hq;have hw2:I6.wrap (4000000000000000000-q)=4000000000000000000-q:=IntWalk.i64_in _ (by omega);refine⟨λhb=>?_,λhb=>?_⟩
   ·rw[if_pos hb] at hq;rw[hw2];refine⟨λhg=>?_,λhg=>?_⟩
    ·have hg':(cq v r c).1>4000000000000000000-q:=ucv hg;rw[if_pos hg'] at hq;have hI:o6 l l.length ((k:Int)+1) 0 false q:=⟨by omega,by omega,rfl,h4,h5,h6,rfl⟩;refine⟨hI,hμ,hI,?_⟩;exact hq
    ·have hg':¬ (cq v r c).1>4000000000000000000-q:=ucf hg;rw[if_neg hg'] at hq;have hw3:I6.wrap (q+(jf.f (v,r,c,())).1)=q+(cq v r c).1:=IntWalk.i64_in (q+(cq v r c).1) (by omega);rw[hw3];have hI:o6 l l.length ((k:Int)+1) (q+(cq v r c).1) true (q+(cq v r c).1):=⟨by omega,by omega,rfl,h4,by omega,by omega,rfl⟩;refine⟨hI,hμ,hI,?_⟩;exact hq
   ·subst hb;have hI:o6 l l.length ((k:Int)+1) s false q:=⟨by omega,by omega,rfl,h4,h5,h6,h7⟩;refine⟨hI,hμ,hI,?_⟩;exact hq
 ·have hi':¬ i<(l.length:Int):=ucf hi;have e:l.drop i.toNat=[]:=ua0 (by omega);rw[e] at hq;subst h7;exact hq.2 rfl
def qsl:ah prog (.loop (aC f78 0)) MY tl FY:=by
 refine ah.loop zba (μ:=λx=>(x.1.2.1-x.1.2.2.1).toNat) ?_ (λx Q h=>h.1);rintro⟨⟨l,n,i,s,b,_⟩,v,r,q,_⟩ hinv Q hq;exact qq7 v r l n i s b q hinv Q hq.2
def kr (v:az.den) (r:cj.den) (l:List ak.den):Int×Int:=
 if (cM v r l 0 true).2.2=0 then (if (cM v r l 0 true).2.1=true then ((cM v r l 0 true).1,0) else (0,5)) else (0,(cM v r l 0 true).2.2)
def yI:Ct:=⟨[.d az,.d cj,.d (.sl ak)],[i64,i64],λx=>((kr x.1 x.2.1 x.2.2.1).1,(kr x.1 x.2.1 x.2.2.1).2,()),λ_=>[]⟩
def QN (x:aq [.d az,.d cj,.d (.sl ak)]):Fr (ae [i64,i64]):=
 let a:=cM x.1 x.2.1 x.2.2.1 0 true;Jd (o6 x.2.2.1 x.2.2.1.length 0 0 true 0)
  (Jb (a.2.2 != 0) (Jv (0,a.2.2,()))
   (Jb (!a.2.1) (Jv (0,5,())) (Jv (a.1,0,()))))
def zfo:aa prog 78 (aL [.d az,.d cj,.d (.sl ak)] [i64,i64] QN):=
 bz Na qsl
def zfn:aa prog 78 yI:=
 cg zfo _ _ (λw F x vs hr _=>by
  obtain⟨v,r,l,_⟩:=x;obtain⟨v1,vs1,rfl,_,v2,vs2,rfl,_,v3,vs3,rfl,h3,_⟩:=hr;have hlen:=fw h3;have hI:o6 l l.length 0 0 true 0:=⟨by omega,by omega,rfl,hlen,by decide,by decide,rfl⟩;refine au hI ?_;unfold kr;generalize cM v r l 0 true=y;obtain⟨s,b,e⟩:=y;by_cases he:e=0
  ·subst he;refine ax rfl ?_;cases b with
   |true=>exact ax rfl ⟨uT,rfl⟩
   |false=>exact ay rfl ⟨uT,rfl⟩
  ·rw[if_neg he];exact ay (ufm.2 he) ⟨uT,rfl⟩)
open Go.Ab.Fr renaming val->Jv,need->Jd,br->Jb
noncomputable def Mn:Cx:=cx [(115,qb)] []
def WO:CxOK prog Mn:=aJ (ps:=[]) aG ⟨RP,uT⟩ trivial
noncomputable def Gw:FuncId->Option (Func×(Nat->St->Option Tr)):=dH [(114,(f114,dM)),(116,(f116,dM))]
def ZZ:∀ f fn Λ,Gw f=some (fn,Λ)->prog.funcs[f]? = some fn/\∀ c E',fn.body=some c->cH prog E' Λ c 0:=λf fn Λ h=>by
 simp only[Gw,dH] at h;split at h
 ·rename_i hf;subst hf;cases h;exact⟨by kernel_rfl,λc E' _=>bL c 0⟩
 ·split at h
  ·rename_i hf;subst hf;cases h;exact⟨by kernel_rfl,λc E' _=>bL c 0⟩
  ·cases h
noncomputable def F6:Cx:=ib [(105,Hc)] [] (ne prog Mn Gw)
def F8:CxOK prog F6:=iI (ps:=[]) aG ⟨Tf,uT⟩ trivial (q9 WO ZZ)
abbrev SG:List MI:=[.x 280001 54 ap,.r 1 280001 0,.x 280003 31 bR,.r 3 280003 0,.x 280004 122 af,.r 4 280004 0,.y 280005 110 [(some 122,af)],.r 5 280005 0,.g 6 114 [280004,280005],.x 6 132 az,.r 10006 6 0]
def MC:LS:=⟨[(26,.d bE),(27,.d i64),(28,.d i64)],SG⟩
def EC:LS:=⟨[],SG⟩
def wE:Pt:=⟨52,0,MC,EC,⟨[],[]⟩⟩
def ip (out:List af.den):Int:=I6.wrap ((out.length:Int)-1)
def li (s:af.den) (b:Int):af.den:=((s.1.1,b,()),s.2)
def Ic {α:Type} (s:af.den) (out:List af.den) (day:Int) (K:List af.den->Fr α):Fr α:=
 Jb (s.1.1==day) (K out)
  (Jd (decide (ip out>=0)=true->0<=ip out/\ip out<(out.length:Int))
   (Jd (decide (ip out>=0)=true->(ip out).toNat<out.length)
    (Jb (bif decide (ip out>=0) then (qb.f (out.getD (ip out).toNat af.dflt,li s day,())).1 else false)
     (Jd (0<=ip out/\ip out<(out.length:Int)) (Jd ((ip out).toNat<out.length) (K (out.set (ip out).toNat (li (out.getD (ip out).toNat af.dflt) day)))))
     (Jd (out.length + [li s day].length<=maxLen/\(out.length + [li s day].length)*88<=140737488355328) (K (out++[li s day]))))))
def PC {α:Type} (s:af.den) (c:ar.den) (K:af.den->Fr α):Fr α:=
 Jb (c.2.2.1==1) (K (s.1,s.2.1,c.2.2.2.1,s.2.2.2.1,s.2.2.2.2.1,()))
  (Jb (c.2.2.1==2) (Jd (([]:List ak.den).length+c.2.2.2.2.1.length<=maxLen/\(([]:List ak.den).length+c.2.2.2.2.1.length)*40<=140737488355328) (K (s.1,s.2.1,s.2.2.1,[]++c.2.2.2.2.1,s.2.2.2.2.1,())))
   (Jb (c.2.2.1==3) (K (s.1,false,s.2.2.1,s.2.2.2.1,s.2.2.2.2.1,()))
    (Jb (c.2.2.1==4) (K (s.1,true,s.2.2.1,s.2.2.2.1,s.2.2.2.2.1,())) (K s))))
def IF (x:MC.X):Fr wE.Out:=
 let l:List Int:=x.1.1; let n:Int:=x.1.2.1; let i:Int:=x.1.2.2.1; let h:ap.den:=x.2.1; let sp:bR.den:=x.2.2.1; let s:af.den:=x.2.2.2.1; let out:List af.den:=x.2.2.2.2.1.1; let v:az.den:=x.2.2.2.2.2.1
 let j:Int:=l.getD i.toNat i64.dflt
 Jb (decide (i<n))
  (Jd (0<=i/\i<(l.length:Int))
   (Jd (0<=j/\j<((aw h).length:Int))
    (Ic s out (aQ h j).2.1 λout'=>
     Jd (0<=j/\j<((aw h).length:Int))
      (PC (((aQ h j).2.1,s.1.2.1,()),s.2) (aQ h j) λs'=>Jv (Rd.next ((l,n,I6.wrap (i+1),()),(h,sp,s',(out',()),v,())))))))
  (Jv (Rd.out ((),(h,sp,s,(out,()),v,()))))
def zaq:ah prog (aC f77 0) MC wE IF:=ah.of_run F8 (bs:=280000) rfl rfl rfl (λ_=>bL _ 0) (λx=>by kernel_rfl)
def TJ (s:af.den):(out:List af.den)->0<out.length->j7 out s=if jv (out.getD (out.length-1) af.dflt) s=true then out.set (out.length-1) (li (out.getD (out.length-1) af.dflt) s.1.2.1) else out++[s]
 |[],h=>absurd h (by decide)
 |[x],_=>rfl
 |x::y::r,_=>by
  have ih:=TJ s (y::r) (by simp);have e1:(x::y::r).length-1=((y::r).length-1)+1:=by simp
  have e2:(x::y::r).getD ((x::y::r).length-1) af.dflt=(y::r).getD ((y::r).length-1) af.dflt:=by
   rfl
  show x::j7 (y::r) s=_;rw[ih,e2,e1];split
  ·rfl
  ·rfl
def TK (s:af.den):(out:List af.den)->(j7 out s).length<=out.length+1
 |[]=>by simp[j7]
 |[x]=>by unfold j7; split<;>simp
 |x::y::r=>by
  have:=TK s (y::r);simp only[j7,uc7] at this |-;omega
def Ib (s:af.den) (out:List af.den) (day:Int):(jm s out day).length<=out.length+1:=by
 unfold jm;split
 ·omega
 ·exact TK _ _
def qp1 {out:List af.den} (h:out.length<=1000000):ip out=(out.length:Int)-1:=IntWalk.i64_in _ (by omega)
def PW {α:Type} {s:af.den} {out:List af.den} {day:Int} {K:List af.den->Fr α} {Q:α->Prop} (hl:out.length<=1000000) (h:(K (jm s out day)).satP Q):(Ic s out day K).satP Q:=by
 unfold jm at h;have hw:=qp1 hl;have hm:out.length+1<=maxLen/\(out.length+1)*88<=140737488355328:=⟨by unfold maxLen; omega,by omega⟩;refine⟨λhb=>?_,λhb=>?_⟩
 ·have hb':=eq_of_beq hb;rw[if_pos hb'] at h;exact h
 ·have hb':=ud2 hb;rw[if_neg hb'] at h;refine⟨λhd=>?_,λhd=>?_,?_⟩
  ·have:=ucv hd;omega
  ·have:=ucv hd;omega
  ·by_cases h0:0<out.length
   ·have hge:decide (ip out>=0)=true:=ud8 (by omega);have ht:(ip out).toNat=out.length-1:=by omega
    have hp:=TJ (li s day) out h0;rw[hge,ht];refine⟨λhh=>?_,λhh=>?_⟩
    ·have hh':jv (out.getD (out.length-1) af.dflt) (li s day)=true:=hh;rw[if_pos hh'] at hp;refine⟨⟨by omega,by omega⟩,by omega,?_⟩;have e:j7 out ((s.1.1,day,()),s.2)=out.set (out.length-1) (li (out.getD (out.length-1) af.dflt) day):=hp;rw[e] at h;exact h
    ·have hh':¬ jv (out.getD (out.length-1) af.dflt) (li s day)=true:=by
      intro hx;have:jv (out.getD (out.length-1) af.dflt) (li s day)=false:=hh;rw[hx] at this;cases this
     rw[if_neg hh'] at hp;have e:j7 out ((s.1.1,day,()),s.2)=out++[li s day]:=hp;rw[e] at h;exact⟨hm,h⟩
   ·have fh:out=[]:=uay.1 (by omega);subst fh;have hge:decide (ip []>=0)=false:=udt (by rw[hw]; decide);exact⟨λhh=>(by cases hh),λ_=>⟨hm,h⟩⟩
def qgn {α:Type} {s:af.den} {c:ar.den} {K:af.den->Fr α} {Q:α->Prop} (hl:c.2.2.2.2.1.length<=1000000) (h:(K (jk s c)).satP Q):(PC s c K).satP Q:=by
 unfold jk at h;have hm:([]:List ak.den).length+c.2.2.2.2.1.length<=maxLen/\(([]:List ak.den).length+c.2.2.2.2.1.length)*40<=140737488355328:=by
  simp;exact⟨by unfold maxLen; omega,by omega⟩
 refine⟨λk=>?_,λk=>⟨λk2=>?_,λk2=>⟨λk3=>?_,λk3=>⟨λk4=>?_,λk4=>?_⟩⟩⟩⟩
 ·have k':=eq_of_beq k;rw[if_pos k'] at h;exact h
 ·have k':=ud2 k;have k2':=eq_of_beq k2;rw[if_neg k',if_pos k2'] at h;exact⟨hm,h⟩
 ·have k':=ud2 k;have k2':=ud2 k2;have k3':=eq_of_beq k3;rw[if_neg k',if_neg k2',if_pos k3'] at h;exact h
 ·have k':=ud2 k;have k2':=ud2 k2;have k3':=ud2 k3;have k4':=eq_of_beq k4;rw[if_neg k',if_neg k2',if_neg k3',if_pos k4'] at h;exact h
 ·have k':=ud2 k;have k2':=ud2 k2;have k3':=ud2 k3;have k4':=ud2 k4;rw[if_neg k',if_neg k2',if_neg k3',if_neg k4'] at h;exact h
structure InvC5 (l:List Int) (n i:Int) (h:ap.den) (out:List af.den):Prop where
 i0:0<=i
 il:i<=n
 nl:n=l.length
 few:l.length<=500000
 inl:∀ x∈l,0<=x/\x<((aw h).length:Int)
 cov:∀ c∈aw h,c.2.2.2.2.1.length<=1000000
 outs:(out.length:Int)<=i
def Ge (x:MC.X):Fr wE.Out:=
 let l:List Int:=x.1.1; let n:Int:=x.1.2.1; let i:Int:=x.1.2.2.1; let h:ap.den:=x.2.1; let sp:bR.den:=x.2.2.1; let s:af.den:=x.2.2.2.1; let out:List af.den:=x.2.2.2.2.1.1; let v:az.den:=x.2.2.2.2.2.1
 Jd (InvC5 l n i h out) (Jv (Rd.out ((),(h,sp,(kQ ((l.drop i.toNat).map (aQ h)) s out).1,((kQ ((l.drop i.toNat).map (aQ h)) s out).2,()),v,()))))
def qqc (l:List Int) (n i:Int) (h:ap.den) (sp:bR.den) (s:af.den) (out:List af.den) (v:az.den) (hinv:InvC5 l n i h out) (Q:wE.Out->Prop)
  (hq:Q (Rd.out ((),(h,sp,(kQ ((l.drop i.toNat).map (aQ h)) s out).1,((kQ ((l.drop i.toNat).map (aQ h)) s out).2,()),v,())))) :
  (IF ((l,n,i,()),(h,sp,s,(out,()),v,()))).satP λ
   |.next x'=>InvC5 x'.1.1 x'.1.2.1 x'.1.2.2.1 x'.2.1 x'.2.2.2.2.1.1/\((x'.1.2.1:Int)-x'.1.2.2.1).toNat<(n-i).toNat/\(Ge x').satP Q
   |.out y=>Q (.out y)
   |.back z=>Q (.back z)
   |.pan p=>Q (.pan p):=by
 obtain⟨h0,h1,rfl,h2,h3,h4,h5⟩:=hinv;obtain⟨i',rfl⟩:∃ n:Nat,i=n:=⟨i.toNat,by omega⟩;simp only[ucy] at hq;dsimp only[IF,Ty.den,PT.den];refine⟨λhi=>?_,λhi=>?_⟩
 ·have hlt:i'<l.length:=by have:(i':Int)<(l.length:Int):=ucv hi; omega
  have w:I6.wrap ((i':Int)+1)=(i'+1:Nat):=pD (by omega);rw[w];have hm:=h3 _ (eh (d:=(0:Int)) hlt);rw[qj hlt,uei] at hq;have hcm:aQ h (l.getD i' 0)∈aw h:=by
   exact eh (by omega)
  have hE:=Ib s out (aQ h (l.getD i' 0)).2.1;have hI:InvC5 l (l.length:Int) ((i'+1:Nat):Int) h (jm s out (aQ h (l.getD i' 0)).2.1):=⟨by omega,by omega,rfl,h2,h3,h4,by omega⟩;have hμ:((l.length:Int)-((i'+1:Nat):Int)).toNat<((l.length:Int)-(i':Int)).toNat:=by omega
  refine⟨⟨by omega,by omega⟩,hm,PW (by omega) ⟨hm,qgn (h4 _ hcm) ⟨hI,hμ,hI,hq⟩⟩⟩
 ·have hge:¬ i'<l.length:=by have:¬ (i':Int)<(l.length:Int):=ucf hi; omega
  rw[ua0 (by omega)] at hq;exact hq
def qrt:ah prog (.loop (aC f77 0)) MC wE Ge:=by
 refine ah.loop zaq (μ:=λx=>((x.1.2.1:Int)-x.1.2.2.1).toNat) ?_ (λx Q h=>h.1);rintro⟨⟨l,n,i,_⟩,h,sp,s,⟨out,_⟩,v,_⟩ hinv Q hq;exact qqc l n i h sp s out v hinv Q hq.2
open Go.Ab.Fr renaming val->Jv,need->Jd,br->Jb
noncomputable def Gy:FuncId->Option (Func×(Nat->St->Option Tr)):=dH [(77,(f77,λ_=>wE.han F6.Γ MC Ge))]
def qab:∀ f fn Λ,Gy f=some (fn,Λ)->prog.funcs[f]? = some fn/\∀ c E',fn.body=some c->cH prog E' Λ c 0:=λf fn Λ h=>by
 simp only[Gy,dH] at h;split at h
 ·rename_i hf;subst hf;cases h;exact⟨by kernel_rfl,λc E' hc=>ws hc (by kernel_rfl) (b:=aC f77 0) (by kernel_rfl) (ah.han F8 rfl qrt)⟩
 ·cases h
noncomputable def XS:Cx:=ib [(75,vi),(76,yC),(78,yI)] [] (ne prog F6 Gy)
def M6:CxOK prog XS:=iI (ps:=[]) aG ⟨qz7,zdl,zfn,uT⟩ trivial (q9 F8 qab)
def MO:LS:=⟨[(29,.d i64),(30,.d i64)],[.o 8 122 af,.al 28 8,.x 6 132 az,.r 6 6 0]⟩
def EO:LS:=⟨[],[.o 8 122 af]⟩
def wH:Pt:=⟨56,0,MO,EO,⟨[(4,.d bY),(5,.d i64)],[]⟩⟩
def dB (v:az.den) (s:af.den):Int×Int:=kr v s.2.2.1 s.2.2.2.1
def fq (s:af.den) (y:Int):af.den:=(s.1,s.2.1,s.2.2.1,s.2.2.2.1,y,())
def fO (x:MO.X):Fr wH.Out:=
 let n:Int:=x.1.1; let i:Int:=x.1.2.1; let l:List af.den:=x.2.1; let v:az.den:=x.2.2.1
 let s:af.den:=l.getD i.toNat af.dflt
 Jb (decide (i<n))
  (Jd (0<=i/\i<(l.length:Int)) (Jd (i.toNat<l.length)
   (Jb (!s.2.1) (Jv (Rd.next ((n,I6.wrap (i+1),()),(l,v,()))))
    (Jd (0<=i/\i<(l.length:Int)) (Jd (i.toNat<l.length)
     (Jb ((yI.f (v,s.2.2.1,s.2.2.2.1,())).2.1 != 0) (Jv (Rd.back (([],(yI.f (v,s.2.2.1,s.2.2.2.1,())).2.1,()),())))
      (Jv (Rd.next ((n,I6.wrap (i+1),()),(l.set i.toNat (fq s (yI.f (v,s.2.2.1,s.2.2.2.1,())).1),v,()))))))))))
  (Jv (Rd.out ((),(l,()))))
def zay:ah prog (aC f46 0) MO wH fO:=ah.of_run M6 (bs:=0) rfl rfl rfl (λ_=>bL _ 0) (λx=>by kernel_rfl)
def fW (v:az.den) (s:af.den):af.den:=if s.2.1=true then fq s (dB v s).1 else s
def co (v:az.den):List af.den->Int
 |[]=>0
 |s::l=>if s.2.1=true then (if (dB v s).2=0 then co v l else (dB v s).2) else co v l
structure InvO (n i:Int) (l:List af.den):Prop where
 i0:0<=i
 il:i<=n
 nl:n=l.length
 few:l.length<=1000000
def bO (l:List af.den) (e:Int):Fr wH.Out:=Jb (e != 0) (Jv (Rd.back (([],e,()),()))) (Jv (Rd.out ((),(l,()))))
def FO (x:MO.X):Fr wH.Out:=
 let n:Int:=x.1.1; let i:Int:=x.1.2.1; let l:List af.den:=x.2.1; let v:az.den:=x.2.2.1
 Jd (InvO n i l) (bO (l.take i.toNat++(l.drop i.toNat).map (fW v)) (co v (l.drop i.toNat)))
def qqn (n i:Int) (l:List af.den) (v:az.den) (hinv:InvO n i l) (Q:wH.Out->Prop) (hq:(bO (l.take i.toNat++(l.drop i.toNat).map (fW v)) (co v (l.drop i.toNat))).satP Q) :
  (fO ((n,i,()),(l,v,()))).satP λ
   |.next x'=>InvO x'.1.1 x'.1.2.1 x'.2.1/\((x'.1.1:Int)-x'.1.2.1).toNat<(n-i).toNat/\(FO x').satP Q
   |.out y=>Q (.out y)
   |.back z=>Q (.back z)
   |.pan p=>Q (.pan p):=by
 obtain⟨h0,h1,rfl,h2⟩:=hinv;obtain⟨i',rfl⟩:∃ n:Nat,i=n:=⟨i.toNat,by omega⟩;simp only[ucy] at hq;dsimp only[fO,Ty.den,PT.den];simp only[ucy];refine⟨λhi=>?_,λhi=>?_⟩
 ·have hlt:i'<l.length:=by have:(i':Int)<(l.length:Int):=ucv hi; omega
  have w:I6.wrap ((i':Int)+1)=(i'+1:Nat):=pD (by omega);rw[w];have hg:l.getD i' af.dflt=l[i']:=by rw[uah,uap hlt]; rfl
  have hd:l.drop i'=l.getD i' af.dflt::l.drop (i'+1):=by rw[hg]; exact ual hlt
  have hμ:((l.length:Int)-((i'+1:Nat):Int)).toNat<((l.length:Int)-(i':Int)).toNat:=by omega
  have hb:0<=(i':Int)/\(i':Int)<(l.length:Int):=⟨by omega,by omega⟩;rw[hd] at hq;generalize hs:l.getD i' af.dflt=s at *;have htk:l.take (i'+1)=l.take i'++[s]:=by
   rw[hg];exact(uas hlt).symm
  refine⟨hb,hlt,λhoff=>?_,λhon=>⟨hb,hlt,λhe=>?_,λhe=>?_⟩⟩
  ·have hoff':¬ s.2.1=true:=by
    intro hx;rw[hx] at hoff;cases hoff
   have hI:InvO (l.length:Int) ((i'+1:Nat):Int) l:=⟨by omega,by omega,rfl,h2⟩;refine⟨hI,hμ,hI,?_⟩;have e1:co v (s::l.drop (i'+1))=co v (l.drop (i'+1)):=if_neg hoff';have e2:fW v s=s:=if_neg hoff';rw[e1,uei,e2] at hq;show(bO (l.take (i'+1)++(l.drop (i'+1)).map (fW v)) (co v (l.drop (i'+1)))).satP Q;rw[htk,ucp];exact hq
  ·have hon':s.2.1=true:=by
    cases hx:s.2.1 with
    |true=>rfl
    |false=>rw[hx] at hon; cases hon
   have he':¬ (dB v s).2=0:=ufm.1 he;have e1:co v (s::l.drop (i'+1))=(dB v s).2:=by
    unfold co;rw[if_pos hon',if_neg he']
   rw[e1] at hq;exact hq.1 he
  ·have hon':s.2.1=true:=by
    cases hx:s.2.1 with
    |true=>rfl
    |false=>rw[hx] at hon; cases hon
   have he':(dB v s).2=0:=by
    have:((dB v s).2 != 0)=false:=he;simpa using this
   have hlen:(l.set i' (fq s (dB v s).1)).length=l.length:=udm;have hI:InvO (l.length:Int) ((i'+1:Nat):Int) (l.set i' (fq s (dB v s).1)):=⟨by omega,by omega,by rw[hlen],by rw[hlen]; exact h2⟩;refine⟨hI,hμ,hI,?_⟩;have e1:co v (s::l.drop (i'+1))=co v (l.drop (i'+1)):=by
    conv=>lhs; unfold co
    rw[if_pos hon',if_pos he']
   have e2:fW v s=fq s (dB v s).1:=if_pos hon';rw[e1,uei,e2] at hq;show(bO ((l.set i' (fq s (dB v s).1)).take (i'+1)++((l.set i' (fq s (dB v s).1)).drop (i'+1)).map (fW v)) (co v ((l.set i' (fq s (dB v s).1)).drop (i'+1)))).satP Q;have e3:(l.set i' (fq s (dB v s).1)).drop (i'+1)=l.drop (i'+1):=List.drop_set_of_lt (by omega);have e4:(l.set i' (fq s (dB v s).1)).take (i'+1)=l.take i'++[fq s (dB v s).1]:=by
    rw[List.take_add_one,List.take_set_of_le (by omega)];simp[hlt]
   rw[e3,e4,ucp];exact hq
 ·have hge:¬ i'<l.length:=by have:¬ (i':Int)<(l.length:Int):=ucf hi; omega
  rw[ua0 (by omega),ua1 (by omega)] at hq;have hq':=hq.2 rfl;simp at hq';exact hq'
def qr3:ah prog (.loop (aC f46 0)) MO wH FO:=by
 refine ah.loop zay (μ:=λx=>((x.1.1:Int)-x.1.2.1).toNat) ?_ (λx Q h=>h.1);rintro⟨⟨n,i,_⟩,l,v,_⟩ hinv Q hq;exact qqn n i l v hinv Q hq.2
def Dp (v:az.den) (l:List af.den):Fr (ae [bY,i64]):=
 let a:=l.drop (0:Int).toNat;Jd (InvO l.length 0 l) (Jb (co v a != 0) (Jv ([],co v a,())) (Jv (l.take (0:Int).toNat++a.map (fW v),0,())))
def na (h:ap.den):af.den×List af.den:=kQ (((bQ h).drop (0:Int).toNat).map (aQ h)) ((h.2.2.1.1.1,0,()),true,h.2.2.1.2.1,[]++h.2.2.1.2.2.1,0,()) []
def Dq (x:aq [.d ap,.d aP]):Fr (ae [bY,i64]):=
 let c:=x.1.2.2.1;let b:=([]:List ak.den);let a:=yC.f (x.2.1,c.1.1,());Jb (!(vi.f (x.1,())).1) (Jv ([],1,()))
  (Jd (bT x.2.1)
   (Jb (a.2.1 != 0) (Jv ([],a.2.1,()))
    (Jd (b.length+c.2.2.1.length<=maxLen/\(b.length+c.2.2.1.length)*40<=140737488355328)
     (Jd (((aw x.1).length:Int)<=1000000)
      (Jd (InvC5 (bQ x.1) ((bQ x.1).length:Int) 0 x.1 [])
       (Ic (na x.1).1 (na x.1).2 c.1.2.1 (Dp a.1)))))))
def of_run:aa prog 46 (aL [.d ap,.d aP] [bY,i64] Dq):=
 bz M6 qr3
def bD (h:ap.den):Prop:=(aw h).length<=500000/\h.2.2.1.2.2.1.length<=1000000/\∀ c∈aw h,c.2.2.2.2.1.length<=1000000
def bJ (h:ap.den) (t:aP.den):List af.den×Int:=
 if gq h=true then
  (if (bB h.2.2.1.1.1 t.1.reverse).2=0 then
   (if co (bB h.2.2.1.1.1 t.1.reverse).1 (ez h)=0 then ((ez h).map (fW (bB h.2.2.1.1.1 t.1.reverse).1),0) else ([],co (bB h.2.2.1.1.1 t.1.reverse).1 (ez h)))
  else ([],(bB h.2.2.1.1.1 t.1.reverse).2))
 else ([],1)
def ew:Ct:=⟨[.d ap,.d aP],[bY,i64],λx=>((bJ x.1 x.2.1).1,(bJ x.1 x.2.1).2,()),λx=>[bD x.1,bT x.2.1]⟩
def Al (h:ap.den):(bQ h).length=(aw h).length:=by
 unfold bQ;rw[mA,KQ]
def tc {h:ap.den} {x:Int} (hx:x∈bQ h):0<=x/\x<((aw h).length:Int):=KR (oa.1 hx)
def Rm:(l:List ar.den)->(s:af.den)->(out:List af.den)->(kQ l s out).2.length<=out.length+l.length
 |[],_,_=>ufa _
 |c::l,s,out=>by
  have h1:=Rm l (jk ((c.2.1,s.1.2.1,()),s.2) c) (jm s out c.2.1);have h2:=Ib s out c.2.1;simp only[kQ,uc7];omega
def Kx:aa prog 46 ew:=
 cg of_run _ _ (λw F x vs hr hok=>by
  obtain⟨h,t,_⟩:=x;obtain⟨⟨f1,f2,f3⟩,f4⟩:bD h/\bT t:=hok;unfold bJ;cases hh:gq h with
  |false=>
   refine ay ?_ ⟨uT,rfl⟩;show(!(gq h))=true;rw[hh];rfl
  |true=>
   refine ax ?_ (au f4 ?_)
   ·show(!(gq h))=false;rw[hh];rfl
   ·by_cases hv:(bB h.2.2.1.1.1 t.1.reverse).2=0
    ·rw[if_pos hv];refine ax ?_ (au ?_ (au ?_ (au ?_ ?_)))
     ·show((bB h.2.2.1.1.1 t.1.reverse).2 != 0)=false;rw[hv];rfl
     ·show([]:List ak.den).length+h.2.2.1.2.2.1.length<=maxLen/\(([]:List ak.den).length+h.2.2.1.2.2.1.length)*40<=140737488355328;simp;exact⟨by unfold maxLen; omega,by omega⟩
     ·show((aw h).length:Int)<=1000000;omega
     ·show InvC5 (bQ h) ((bQ h).length:Int) 0 h [];exact⟨ufb _,ub2 _,rfl,by rw[Al]; exact f1,λx hx=>tc hx,f3,ufb _⟩
     ·have hgo:(na h).2.length<=500000:=by
       have:=Rm (((bQ h).drop (0:Int).toNat).map (aQ h)) ((h.2.2.1.1.1,0,()),true,h.2.2.1.2.1,[]++h.2.2.1.2.2.1,0,()) [];have e:(((bQ h).drop (0:Int).toNat).map (aQ h)).length=(aw h).length:=by
        rw[ud0];exact Al h
       rw[e] at this;have h2:(na h).2.length<=0+(aw h).length:=this;omega
      have hcut:jm (na h).1 (na h).2 h.2.2.1.1.2.1=ez h:=rfl;have hclen:(ez h).length<=1000000:=by
       rw[<- hcut];have:=Ib (na h).1 (na h).2 h.2.2.1.1.2.1;omega
      have hkey:(Dp (bB h.2.2.1.1.1 t.1.reverse).1 (ez h)).ok/\(Dp (bB h.2.2.1.1.1 t.1.reverse).1 (ez h)).get=((if co (bB h.2.2.1.1.1 t.1.reverse).1 (ez h)=0 then ((ez h).map (fW (bB h.2.2.1.1.1 t.1.reverse).1),(0:Int)) else ([],co (bB h.2.2.1.1.1 t.1.reverse).1 (ez h))).1,(if co (bB h.2.2.1.1.1 t.1.reverse).1 (ez h)=0 then ((ez h).map (fW (bB h.2.2.1.1.1 t.1.reverse).1),(0:Int)) else ([],co (bB h.2.2.1.1.1 t.1.reverse).1 (ez h))).2,()):=by
       refine au ⟨ufb _,ub2 _,rfl,hclen⟩ ?_;by_cases he:co (bB h.2.2.1.1.1 t.1.reverse).1 (ez h)=0
       ·rw[if_pos he];refine ax ?_ ⟨uT,rfl⟩;show(co (bB h.2.2.1.1.1 t.1.reverse).1 (ez h) != 0)=false;rw[he];rfl
       ·rw[if_neg he];exact ay (ufm.2 he) ⟨uT,rfl⟩
      have hs:=PW (out:=(na h).2) (Q:=λy=>y=((if co (bB h.2.2.1.1.1 t.1.reverse).1 (ez h)=0 then ((ez h).map (fW (bB h.2.2.1.1.1 t.1.reverse).1),(0:Int)) else ([],co (bB h.2.2.1.1.1 t.1.reverse).1 (ez h))).1,(if co (bB h.2.2.1.1.1 t.1.reverse).1 (ez h)=0 then ((ez h).map (fW (bB h.2.2.1.1.1 t.1.reverse).1),(0:Int)) else ([],co (bB h.2.2.1.1.1 t.1.reverse).1 (ez h))).2,())) (by omega) (by
       exact mH hkey.1 hkey.2)
      exact xQ hs
    ·rw[if_neg hv];refine ay ?_ ⟨uT,rfl⟩;exact ufm.2 hv)
open Go.Ab.Fr renaming val->Jv,need->Jd,br->Jb
abbrev cO:Ty:=.pair i64 (.pair i64 (.pair i64 (.pair i64 (.pair i64 (.pair i64 .unit)))))
def yx:Ct:=⟨[.d i64],[.bool],λx=>(decide (1<=x.1/\x.1<=1000000000),()),λ_=>[]⟩
def Ck:Ct:=⟨[.d i64],[.bool],λx=>(decide (1<=x.1/\x.1<=292194),()),λ_=>[]⟩
def LT (n a b:Int):(bif decide (n>=a) then decide (n<=b) else false)=decide (a<=n/\n<=b):=by
 rw[udv];simp
def qn7:aa prog 90 yx:=
 flat (ps:=[.d i64]) (rs:=[.bool]) (aJ (cs:=[]) (ps:=[]) aG trivial trivial) (fn:=f90) (fr:=λx=>Jv (bif decide (x.1>=1) then decide (x.1<=1000000000) else false,())) (0,()) (by kernel_rfl) (λx=>by kernel_rfl) _ _
  (λ_ _ x _ _ _=>⟨uT,ufw (LT x.1 1 1000000000) rfl⟩)
def qft:aa prog 91 Ck:=
 flat (ps:=[.d i64]) (rs:=[.bool]) (aJ (cs:=[]) (ps:=[]) aG trivial trivial) (fn:=f91) (fr:=λx=>Jv (bif decide (x.1>=1) then decide (x.1<=292194) else false,())) (0,()) (by kernel_rfl) (λx=>by kernel_rfl) _ _
  (λ_ _ x _ _ _=>⟨uT,ufw (LT x.1 1 292194) rfl⟩)
def vC (i p k l b e:Int):Bool:=decide (1<=i/\i<=1000000000)&&(decide (1<=p/\p<=1000000000)&&(decide (0<=e/\e<=1000000000)&&(decide (0<=k/\k<=7)&&(decide (1<=l/\l<=292194)&&decide (1<=b/\b<=292194)))))
def uV:Ct:=⟨[.d cO],[.bool],λx=>(vC x.1.1 x.1.2.1 x.1.2.2.1 x.1.2.2.2.1 x.1.2.2.2.2.1 x.1.2.2.2.2.2.1,()),λ_=>[]⟩
def qc:Ct:=⟨[.d i64,.d i64,.d i64],[.bool],λx=>(decide (x.2.1<=x.1/\x.1<=x.2.2.1),()),λ_=>[]⟩
def qof:aa prog 199 qc:=
 flat (ps:=[.d i64,.d i64,.d i64]) (rs:=[.bool]) (aJ (cs:=[]) (ps:=[]) aG trivial trivial) (fn:=f199) (fr:=λx=>Jv (bif decide (x.1>=x.2.1) then decide (x.1<=x.2.2.1) else false,())) (0,0,0,()) (by kernel_rfl) (λx=>by kernel_rfl) _ _
  (λ_ _ x _ _ _=>⟨uT,ufw (LT x.1 x.2.1 x.2.2.1) rfl⟩)
noncomputable def Xv:Cx:=cx [(90,yx),(91,Ck),(199,qc)] []
def My:CxOK prog Xv:=aJ aG ⟨qn7,qft,qof,uT⟩ trivial
def qmh (x:aq [.d cO]):Fr (ae [.bool]):=
 let c:cO.den:=x.1
 Jv (bif bif bif bif bif bif (yx.f (c.1,())).1 then (yx.f (c.2.1,())).1 else false then (bif c.2.2.2.2.2.1==0 then true else (yx.f (c.2.2.2.2.2.1,())).1) else false then decide (c.2.2.1>=0) else false then decide (c.2.2.1<=7) else false then (Ck.f (c.2.2.2.1,())).1 else false then (Ck.f (c.2.2.2.2.1,())).1 else false,())
def qul (i p k l b e:Int):(bif bif bif bif bif bif decide (1<=i/\i<=1000000000) then decide (1<=p/\p<=1000000000) else false then (bif e==0 then true else decide (1<=e/\e<=1000000000)) else false then decide (k>=0) else false then decide (k<=7) else false then decide (1<=l/\l<=292194) else false then decide (1<=b/\b<=292194) else false)=vC i p k l b e:=by
 have e1:(bif e==0 then true else decide (1<=e/\e<=1000000000))=decide (0<=e/\e<=1000000000):=by
  rw[udv];simp;omega
 have e2:decide (0<=k/\k<=7)=(decide (k>=0)&&decide (k<=7)):=by
  rw[udv];simp
 unfold vC;rw[e1,e2];cases decide (1<=i/\i<=1000000000)<;>cases decide (1<=p/\p<=1000000000)<;>cases decide (0<=e/\e<=1000000000)<;>cases decide (k>=0)<;>cases decide (k<=7)<;>cases decide (1<=l/\l<=292194)<;>rfl
def quc:aa prog 55 uV:=
 flat (ps:=[.d cO]) (rs:=[.bool]) My (fn:=f55) (fr:=qmh) (cO.dflt,()) (by kernel_rfl) (λx=>by kernel_rfl) _ _
  (λ_ _ x _ _ _=>by
   obtain⟨⟨i,p,k,l,b,e,_⟩,_⟩:=x;exact⟨uT,ufw (qul i p k l b e) rfl⟩)
def qmj (x:aq [.d cO]):Fr (ae [.bool]):=
 let c:cO.den:=x.1
 Jv (bif bif bif bif bif (qc.f (c.1,1,1000000000,())).1 then (qc.f (c.2.1,1,1000000000,())).1 else false then (qc.f (c.2.2.2.2.2.1,0,1000000000,())).1 else false then (qc.f (c.2.2.1,0,7,())).1 else false then (qc.f (c.2.2.2.1,1,292194,())).1 else false then (qc.f (c.2.2.2.2.1,1,292194,())).1 else false,())
def qzv (i p k l b e:Int):(bif bif bif bif bif decide (1<=i/\i<=1000000000) then decide (1<=p/\p<=1000000000) else false then decide (0<=e/\e<=1000000000) else false then decide (0<=k/\k<=7) else false then decide (1<=l/\l<=292194) else false then decide (1<=b/\b<=292194) else false)=vC i p k l b e:=by
 unfold vC;cases decide (1<=i/\i<=1000000000)<;>cases decide (1<=p/\p<=1000000000)<;>cases decide (0<=e/\e<=1000000000)<;>cases decide (0<=k/\k<=7)<;>cases decide (1<=l/\l<=292194)<;>rfl
def qyf:aa prog 170 uV:=
 flat (ps:=[.d cO]) (rs:=[.bool]) My (fn:=f170) (fr:=qmj) (cO.dflt,()) (by kernel_rfl) (λx=>by kernel_rfl) _ _
  (λ_ _ x _ _ _=>by
   obtain⟨⟨i,p,k,l,b,e,_⟩,_⟩:=x;exact⟨uT,ufw (qzv i p k l b e) rfl⟩)
open Go.Ab.Fr renaming val->Jv,need->Jd,br->Jb
abbrev aN:Ty:=.pair i64 (.pair i64 (.pair i64 .unit))
abbrev av:Ty:=.pair i64 (.pair i64 (.pair bR (.pair i64 (.pair i64 (.pair i64 (.pair i64 (.pair i64 .unit)))))))
abbrev factT:Ty:=.pair i64 (.pair i64 (.pair i64 (.pair i64 (.pair i64 (.pair cr (.pair ar (.pair cO (.pair aN (.pair av .unit)))))))))
abbrev jourT:Ty:=.pair aP (.pair (.sl factT) .unit)
abbrev aT:Ty:=.pair ap (.pair i64 .unit)
abbrev aB:Ty:=.pair cO (.pair (.sl aN) .unit)
abbrev ag:Ty:=.pair aP (.pair (.sl aT) (.pair (.sl aB) (.pair (.sl av) (.pair i64 .unit))))
open Go.Ab.Fr renaming val->Jv,need->Jd,br->Jb
def dI {α:Type} (g:α->Bool):List α->Int->Option Int
 |[],_=>none
 |x::r,i=>if g x=true then some i else dI g r (i+1)
abbrev mX (T:Ty):PT:=.fn [T] [.bool]
def yc (T:Ty):LS:=⟨[(0,.d (.sl T)),(1,mX T),(7,.d i64),(8,.d i64)],[]⟩
def wF (T:Ty):Pt:=⟨19,0,yc T,⟨[],[]⟩,⟨[(4,.d i64)],[]⟩⟩
def Ij (T:Ty) (x:(yc T).X):Fr (wF T).Out:=
 match x with
 |((l,g,n,i,_),_)=>Jb (decide (i<n))
  (Jd (0<=i/\i<l.length)
   (Jb (g (l.getD i.toNat T.dflt,())).1 (Jv (Rd.back ((i,()),())))
    (Jv (Rd.next ((l,g,n,I6.wrap (i+1),()),())))))
  (Jv (Rd.out ((),())))
def rQ {α:Type} (l:List α) (n i:Int):Prop:=0<=i/\i<=n/\n=l.length/\n<=9223372036854775807
def Nl (T:Ty) (x:(yc T).X):Fr (wF T).Out:=
 Jd (rQ x.1.1 x.1.2.2.1 x.1.2.2.2.1) (Jb (dI (λn=>(x.1.2.1 (n,())).1) (x.1.1.drop x.1.2.2.2.1.toNat) x.1.2.2.2.1).isSome
   (Jv (.back (((dI (λn=>(x.1.2.1 (n,())).1) (x.1.1.drop x.1.2.2.2.1.toNat) x.1.2.2.2.1).getD (-1),()),()))) (Jv (.out ((),()))))
def qqk (T:Ty) (l:List T.den) (g:ae [T]->ae [.bool]) (n i:Int) (hinv:rQ l n i) (Q:(wF T).Out->Prop) (hq:(Jb (dI (λn=>(g (n,())).1) (l.drop i.toNat) i).isSome (Jv (Rd.back (((dI (λn=>(g (n,())).1) (l.drop i.toNat) i).getD (-1),()),()))) (Jv (Rd.out ((),())))  : Fr (wF T).Out).satP Q) :
  (Ij T ((l,g,n,i,()),())).satP λ
   |.next x'=>rQ x'.1.1 x'.1.2.2.1 x'.1.2.2.2.1/\(x'.1.2.2.1-x'.1.2.2.2.1).toNat<(n-i).toNat/\(Nl T x').satP Q
   |.out y=>Q (.out y)
   |.back z=>Q (.back z)
   |.pan p=>Q (.pan p):=by
 obtain⟨h1,h2,h3,h4⟩:=hinv;subst h3;refine⟨λhi=>?_,λhi=>?_⟩
 ·have hi':i<(l.length:Int):=ucv hi;obtain⟨k,rfl⟩:∃ k:Nat,i=k:=⟨i.toNat,by omega⟩;have hl:k<l.length:=by omega
  have g1:l.getD (k:Int).toNat T.dflt=l[k]:=by
   rw[show(k:Int).toNat=k by omega,uah,uap hl]; rfl
  have hw:I6.wrap ((k:Int)+1)=k+1:=IntWalk.i64_in _ (by omega);have hd:l.drop (k:Int).toNat=l[k]::l.drop (k+1):=by
   rw[show(k:Int).toNat=k by omega];exact(ual hl)
  rw[hd] at hq;dsimp only[Ij,Fr.satP];rw[g1,hw];refine⟨⟨by omega,by omega⟩,λhb=>?_,λhb=>?_⟩
  ·have:dI (λn=>(g (n,())).1) (l[k]::l.drop (k+1)) k=some (k:Int):=if_pos hb;rw[this] at hq;exact hq.1 rfl
  ·have hb':¬ (g (l[k],())).1=true:=by rw[hb]; decide
   have:dI (λn=>(g (n,())).1) (l[k]::l.drop (k+1)) k=dI (λn=>(g (n,())).1) (l.drop (k+1)) (k+1):=if_neg hb';rw[this] at hq;have hI:rQ l l.length ((k:Int)+1):=⟨by omega,by omega,rfl,h4⟩;refine⟨hI,by omega,hI,?_⟩;rw[show((k:Int)+1).toNat=k+1 by omega];exact hq
 ·have hi':¬ i<(l.length:Int):=ucf hi;have e:l.drop i.toNat=[]:=ua0 (by omega);rw[e] at hq;exact hq.2 rfl
def Kh {p:Program} {b:Code} (T:Ty) (sem:ah p b (yc T) (wF T) (Ij T)):ah p (.loop b) (yc T) (wF T) (Nl T):=by
 refine ah.loop (n:=19) (id:=0) sem (inv:=λx=>rQ x.1.1 x.1.2.2.1 x.1.2.2.2.1) (μ:=λx=>(x.1.2.2.1-x.1.2.2.2.1).toNat) ?_ (λx Q h=>h.1);rintro⟨⟨l,g,n,i,_⟩,_⟩ hinv Q hq;exact qqk T l g n i hinv Q hq.2
def jw {α:Type} (g:α->Bool) (l:List α):Int:=(dI g l 0).getD (-1)
def jd (T:Ty):Ct:=⟨[.d (.sl T),mX T],[i64],λx=>(jw (λn=>(x.2.1 (n,())).1) x.1,()),λ_=>[]⟩
def zw (T:Ty) (x:aq [.d (.sl T),mX T]):Fr (ae [i64]):=Jd (rQ x.1 x.1.length 0) (Jb (dI (λn=>(x.2.1 (n,())).1) x.1 0).isSome (Jv ((dI (λn=>(x.2.1 (n,())).1) x.1 0).getD (-1),())) (Jv (-1,())))
def JY {p:Program} {f:FuncId} {T:Ty} (h:aa p f ⟨[.d (.sl T),mX T],[i64],λx=>(zw T x).get,λx=>[(zw T x).ok]⟩):aa p f (jd T):=
 conv h _ _ (λw F x vs hr _=>by
  obtain⟨l,g,_⟩:=x;obtain⟨v,vs',rfl,hv,_⟩:=hr;have hlen:(l.length:Int)<=9223372036854775807:=fw hv;have hI:rQ l l.length 0:=⟨by omega,by omega,rfl,hlen⟩;refine au hI ?_;cases hf:dI (λn=>(g (n,())).1) l 0 with
  |some k=>exact ay rfl ⟨uT,by show(k,())=_; unfold jw; rw[hf]; rfl⟩
  |none=>exact ax rfl ⟨uT,by show((-1:Int),())=_; unfold jw; rw[hf]; rfl⟩)
def Q4 {α:Type} (g:α->Bool):(l:List α)->(i:Int)->0<=i->decide ((dI g l i).getD (-1)>=0)=l.any g
 |[],_,_=>rfl
 |x::r,i,h=>by
  unfold dI;simp only[List.any_cons];split
  ·rename_i hx;rw[hx];simp[h]
  ·rename_i hx;rw[Q4 g r (i+1) (by omega)];simp[hx]
def RR {α:Type} (g:α->Bool) (l:List α):decide (0<=jw g l)=l.any g:=Q4 g l 0 (by omega)
def Q3 {α:Type} (g:α->Bool):(l:List α)->(i k:Int)->dI g l i=some k->i<=k/\k<i+l.length/\∃ x,l[(k-i).toNat]? = some x/\g x=true
 |[],_,_,h=>nomatch h
 |x::r,i,k,h=>by
  unfold dI at h;split at h
  ·rename_i hx;cases h;exact⟨by omega,by simp only[uc7]; omega,x,by rw[show(i-i).toNat=0 by omega]; rfl,hx⟩
  ·obtain⟨h1,h2,y,h3,h4⟩:=Q3 g r (i+1) k h;refine⟨by omega,by simp only[uc7]; omega,y,?_,h4⟩;rw[show(k-i).toNat=(k-(i+1)).toNat+1 by omega];exact h3
def zU {α:Type} {g:α->Bool} {l:List α} (h:0<=jw g l):jw g l<l.length/\∃ x,l[(jw g l).toNat]? = some x/\g x=true:=by
 unfold jw at h |-;cases hf:dI g l 0 with
 |none=>rw[hf] at h; exact absurd h (by decide)
 |some k=>
  obtain⟨h1,h2,x,h3,h4⟩:=Q3 g l 0 k hf;rw[uda];exact⟨by omega,x,by simpa using h3,h4⟩
def yo (T:Ty):Ct:=⟨[.d (.sl T),mX T],[.bool],λx=>(x.1.any (λn=>(x.2.1 (n,())).1),()),λ_=>[]⟩
def RQ:aa prog 80 (jd aT):=
 JY (bz (fn:=f80) eI (Kh aT (ah.of_run eI (bs:=0) rfl rfl rfl (λ_=>bL _ 0) (λx=>by kernel_rfl))) (ps:=[.d (.sl aT),mX aT]) (rs:=[i64]) (fr:=zw aT))
def JR:aa prog 93 (jd aB):=
 JY (bz (fn:=f93) eI (Kh aB (ah.of_run eI (bs:=0) rfl rfl rfl (λ_=>bL _ 0) (λx=>by kernel_rfl))) (ps:=[.d (.sl aB),mX aB]) (rs:=[i64]) (fr:=zw aB))
def RS:aa prog 301 (jd av):=
 JY (bz (fn:=f301) eI (Kh av (ah.of_run eI (bs:=0) rfl rfl rfl (λ_=>bL _ 0) (λx=>by kernel_rfl))) (ps:=[.d (.sl av),mX av]) (rs:=[i64]) (fr:=zw av))
noncomputable def YP:Cx:=cx [(93,jd aB)] []
def YQ:CxOK prog YP:=aJ aG ⟨JR,uT⟩ trivial
def qax:aa prog 268 (yo aB):=
 conv (aH YQ f268 (fr:=λx=>Jv (decide (jw (λn=>(x.2.1 (n,())).1) x.1>=0),())) (ps:=[.d (.sl aB),mX aB]) (rs:=[.bool])) _ _
  (λ_ _ x _ _ _=>⟨uT,ufw (RR _ x.1) rfl⟩)
noncomputable def YR:Cx:=cx [(301,jd av)] []
def YS:CxOK prog YR:=aJ aG ⟨RS,uT⟩ trivial
def NJ:aa prog 297 (yo av):=
 conv (aH YS f297 (fr:=λx=>Jv (decide (jw (λn=>(x.2.1 (n,())).1) x.1>=0),())) (ps:=[.d (.sl av),mX av]) (rs:=[.bool])) _ _
  (λ_ _ x _ _ _=>⟨uT,ufw (RR _ x.1) rfl⟩)
end Go.Proofs.YtgieagiaagoogaaGreat
namespace Go.Proofs.YtgieagiaagoogaaGreat
open Go Go.Ab Go.RowKit Go.Proofs Go.Shelf Go.Lib Tryz
open Go.Ab.Fr renaming val->Jv,need->Jd,br->Jb
set_option maxRecDepth 100000 in
def DA:∃ i0 z,InsTy prog 25 56 3 i0 z 11 120:=
 have ⟨i0,h1,h2,h3,h4⟩:=ufn (show(prog.info? 56).map (λi=>(i.zero,i.size,i.bytes))=some (some (.agg #[.int .i64 0,.int .i64 0,.int .i64 0,.int .i64 0,.int .i64 0,.int .i64 0,.int .i64 0,.int .i64 0,.slice none 0 0,.slice none 0 0,.int .i64 0]),11,120) by kernel_rfl)
 ⟨i0,_,underlying25,underlying3,h1,h2,h3,h4,rfl,by decide⟩
set_option maxHeartbeats 4000000 in
set_option maxRecDepth 100000 in
def qol:BA prog 261 56 11 120:=by
 intro w B n s v xs news hB hs hv h1 h63 hby;obtain⟨i0,z,T⟩:=DA;obtain⟨vb,vc,v',w',rfl,hr',e3,e2,e4⟩:=T.fin hB hs hv h1 h63 hby;have hn:(n:Int)<=9223372036854775807:=by unfold maxLen at h63; omega
 go_enter func261,ntmps261
 rcases hs.2 with ⟨rfl,rfl⟩|⟨g,cap,cur,rfl,hbg,hg,hnc,hcm,hcs,htake⟩
 all_goals go_wp2_with (at_builtin; refine Lib.wpList_append_run _ rfl _ _ _ _ rfl _ _ rfl rfl _ _ (hr' _) ?_)
 all_goals (go_ret; exact⟨_,rfl,e3,e2,e4⟩)
set_option maxHeartbeats 4000000 in
set_option maxRecDepth 100000 in
def qoo:BC prog 261 56 11:=by
 intro w n i g cap vb vc cur xs news hi hg hcs hroom hcm htake vcur hvg hne hnl hvt hvc hvs h1x h1;obtain⟨i0,z,T⟩:=DA;have hc63:cap<=9223372036854775807:=by unfold maxLen at hcm; omega
 obtain⟨hz2,hw1,hb1,htn,hin,_,hb3⟩:=wm hi (by omega);have hb2:¬ (cap=i+1):=by omega
 have hb4:¬ (cap=i):=by omega
 obtain⟨C1,C2,hcp1,hcp2,k2,k3⟩:=T.shift hi hg hcs hroom htake hvg hne hnl hvt h1x h1 (vc:=vc);have hov:∀ lb cb,(callFunc 263 #[.slice (some ⟨vb,0,none⟩) 1 vc,.slice (some ⟨g,(i+1)*11,none⟩) lb cb]).run prog w = .ok (.value (.bool false)) w:=λlb cb=>by
  rw[run_callFunc_extern func263 (by kernel_rfl) (by kernel_rfl) (by kernel_rfl) (e:=Extern.SlicesOverlaps.overlaps #[25,25] #[4]) (by kernel_rfl),
   Lib.run_overlaps_apart w 25 4 56 T.us 11 (λw=>by kernel_rfl) ⟨vb,0,none⟩ ⟨g,(i+1)*11,none⟩ 1 vc lb cb hne 56 56 vcur.size cur.size (by simp[World.shape?,hvg]) (by simp[World.shape?,hg]) (by omega) (by simp[World.frozen?,hvg]) (by simp[World.frozen?,hvg])]
  rfl
 go_enter func261,ntmps261
 go_wp2_with (simp only[hov])
 go_region_law (refine xy rfl _ _ 25 25 rfl _ _ (by simp[Act.eval,Act.put]) (by simp[Act.eval,Act.put]) (hcp1 _ _ _) ?_)
 go_wp2_with (at_builtin; refine pJ _ rfl _ _ 25 25 rfl _ _ rfl rfl (hcp2 _ _) ?_)
 go_ret
 exact⟨C2,rfl,rfl,k2,k3⟩
set_option maxHeartbeats 4000000 in
set_option maxRecDepth 100000 in
def qom:BB prog 261 56 11 120:=by
 intro w n i g cap vb vc cur xs news hi hg hcs hnc hroom htake vcur hvg hnl hvt h1x h1 h63 hby;obtain⟨i0,z,T⟩:=DA;have hn63:n<=9223372036854775806:=by unfold maxLen at h63; omega
 obtain⟨hz2,hw1,hb1,htn,hin,hb3,_⟩:=wm hi hn63;obtain⟨G,ROW,C1,C2,hrz,hcpA,hcpB,hGn,hGm,hgr,hhe,k2,k3⟩:=T.grow hi hg hcs hnc hroom htake hvg hnl hvt h1x h1 h63 hby (vc:=vc);have hz3:(cap:Int)<(n:Int)+(1:Int):=by omega
 have hGi:¬ (G=i):=by omega
 have hGim:¬ (G=i+1):=by omega
 have hci:¬ (cap=i):=by omega
 have hG63:G<=9223372036854775807:=by unfold maxLen at hGm; omega
 go_enter func261,ntmps261
 go_wp2_with (first
  |(at_builtin; refine Lib.wpList_append_run _ rfl _ _ _ _ rfl _ _ rfl rfl _ _ (hrz _) ?_)
  |(at_builtin; refine pJ _ rfl _ _ 25 25 rfl _ _ rfl rfl (hcpA _ _) ?_)
  |(at_builtin; refine pJ _ rfl _ _ 25 25 rfl _ _ rfl rfl (hcpB _ _ _) ?_))
 go_region_law (refine xy rfl _ _ 25 25 rfl _ _ (by simp[Act.eval,Act.put]) (by simp[Act.eval,Act.put]) (hcpB _ _ _) ?_)
 go_wp2
 go_ret
 exact⟨G,C2,rfl,hgr,hhe,hGn,hGm,k2,k3⟩
def qon:InsOK prog 261 56 aT 120:=JX (enters_of func261 (by kernel_rfl) rfl) qol qom qoo
set_option maxHeartbeats 4000000 in
set_option maxRecDepth 100000 in
def qcy:CloneOK prog 262 56 aT 120:=by
 refine⟨enters_of func262 (by kernel_rfl) rfl,λw n c A xs hnc hA hxl hxc h1 h63 hby=>?_⟩;obtain⟨i0,z,T⟩:=DA;have hcmp:=T.nil w
 go_enter func262,ntmps262
 cases A with
 |none=>
  have h0:=hA rfl;subst h0;have hx:xs=[]:=uab (by simpa using hxl);subst hx
  go_wp2_with (simp only[hcmp])
  go_ret
  exact⟨_,rfl,⟨rfl,rfl,rfl,ufa _,λ_ _ _=>rfl⟩,ucq _ _ _ _⟩
 |some ad=>
  obtain⟨v',w',hr',e3,e2⟩:=T.clone hxl (hxc ad rfl) h1 h63 hby (n:=n) (c:=c)
  go_wp2_with (first|(simp only[hcmp]; done)|simp only[hcmp]|(at_builtin; refine Lib.wpList_append_run _ rfl _ _ _ _ rfl _ _ rfl rfl _ _ (hr' _) ?_))
  go_ret
  exact⟨v',rfl,e3,e2⟩
open Go.Ab.Fr renaming val->Jv,need->Jd,br->Jb
set_option maxRecDepth 100000 in
def DB:∃ i0 z,InsTy prog 26 76 3 i0 z 7 72:=
 have ⟨i0,h1,h2,h3,h4⟩:=ufn (show(prog.info? 76).map (λi=>(i.zero,i.size,i.bytes))=some (some (.agg #[.int .i64 0,.int .i64 0,.int .i64 0,.int .i64 0,.int .i64 0,.int .i64 0,.slice none 0 0]),7,72) by kernel_rfl)
 ⟨i0,_,underlying26,underlying3,h1,h2,h3,h4,rfl,by decide⟩
set_option maxHeartbeats 4000000 in
set_option maxRecDepth 100000 in
def qop:BA prog 278 76 7 72:=by
 intro w B n s v xs news hB hs hv h1 h63 hby;obtain⟨i0,z,T⟩:=DB;obtain⟨vb,vc,v',w',rfl,hr',e3,e2,e4⟩:=T.fin hB hs hv h1 h63 hby;have hn:(n:Int)<=9223372036854775807:=by unfold maxLen at h63; omega
 go_enter func278,ntmps278
 rcases hs.2 with ⟨rfl,rfl⟩|⟨g,cap,cur,rfl,hbg,hg,hnc,hcm,hcs,htake⟩
 all_goals go_wp2_with (at_builtin; refine Lib.wpList_append_run _ rfl _ _ _ _ rfl _ _ rfl rfl _ _ (hr' _) ?_)
 all_goals (go_ret; exact⟨_,rfl,e3,e2,e4⟩)
set_option maxHeartbeats 4000000 in
set_option maxRecDepth 100000 in
def qos:BC prog 278 76 7:=by
 intro w n i g cap vb vc cur xs news hi hg hcs hroom hcm htake vcur hvg hne hnl hvt hvc hvs h1x h1;obtain⟨i0,z,T⟩:=DB;have hc63:cap<=9223372036854775807:=by unfold maxLen at hcm; omega
 obtain⟨hz2,hw1,hb1,htn,hin,_,hb3⟩:=wm hi (by omega);have hb2:¬ (cap=i+1):=by omega
 have hb4:¬ (cap=i):=by omega
 obtain⟨C1,C2,hcp1,hcp2,k2,k3⟩:=T.shift hi hg hcs hroom htake hvg hne hnl hvt h1x h1 (vc:=vc);have hov:∀ lb cb,(callFunc 280 #[.slice (some ⟨vb,0,none⟩) 1 vc,.slice (some ⟨g,(i+1)*7,none⟩) lb cb]).run prog w = .ok (.value (.bool false)) w:=λlb cb=>by
  rw[run_callFunc_extern func280 (by kernel_rfl) (by kernel_rfl) (by kernel_rfl) (e:=Extern.SlicesOverlaps.overlaps #[26,26] #[4]) (by kernel_rfl),
   Lib.run_overlaps_apart w 26 4 76 T.us 7 (λw=>by kernel_rfl) ⟨vb,0,none⟩ ⟨g,(i+1)*7,none⟩ 1 vc lb cb hne 76 76 vcur.size cur.size (by simp[World.shape?,hvg]) (by simp[World.shape?,hg]) (by omega) (by simp[World.frozen?,hvg]) (by simp[World.frozen?,hvg])]
  rfl
 go_enter func278,ntmps278
 go_wp2_with (simp only[hov])
 go_region_law (refine xy rfl _ _ 26 26 rfl _ _ (by simp[Act.eval,Act.put]) (by simp[Act.eval,Act.put]) (hcp1 _ _ _) ?_)
 go_wp2_with (at_builtin; refine pJ _ rfl _ _ 26 26 rfl _ _ rfl rfl (hcp2 _ _) ?_)
 go_ret
 exact⟨C2,rfl,rfl,k2,k3⟩
set_option maxHeartbeats 4000000 in
set_option maxRecDepth 100000 in
def qoq:BB prog 278 76 7 72:=by
 intro w n i g cap vb vc cur xs news hi hg hcs hnc hroom htake vcur hvg hnl hvt h1x h1 h63 hby;obtain⟨i0,z,T⟩:=DB;have hn63:n<=9223372036854775806:=by unfold maxLen at h63; omega
 obtain⟨hz2,hw1,hb1,htn,hin,hb3,_⟩:=wm hi hn63;obtain⟨G,ROW,C1,C2,hrz,hcpA,hcpB,hGn,hGm,hgr,hhe,k2,k3⟩:=T.grow hi hg hcs hnc hroom htake hvg hnl hvt h1x h1 h63 hby (vc:=vc);have hz3:(cap:Int)<(n:Int)+(1:Int):=by omega
 have hGi:¬ (G=i):=by omega
 have hGim:¬ (G=i+1):=by omega
 have hci:¬ (cap=i):=by omega
 have hG63:G<=9223372036854775807:=by unfold maxLen at hGm; omega
 go_enter func278,ntmps278
 go_wp2_with (first
  |(at_builtin; refine Lib.wpList_append_run _ rfl _ _ _ _ rfl _ _ rfl rfl _ _ (hrz _) ?_)
  |(at_builtin; refine pJ _ rfl _ _ 26 26 rfl _ _ rfl rfl (hcpA _ _) ?_)
  |(at_builtin; refine pJ _ rfl _ _ 26 26 rfl _ _ rfl rfl (hcpB _ _ _) ?_))
 go_region_law (refine xy rfl _ _ 26 26 rfl _ _ (by simp[Act.eval,Act.put]) (by simp[Act.eval,Act.put]) (hcpB _ _ _) ?_)
 go_wp2
 go_ret
 exact⟨G,C2,rfl,hgr,hhe,hGn,hGm,k2,k3⟩
def qor:InsOK prog 278 76 aB 72:=JX (enters_of func278 (by kernel_rfl) rfl) qop qoq qos
set_option maxHeartbeats 4000000 in
set_option maxRecDepth 100000 in
def qc0:CloneOK prog 279 76 aB 72:=by
 refine⟨enters_of func279 (by kernel_rfl) rfl,λw n c A xs hnc hA hxl hxc h1 h63 hby=>?_⟩;obtain⟨i0,z,T⟩:=DB;have hcmp:=T.nil w
 go_enter func279,ntmps279
 cases A with
 |none=>
  have h0:=hA rfl;subst h0;have hx:xs=[]:=uab (by simpa using hxl);subst hx
  go_wp2_with (simp only[hcmp])
  go_ret
  exact⟨_,rfl,⟨rfl,rfl,rfl,ufa _,λ_ _ _=>rfl⟩,ucq _ _ _ _⟩
 |some ad=>
  obtain⟨v',w',hr',e3,e2⟩:=T.clone hxl (hxc ad rfl) h1 h63 hby (n:=n) (c:=c)
  go_wp2_with (first|(simp only[hcmp]; done)|simp only[hcmp]|(at_builtin; refine Lib.wpList_append_run _ rfl _ _ _ _ rfl _ _ rfl rfl _ _ (hr' _) ?_))
  go_ret
  exact⟨v',rfl,e3,e2⟩
open Go.Ab.Fr renaming val->Jv,need->Jd,br->Jb
set_option maxRecDepth 100000 in
def DC:∃ i0 z,InsTy prog 27 44 3 i0 z 9 72:=
 have ⟨i0,h1,h2,h3,h4⟩:=ufn (show(prog.info? 44).map (λi=>(i.zero,i.size,i.bytes))=some (some (.agg #[.int .i64 0,.int .i64 0,.int .i64 0,.int .i64 0,.int .i64 0,.int .i64 0,.int .i64 0,.int .i64 0,.int .i64 0]),9,72) by kernel_rfl)
 ⟨i0,_,underlying27,underlying3,h1,h2,h3,h4,rfl,by decide⟩
set_option maxHeartbeats 4000000 in
set_option maxRecDepth 100000 in
def qox:BA prog 305 44 9 72:=by
 intro w B n s v xs news hB hs hv h1 h63 hby;obtain⟨i0,z,T⟩:=DC;obtain⟨vb,vc,v',w',rfl,hr',e3,e2,e4⟩:=T.fin hB hs hv h1 h63 hby;have hn:(n:Int)<=9223372036854775807:=by unfold maxLen at h63; omega
 go_enter func305,ntmps305
 rcases hs.2 with ⟨rfl,rfl⟩|⟨g,cap,cur,rfl,hbg,hg,hnc,hcm,hcs,htake⟩
 all_goals go_wp2_with (at_builtin; refine Lib.wpList_append_run _ rfl _ _ _ _ rfl _ _ rfl rfl _ _ (hr' _) ?_)
 all_goals (go_ret; exact⟨_,rfl,e3,e2,e4⟩)
set_option maxHeartbeats 4000000 in
set_option maxRecDepth 100000 in
def qo0:BC prog 305 44 9:=by
 intro w n i g cap vb vc cur xs news hi hg hcs hroom hcm htake vcur hvg hne hnl hvt hvc hvs h1x h1;obtain⟨i0,z,T⟩:=DC;have hc63:cap<=9223372036854775807:=by unfold maxLen at hcm; omega
 obtain⟨hz2,hw1,hb1,htn,hin,_,hb3⟩:=wm hi (by omega);have hb2:¬ (cap=i+1):=by omega
 have hb4:¬ (cap=i):=by omega
 obtain⟨C1,C2,hcp1,hcp2,k2,k3⟩:=T.shift hi hg hcs hroom htake hvg hne hnl hvt h1x h1 (vc:=vc);have hov:∀ lb cb,(callFunc 308 #[.slice (some ⟨vb,0,none⟩) 1 vc,.slice (some ⟨g,(i+1)*9,none⟩) lb cb]).run prog w = .ok (.value (.bool false)) w:=λlb cb=>by
  rw[run_callFunc_extern func308 (by kernel_rfl) (by kernel_rfl) (by kernel_rfl) (e:=Extern.SlicesOverlaps.overlaps #[27,27] #[4]) (by kernel_rfl),
   Lib.run_overlaps_apart w 27 4 44 T.us 9 (λw=>by kernel_rfl) ⟨vb,0,none⟩ ⟨g,(i+1)*9,none⟩ 1 vc lb cb hne 44 44 vcur.size cur.size (by simp[World.shape?,hvg]) (by simp[World.shape?,hg]) (by omega) (by simp[World.frozen?,hvg]) (by simp[World.frozen?,hvg])]
  rfl
 go_enter func305,ntmps305
 go_wp2_with (simp only[hov])
 go_region_law (refine xy rfl _ _ 27 27 rfl _ _ (by simp[Act.eval,Act.put]) (by simp[Act.eval,Act.put]) (hcp1 _ _ _) ?_)
 go_wp2_with (at_builtin; refine pJ _ rfl _ _ 27 27 rfl _ _ rfl rfl (hcp2 _ _) ?_)
 go_ret
 exact⟨C2,rfl,rfl,k2,k3⟩
set_option maxHeartbeats 4000000 in
set_option maxRecDepth 100000 in
def qoy:BB prog 305 44 9 72:=by
 intro w n i g cap vb vc cur xs news hi hg hcs hnc hroom htake vcur hvg hnl hvt h1x h1 h63 hby;obtain⟨i0,z,T⟩:=DC;have hn63:n<=9223372036854775806:=by unfold maxLen at h63; omega
 obtain⟨hz2,hw1,hb1,htn,hin,hb3,_⟩:=wm hi hn63;obtain⟨G,ROW,C1,C2,hrz,hcpA,hcpB,hGn,hGm,hgr,hhe,k2,k3⟩:=T.grow hi hg hcs hnc hroom htake hvg hnl hvt h1x h1 h63 hby (vc:=vc);have hz3:(cap:Int)<(n:Int)+(1:Int):=by omega
 have hGi:¬ (G=i):=by omega
 have hGim:¬ (G=i+1):=by omega
 have hci:¬ (cap=i):=by omega
 have hG63:G<=9223372036854775807:=by unfold maxLen at hGm; omega
 go_enter func305,ntmps305
 go_wp2_with (first
  |(at_builtin; refine Lib.wpList_append_run _ rfl _ _ _ _ rfl _ _ rfl rfl _ _ (hrz _) ?_)
  |(at_builtin; refine pJ _ rfl _ _ 27 27 rfl _ _ rfl rfl (hcpA _ _) ?_)
  |(at_builtin; refine pJ _ rfl _ _ 27 27 rfl _ _ rfl rfl (hcpB _ _ _) ?_))
 go_region_law (refine xy rfl _ _ 27 27 rfl _ _ (by simp[Act.eval,Act.put]) (by simp[Act.eval,Act.put]) (hcpB _ _ _) ?_)
 go_wp2
 go_ret
 exact⟨G,C2,rfl,hgr,hhe,hGn,hGm,k2,k3⟩
def qoz:InsOK prog 305 44 av 72:=JX (enters_of func305 (by kernel_rfl) rfl) qox qoy qo0
set_option maxHeartbeats 4000000 in
set_option maxRecDepth 100000 in
def qc1:CloneOK prog 306 44 av 72:=by
 refine⟨enters_of func306 (by kernel_rfl) rfl,λw n c A xs hnc hA hxl hxc h1 h63 hby=>?_⟩;obtain⟨i0,z,T⟩:=DC;have hcmp:=T.nil w
 go_enter func306,ntmps306
 cases A with
 |none=>
  have h0:=hA rfl;subst h0;have hx:xs=[]:=uab (by simpa using hxl);subst hx
  go_wp2_with (simp only[hcmp])
  go_ret
  exact⟨_,rfl,⟨rfl,rfl,rfl,ufa _,λ_ _ _=>rfl⟩,ucq _ _ _ _⟩
 |some ad=>
  obtain⟨v',w',hr',e3,e2⟩:=T.clone hxl (hxc ad rfl) h1 h63 hby (n:=n) (c:=c)
  go_wp2_with (first|(simp only[hcmp]; done)|simp only[hcmp]|(at_builtin; refine Lib.wpList_append_run _ rfl _ _ _ _ rfl _ _ rfl rfl _ _ (hr' _) ?_))
  go_ret
  exact⟨v',rfl,e3,e2⟩
end Go.Proofs.YtgieagiaagoogaaGreat
namespace Go.Proofs.YtgieagiaagoogaaGreat
open Go Go.Ab Go.RowKit Go.Proofs Tryz
open Go.Ab.Fr renaming val->Jv,need->Jd,br->Jb
def lW {α:Type} (g:α->Int) (l:List α) (x:α):Int:=jw (λy=>decide (g y>g x)) l
def fo {α:Type} (g:α->Int) (l:List α) (x:α):List α:=jx (if lW g l x<0 then (l.length:Int) else lW g l x) l [x]
abbrev uJ (T:Ty):List PT:=[.d (.sl T),.d T,.fn [T] [i64]]
def z6 (T:Ty) (n:Nat) (x:aq (uJ T)):Fr (ae [.sl T]):=
 let b:=x.2.2.1;let a:=(x.1.length:Int);Jd (∀ y:ae [T],kB [T] y->aE ([]:List Prop)) (Jb (decide (lW (λy=>(b (y,())).1) x.1 x.2.1<0))
  (Jd (x.1.length<=maxLen) (Jd (x.1.length*n<=140737488355328) (Jd (0<=a/\a<=x.1.length) (Jd ([x.2.1].length=1) (Jd (x.1.length+1<=maxLen/\(x.1.length+1)*n<=140737488355328)
   (Jv (jx a x.1 [x.2.1],())))))))
  (Jd (x.1.length<=maxLen) (Jd (x.1.length*n<=140737488355328) (Jd (0<=lW (λy=>(b (y,())).1) x.1 x.2.1/\lW (λy=>(b (y,())).1) x.1 x.2.1<=x.1.length) (Jd ([x.2.1].length=1) (Jd (x.1.length+1<=maxLen/\(x.1.length+1)*n<=140737488355328)
   (Jv (jx (lW (λy=>(b (y,())).1) x.1 x.2.1) x.1 [x.2.1],()))))))))
def vo (T:Ty):Ct:=⟨uJ T,[.sl T],λx=>(fo (λy=>(x.2.2.1 (y,())).1) x.1 x.2.1,()),λx=>[x.1.length<=100000]⟩
def KI (T:Ty) {n:Nat} (hn:n<=1000) (x:aq (uJ T)) (hl:x.1.length<=100000):(z6 T n x).ok/\(z6 T n x).get=(fo (λy=>(x.2.2.1 (y,())).1) x.1 x.2.1,()):=by
 have h1:x.1.length<=maxLen:=by unfold maxLen; omega
 have h2:x.1.length*n<=140737488355328:=by
  have:x.1.length*n<=100000*1000:=uec hl hn;omega
 have h3:x.1.length+1<=maxLen/\(x.1.length+1)*n<=140737488355328:=by
  refine⟨by unfold maxLen; omega,?_⟩;have:(x.1.length+1)*n<=100001*1000:=uec (by omega) hn;omega
 refine au (λ_ _=>uT) ?_;by_cases hp:lW (λy=>(x.2.2.1 (y,())).1) x.1 x.2.1<0
 ·exact ay (ud8 hp) (au h1 (au h2 (au ⟨by omega,by omega⟩ (au rfl (au h3 ⟨uT,by unfold fo; rw[if_pos hp]; rfl⟩)))))
 ·refine ax (udt hp) (au h1 (au h2 (au ⟨by omega,?_⟩ (au rfl (au h3 ⟨uT,by unfold fo; rw[if_neg hp]; rfl⟩)))));exact ues (zU (by unfold lW at hp; omega)).1
def zdw {i:Int} {n:Nat} (a:0<=i) (b:i<(n:Int)):i.toNat<n:=by omega
abbrev yf (T:Ty):List PT:=[.d (.sl T),.d i64,.d T]
def Dw (T:Ty) (n:Nat) (x:aq (yf T)):Fr (ae [.sl T]):=
 Jd (x.1.length<=maxLen) (Jd (x.1.length*n<=140737488355328) (Jd (0<=x.2.1/\x.2.1<(x.1.length:Int)) (Jd (x.2.1.toNat<x.1.length) (Jv (x.1.set x.2.1.toNat x.2.2.1,())))))
def C5 (T:Ty):Ct:=⟨yf T,[.sl T],λx=>(x.1.set x.2.1.toNat x.2.2.1,()),λx=>[x.1.length<=100000,0<=x.2.1/\x.2.1<(x.1.length:Int)]⟩
def Wm (T:Ty) {n:Nat} (hn:n<=1000) (x:aq (yf T)) (hl:x.1.length<=100000) (hi:0<=x.2.1/\x.2.1<(x.1.length:Int)):(Dw T n x).ok/\(Dw T n x).get=(x.1.set x.2.1.toNat x.2.2.1,()):=by
 obtain⟨l,i,y,_⟩:=x;have h1:l.length<=maxLen:=by unfold maxLen; exact uen hl (by decide)
 have h2:l.length*n<=140737488355328:=by
  have:l.length*n<=100000*1000:=uec hl hn;omega
 have h3:i.toNat<l.length:=zdw hi.1 hi.2;exact au h1 (au h2 (au hi (au h3 ⟨uT,rfl⟩)))
def kD (T:Ty):Ct:=⟨[.d T,.pfn [T] [i64],.ptr T],[.bool],λx=>(decide ((x.2.1 (x.1,())).1>(x.2.1 (x.2.2.1,())).1),()),λ_=>[]⟩
def qxr:aa prog 260 (kD aT):=
 conv (aH eI f260 (fr:=λx=>Jv (decide ((x.2.1 (x.1,())).1>(x.2.1 (x.2.2.1,())).1),())) (ps:=(kD aT).ps) (rs:=[.bool])) _ _ (λ_ _ _ _ _ _=>⟨uT,rfl⟩)
noncomputable def YZ:Cx:=vF [(80,jd aT),(260,kD aT)] [] [(262,.clone 56 aT 120),(261,.ins 56 aT 120)] (λ_ _ _ _=>none)
def MK:CxOK prog YZ:=yW (cs:=[(80,jd aT),(260,kD aT)]) (ps:=[]) (rs:=[(262,.clone 56 aT 120),(261,.ins 56 aT 120)]) aG ⟨RQ,qxr,uT⟩ trivial ⟨qcy,qon,uT⟩ (λ_ _ _ _ _ h=>(nomatch h))
def qxv:aa prog 257 (vo aT):=
 conv (aH MK f257 (fr:=z6 aT 120) (ps:=uJ aT) (rs:=[.sl aT])) _ _ (λ_ _ x _ _ h=>KI aT (by decide) x h)
def zfb:aa prog 271 (C5 aT):=
 conv (aH MK f271 (fr:=Dw aT 120) (ps:=yf aT) (rs:=[.sl aT])) _ _ (λ_ _ x _ _ h=>Wm aT (by decide) x h.1 h.2)
def qxs:aa prog 277 (kD aB):=
 conv (aH eI f277 (fr:=λx=>Jv (decide ((x.2.1 (x.1,())).1>(x.2.1 (x.2.2.1,())).1),())) (ps:=(kD aB).ps) (rs:=[.bool])) _ _ (λ_ _ _ _ _ _=>⟨uT,rfl⟩)
noncomputable def Za:Cx:=vF [(93,jd aB),(277,kD aB)] [] [(279,.clone 76 aB 72),(278,.ins 76 aB 72)] (λ_ _ _ _=>none)
def ML:CxOK prog Za:=yW (cs:=[(93,jd aB),(277,kD aB)]) (ps:=[]) (rs:=[(279,.clone 76 aB 72),(278,.ins 76 aB 72)]) aG ⟨JR,qxs,uT⟩ trivial ⟨qc0,qor,uT⟩ (λ_ _ _ _ _ h=>(nomatch h))
def qxw:aa prog 274 (vo aB):=
 conv (aH ML f274 (fr:=z6 aB 72) (ps:=uJ aB) (rs:=[.sl aB])) _ _ (λ_ _ x _ _ h=>KI aB (by decide) x h)
def zfc:aa prog 286 (C5 aB):=
 conv (aH ML f286 (fr:=Dw aB 72) (ps:=yf aB) (rs:=[.sl aB])) _ _ (λ_ _ x _ _ h=>Wm aB (by decide) x h.1 h.2)
def qxt:aa prog 304 (kD av):=
 conv (aH eI f304 (fr:=λx=>Jv (decide ((x.2.1 (x.1,())).1>(x.2.1 (x.2.2.1,())).1),())) (ps:=(kD av).ps) (rs:=[.bool])) _ _ (λ_ _ _ _ _ _=>⟨uT,rfl⟩)
noncomputable def Zb:Cx:=vF [(301,jd av),(304,kD av)] [] [(306,.clone 44 av 72),(305,.ins 44 av 72)] (λ_ _ _ _=>none)
def Zc:CxOK prog Zb:=yW (cs:=[(301,jd av),(304,kD av)]) (ps:=[]) (rs:=[(306,.clone 44 av 72),(305,.ins 44 av 72)]) aG ⟨RS,qxt,uT⟩ trivial ⟨qc1,qoz,uT⟩ (λ_ _ _ _ _ h=>(nomatch h))
def qxx:aa prog 300 (vo av):=
 conv (aH Zc f300 (fr:=z6 av 72) (ps:=uJ av) (rs:=[.sl av])) _ _ (λ_ _ x _ _ h=>KI av (by decide) x h)
open Go.Ab.Fr renaming val->Jv,need->Jd,br->Jb
abbrev bP (s:ag.den):List aT.den:=s.2.1
abbrev bU (s:ag.den):List aB.den:=s.2.2.1
abbrev bw (s:ag.den):List av.den:=s.2.2.2.1
abbrev gW (s:ag.den):Int:=s.2.2.2.2.1
abbrev bx (f:factT.den):Int:=f.1
abbrev aF (f:factT.den):Int:=f.2.1
abbrev cw (f:factT.den):Int:=f.2.2.1
abbrev dy (f:factT.den):Int:=f.2.2.2.1
abbrev dp (f:factT.den):Int:=f.2.2.2.2.1
abbrev fS (f:factT.den):cr.den:=f.2.2.2.2.2.1
abbrev fB (f:factT.den):ar.den:=f.2.2.2.2.2.2.1
abbrev dk (f:factT.den):cO.den:=f.2.2.2.2.2.2.2.1
abbrev iL (f:factT.den):aN.den:=f.2.2.2.2.2.2.2.2.1
abbrev cp (f:factT.den):av.den:=f.2.2.2.2.2.2.2.2.2.1
abbrev fZ (a:aT.den):Int:=a.1.1
abbrev gO (g:aB.den):Int:=g.1.1
def dY (s:ag.den) (id:Int):Int:=jw (λa=>fZ a==id) (bP s)
def fC (s:ag.den) (id:Int):Int:=jw (λg=>gO g==id) (bU s)
def iC (s:ag.den) (id:Int):aT.den×Bool:=if dY s id>=0 then ((bP s).getD (dY s id).toNat aT.dflt,true) else (aT.dflt,false)
def qw (s:ag.den) (id:Int):aB.den×Bool:=if fC s id>=0 then ((bU s).getD (fC s id).toNat aB.dflt,true) else (aB.dflt,false)
def GF:Ct:=⟨[.d aT,.ptr i64],[.bool],λx=>(fZ x.1==x.2.1,()),λ_=>[]⟩
def GU:Ct:=⟨[.d aB,.ptr i64],[.bool],λx=>(gO x.1==x.2.1,()),λ_=>[]⟩
def qad:aa prog 81 GF:=
 conv (aH eI f81 (fr:=λx=>Jv (fZ x.1==x.2.1,())) (ps:=GF.ps) (rs:=[.bool])) _ _ (λ_ _ _ _ _ _=>⟨uT,rfl⟩)
def qls:aa prog 94 GU:=
 conv (aH eI f94 (fr:=λx=>Jv (gO x.1==x.2.1,())) (ps:=GU.ps) (rs:=[.bool])) _ _ (λ_ _ _ _ _ _=>⟨uT,rfl⟩)
noncomputable def Zd:Cx:=cx [(80,jd aT),(93,jd aB),(81,GF),(94,GU)] []
def MP:CxOK prog Zd:=aJ aG ⟨RQ,JR,qad,qls,uT⟩ trivial
abbrev pP:List PT:=[.d ag,.d i64]
def jN:Ct:=⟨pP,[i64],λx=>(dY x.1 x.2.1,()),λ_=>[]⟩
def jc:Ct:=⟨pP,[i64],λx=>(fC x.1 x.2.1,()),λ_=>[]⟩
def NA:aa prog 48 jN:=
 conv (aH MP f48 (fr:=λx=>Jd (∀ y:ae [aT],kB [aT] y->aE ([]:List Prop)) (Jv (dY x.1 x.2.1,()))) (ps:=pP) (rs:=[i64])) _ _ (λ_ _ _ _ _ _=>au (λ_ _=>uT) ⟨uT,rfl⟩)
def Qy:aa prog 60 jc:=
 conv (aH MP f60 (fr:=λx=>Jd (∀ y:ae [aB],kB [aB] y->aE ([]:List Prop)) (Jv (fC x.1 x.2.1,()))) (ps:=pP) (rs:=[i64])) _ _ (λ_ _ _ _ _ _=>au (λ_ _=>uT) ⟨uT,rfl⟩)
noncomputable def Zh:Cx:=cx [(48,jN),(60,jc)] []
def MR:CxOK prog Zh:=aJ aG ⟨NA,Qy,uT⟩ trivial
def GG:Ct:=⟨pP,[aT,.bool],λx=>((iC x.1 x.2.1).1,(iC x.1 x.2.1).2,()),λ_=>[]⟩
def Ou:Ct:=⟨pP,[aB,.bool],λx=>((qw x.1 x.2.1).1,(qw x.1 x.2.1).2,()),λ_=>[]⟩
def NB:aa prog 21 GG:=
 conv (aH MR f21 (fr:=λx=>Jb (decide (dY x.1 x.2.1>=0)) (Jd (0<=dY x.1 x.2.1/\dY x.1 x.2.1<((bP x.1).length:Int)) (Jv ((bP x.1).getD (dY x.1 x.2.1).toNat aT.dflt,true,()))) (Jv (aT.dflt,false,()))) (ps:=pP) (rs:=[aT,.bool])) _ _ (λ_ _ x _ _ _=>by
  by_cases h:dY x.1 x.2.1>=0
  ·refine ay (ud8 h) (au ⟨h,(zU h).1⟩ ⟨uT,?_⟩);show _=((iC x.1 x.2.1).1,(iC x.1 x.2.1).2,());unfold iC; rw[if_pos h]; rfl
  ·refine ax (udt h) ⟨uT,?_⟩;show _=((iC x.1 x.2.1).1,(iC x.1 x.2.1).2,());unfold iC; rw[if_neg h]; rfl)
def qlw:aa prog 31 Ou:=
 conv (aH MR f31 (fr:=λx=>Jb (decide (fC x.1 x.2.1>=0)) (Jd (0<=fC x.1 x.2.1/\fC x.1 x.2.1<((bU x.1).length:Int)) (Jv ((bU x.1).getD (fC x.1 x.2.1).toNat aB.dflt,true,()))) (Jv (aB.dflt,false,()))) (ps:=pP) (rs:=[aB,.bool])) _ _ (λ_ _ x _ _ _=>by
  by_cases h:fC x.1 x.2.1>=0
  ·refine ay (ud8 h) (au ⟨h,(zU h).1⟩ ⟨uT,?_⟩);show _=((qw x.1 x.2.1).1,(qw x.1 x.2.1).2,());unfold qw; rw[if_pos h]; rfl
  ·refine ax (udt h) ⟨uT,?_⟩;show _=((qw x.1 x.2.1).1,(qw x.1 x.2.1).2,());unfold qw; rw[if_neg h]; rfl)
def ir (t:aP.den):ag.den:=(t,[],[],[],0,())
def sk:Ct:=⟨[.d aP],[ag],λx=>(ir x.1,()),λ_=>[]⟩
def SK:aa prog 28 sk:=
 conv (aH eI f28 (fr:=λx=>Jv (ir x.1,())) (ps:=[.d aP]) (rs:=[ag])) _ _ (λ_ _ _ _ _ _=>⟨uT,rfl⟩)
def dA (n a b:Int):Bool:=bif decide (n>=a) then decide (n<=b) else false
def Wn {n a b:Int}:dA n a b=true↔a<=n/\n<=b:=by
 unfold dA;by_cases h:a<=n<;>simp[h]
abbrev Gs:List PT:=[.d i64,.d i64,.d i64]
def fM:Ct:=⟨Gs,[.bool],λx=>(dA x.1 x.2.1 x.2.2.1,()),λ_=>[]⟩
def Wo:aa prog 59 fM:=
 conv (aH eI f59 (fr:=λx=>Jv (dA x.1 x.2.1 x.2.2.1,())) (ps:=Gs) (rs:=[.bool])) _ _ (λ_ _ _ _ _ _=>⟨uT,rfl⟩)
def Ox:Ct:=⟨[.d cO],[aB],λx=>((x.1,[],()),()),λ_=>[]⟩
def qv7:aa prog 275 Ox:=
 conv (aH eI f275 (fr:=λx=>Jv ((x.1,[],()),())) (ps:=[.d cO]) (rs:=[aB])) _ _ (λ_ _ _ _ _ _=>⟨uT,rfl⟩)
def lQ (g:aB.den):Int:=match g.2.1.getLast? with
 |some a=>a.1
 |none=>g.1.2.2.2.2.1
def Do (g:aB.den):Fr (ae [i64]):=let a:=((List.length g.2.1):Int);Jb (decide (a>0)) (Jd (0<=I6.wrap (a-1)/\I6.wrap (a-1)<a) (Jv ((List.getD g.2.1 (I6.wrap (a-1)).toNat aN.dflt).1,()))) (Jv (g.1.2.2.2.2.1,()))
def qp2 {c:cO.den} {l:List aN.den} (hlen:(l.length:Int)<=9223372036854775807):(Do (c,l,())).ok/\(Do (c,l,())).get=(lQ (c,l,()),()):=by
 cases l with
 |nil=>exact ax rfl ⟨uT,rfl⟩
 |cons a r=>
  have hw:I6.wrap (((a::r).length:Int)-1)=r.length:=by
   rw[IntWalk.i64_in _ (by simp only[uc7] at hlen |-; omega)]; simp
  unfold Do;refine ay (by simp) ?_;dsimp only;rw[hw];refine au ⟨by omega,by simp only[uc7]; omega⟩ ⟨uT,?_⟩;show((List.getD (a::r) ((r.length:Int)).toNat aN.dflt).1,())=_;unfold lQ;rw[uan,uah];have:((r.length:Int)).toNat=(a::r).length-1:=by simp
  rw[this,uap (by simp)];rfl
def Cq:Ct:=⟨[.d aB],[i64],λx=>(lQ x.1,()),λ_=>[]⟩
def qp0:aa prog 288 Cq:=
 conv (aH eI f288 (fr:=λx=>Do x.1) (ps:=[.d aB]) (rs:=[i64])) _ _ (λw F x vs hr _=>by
  obtain⟨⟨c,l,_⟩,_⟩:=x;obtain⟨v,vs',rfl,hv,_⟩:=hr;have h1:l.length<=maxLen:=(aD.wf hv.2.2).2.1.1;have hlen:(l.length:Int)<=9223372036854775807:=by
   unfold maxLen at h1;omega
  exact qp2 hlen)
open Go.Ab.Fr renaming val->Jv,need->Jd,br->Jb
abbrev A4:Ty:=.pair i64 (.pair i64 .unit)
abbrev nK:Pt:=⟨24,0,⟨[(9,.d i64),(8,.d i64),(7,.d bE)],[.x 2 146 A4,.r 2 2 0]⟩,⟨[],[]⟩,⟨[(4,.d .bool)],[]⟩⟩
abbrev xi:Type:=aq []×bW [.x 2 146 A4,.r 2 2 0]
def xC (e:i64.den) (s:xi):Fr (xi ⊕ nK.R.X):=
 Jb (bif decide (e<s.2.1.1) then true else decide (e>s.2.1.2.1)) (Jv (.inr ((false,()),()))) (Jv (.inl ((),(s.2.1.1,s.2.1.2.1,()),())))
def rp (x:nK.M.X):Int×List i64.den×xi:=(x.1.1,x.1.2.2.1,x.1.2.2.2,x.2)
def Ry (x:nK.M.X):Prop:=x.1.2.1=(x.1.2.2.1.length:Int)
def qwk (s:xi):nK.E.X:=((),())
def qe9:xi:=(aW _,aZ _)
def H9:nK.R.X:=(aW _,aZ _)
def qtc:ah prog (.loop (aC f67 0)) nK.M nK (FL xC rp Ry qwk Rd.back qe9 H9):=
 ln eI (λ_ _=>.n .o) i64.dflt (λx=>x.1.2.1) (λx s=>((I6.wrap (x.1.1+1),x.1.2.1,x.1.2.2.1,s.1),s.2)) (λ_ h=>h)
def wW (y:nK.M.X):xi ⊕ nK.R.X:=bc xC ((rp y).2.1.drop (rp y).1.toNat) (rp y).2.2
def qvc (y:nK.M.X):Prop:=d7 xC ((rp y).2.1.drop (rp y).1.toNat) (rp y).2.2
open Go.Ab.Fr renaming val->Jv,need->Jd,br->Jb
def lS {T σ ρ:Type} {step:T->σ->Fr (σ ⊕ ρ)}:(l:List T)->(∀ e∈l,∀ s,(step e s).ok)->(s:σ)->d7 step l s
 |[],_,_=>trivial
 |e::l,h,s=>⟨h e uca s,by
   split
   ·exact lS l (λe he=>h e (ubg _ he)) _
   ·trivial⟩
def lM {T σ ρ:Type} {step:T->σ->Fr (σ ⊕ ρ)} {I:σ->Prop} {p:T->Bool} {c:ρ} (h:∀ e s,I s->(step e s).get=if p e=true then .inl s else .inr c):(l:List T)->(s:σ)->I s->bc step l s=if l.all p=true then .inl s else .inr c
 |[],_,_=>rfl
 |e::l,s,hs=>by
  by_cases hp:p e=true
  ·simp only[bc,h e s hs,hp,if_true,ueh,uej];exact lM h l s hs
  ·simp only[bc,h e s hs,hp,ufu,ueh,Bool.false_and,ub1]
def I0 (x:aq [.d A4,.d bE]):Fr (ae [.bool]):=
 let a:=((0,((List.length x.2.1):Int),x.2.1,()),(x.1.1,x.1.2.1,()),());Jd (InL (Ry a) (rp a)) (Jd (qvc a) (Jb (bi (wW a)) (Jv (true,())) (Jv ((ba H9 (wW a)).1.1,()))))
def qke:aa prog 67 (aL [.d A4,.d bE] [.bool] I0):=
 bz eI qtc
def gQ (a b:Int) (l:List Int):Bool:=l.all λx=>decide (a<=x)&&decide (x<=b)
def dv:Ct:=⟨[.d A4,.d bE],[.bool],λx=>(gQ x.1.1 x.1.2.1 x.2.1,()),λ_=>[]⟩
def qn1 (a b:Int) (l:List Int):bc xC l ((),(a,b,()),())=if gQ a b l=true then .inl ((),(a,b,()),()) else .inr ((false,()),()):=
 lM (I:=λs=>s=((),(a,b,()),())) (λe s hs=>by
  subst hs;by_cases h1:e<a
  ·rw[if_neg (by simp; omega)];exact if_pos (by simp[h1])
  ·by_cases h2:e>b
   ·rw[if_neg (by simp; omega)];exact if_pos (by simp[h2])
   ·rw[if_pos (by simp; omega)];exact if_neg (by simp; omega)) l _ rfl
def qn2:aa prog 67 dv:=
 conv qke _ _ (λw F x vs hr _=>by
  obtain⟨⟨a,b,_⟩,l,_⟩:=x;obtain⟨v,vs',rfl,hv,hr'⟩:=hr;obtain⟨v',vs'',rfl,hv',_⟩:=hr';have hlen:((List.length (α:=Int) l:Nat):Int)<=9223372036854775807:=fw hv';show(I0 ((a,b,()),l,())).ok/\(I0 ((a,b,()),l,())).get=(gQ a b l,());refine au ⟨rfl,ufb _,ub2 _,hlen⟩ (au (lS (step:=xC) _ (λe _ s=>⟨λ_=>uT,λ_=>uT⟩) _) ?_);have hg:wW ((0,((List.length (α:=Int) l:Nat):Int),l,()),(a,b,()),())=if gQ a b l=true then .inl ((),(a,b,()),()) else .inr ((false,()),()):=by
   show bc xC (List.drop 0 l) ((),(a,b,()),())=_;rw[ued,qn1]
  cases hc:gQ a b l
  ·rw[hc,if_neg (by decide)] at hg;refine ax (by show bi (wW ((0,((List.length (α:=Int) l:Nat):Int),l,()),(a,b,()),()))=false; rw[hg]; rfl) ⟨uT,?_⟩;show((ba H9 (wW ((0,((List.length (α:=Int) l:Nat):Int),l,()),(a,b,()),()))).1.1,())=_;rw[hg];rfl
  ·rw[hc,if_pos rfl] at hg;exact ay (by show bi (wW ((0,((List.length (α:=Int) l:Nat):Int),l,()),(a,b,()),()))=true; rw[hg]; rfl) ⟨uT,rfl⟩)
open Go.Ab.Fr renaming val->Jv,need->Jd,br->Jb
noncomputable def Yd:Cx:=cx [(67,dv),(68,mO),(43,eN),(59,fM)] []
def xZ:CxOK prog Yd:=aJ aG ⟨qn2,S8,sL,Wo,uT⟩ trivial
def qv (x:aq [.d av]):Fr (ae [.bool]):=
 let l:=x.1.2.1;let g:=x.1.2.2.2;let m:=dv.f ((1,10000,()),[g.1],());let k:=decide (g.2.2.1>0);let h:=((dv.f ((0,0,()),[g.2.1,g.2.2.1,g.2.2.2.1],())).1,());let c:=((dv.f ((0,100,()),[g.2.2.2.1],())).1,());let b:=(false,());let a:=dv.f ((0,1000000000000000,()),[g.2.1,g.2.2.1],());Jb (!(dv.f ((1,1000000000,()),[x.1.1],())).1) (Jb true (Jv b) (Jb (l==1) (Jb m.1 (Jv h) (Jv b)) (Jb (l==2) (Jb (l==2) (Jb (g.1==0) (Jb a.1 (Jb k (Jv c) (Jv b)) (Jv b)) (Jv b)) (Jv b)) (Jb (l==3) (Jb (g.1==0) (Jb a.1 (Jb k (Jv c) (Jv b)) (Jv b)) (Jv b)) (Jv b))))) (Jb ((mO.f ((x.1.2.2.1.1,x.1.2.2.1.2.1,()),())).1==0) (Jb true (Jv b) (Jb (l==1) (Jb m.1 (Jv h) (Jv b)) (Jb (l==2) (Jb (l==2) (Jb (g.1==0) (Jb a.1 (Jb k (Jv c) (Jv b)) (Jv b)) (Jv b)) (Jv b)) (Jb (l==3) (Jb (g.1==0) (Jb a.1 (Jb k (Jv c) (Jv b)) (Jv b)) (Jv b)) (Jv b))))) (Jb (!(dv.f ((1,255,()),[g.2.2.2.2.1],())).1) (Jv b) (Jb (l==1) (Jb m.1 (Jv h) (Jv b)) (Jb (l==2) (Jb (l==2) (Jb (g.1==0) (Jb a.1 (Jb k (Jv c) (Jv b)) (Jv b)) (Jv b)) (Jv b)) (Jb (l==3) (Jb (g.1==0) (Jb a.1 (Jb k (Jv c) (Jv b)) (Jv b)) (Jv b)) (Jv b))))))
def qkd:aa prog 41 (aL [.d av] [.bool] qv):=
 aH xZ f41
def Iu (x:aq [.d cO]):Fr (ae [.bool]):=
 let a:=x.1.2.2;Jv (bif bif bif bif (fM.f (x.1.1,1,1000000000,())).1 then (fM.f (x.1.2.1,1,1000000000,())).1 else false then (fM.f (a.2.2.2.1,0,1000000000,())).1 else false then bif (fM.f (a.2.1,1,292194,())).1 then (fM.f (a.2.2.1,1,292194,())).1 else false else false then (fM.f (a.1,0,7,())).1 else false,())
def qib:aa prog 100 (aL [.d cO] [.bool] Iu):=
 aH xZ f100
def vU (x:aq [.d aN]):Fr (ae [.bool]):=
 let b:=fM.f (x.1.2.1,1,5,());let a:=fM.f (x.1.1,1,292194,());Jb (bif x.1.2.1==4 then true else x.1.2.1==5) (Jv (bif bif a.1 then b.1 else false then (fM.f (x.1.2.2.1,0,0,())).1 else false,())) (Jv (bif bif a.1 then b.1 else false then (fM.f (x.1.2.2.1,0,1000000000000000,())).1 else false,()))
def qic:aa prog 27 (aL [.d aN] [.bool] vU):=
 aH xZ f27
def It (x:aq [.d factT]):Fr (ae [.bool]):=
 let a:=x.1.2.2.2.2.2;let h:=a.1.2.1;let g:=a.2.2;let k:=g.1.2.2;let c:=a.2.1.2.2.2;let b:=g.2.2.1.2;let l:=b.2.2.2;Jv (bif bif bif bif bif bif bif bif bif bif bif bif bif bif ((List.length c.2.1):Int)==0 then ((List.length a.1.2.2.1):Int)==0 else false then x.1.2.2.1==0 else false then x.1.2.2.2.1==0 else false then x.1.2.2.2.2.1==0 else false then a.1.1.1==0&&(a.1.1.2.1==0&&true) else false then h.1==0&&(h.2.1==0&&(h.2.2.1==0&&(h.2.2.2.1==0&&true))) else false then a.2.1.1==0 else false then a.2.1.2.1==0 else false then a.2.1.2.2.1==0 else false then c.2.2.1==0 else false then c.1.1==0&&(c.1.2.1==0&&(c.1.2.2.1==0&&(c.1.2.2.2.1==0&&true))) else false then g.1.1==0&&(g.1.2.1==0&&(k.1==0&&(k.2.1==0&&(k.2.2.1==0&&(k.2.2.2.1==0&&true))))) else false then g.2.1.1==0&&(g.2.1.2.1==0&&(g.2.1.2.2.1==0&&true)) else false then g.2.2.1.1==0&&(b.1==0&&(b.2.1.1==0&&(b.2.1.2.1==0&&true)&&(b.2.2.1==0&&(l.1==0&&(l.2.1==0&&(l.2.2.1==0&&(l.2.2.2.1==0&&true))))))) else false,())
def qh6:aa prog 97 (aL [.d factT] [.bool] It):=
 aH xZ f97
def Iz (x:aq [.d av,.d i64,.d i64]):Fr (ae [i64]):=
 let a:=eN.f ((x.1.2.2.1.1,x.1.2.2.1.2.1,()),x.2.1,());Jd ((bif x.1.2.1 != 1 then true else !a.1)=false->¬x.2.2.1<0) (Jb (bif bif x.1.2.1 != 1 then true else !a.1 then true else I6.wrap ((BitVec.ofInt I6.bits (Int.fdiv x.1.2.2.2.2.2.2.2.1 (2 ^ min (Int.toNat x.2.2.1) I6.bits)) &&& BitVec.ofInt I6.bits 1).toNat:Int)==0) (Jv (0,())) (Jv (x.1.2.2.2.1,())))
def qka:aa prog 307 (aL [.d av,.d i64,.d i64] [i64] Iz):=
 aH xZ f307
def dN (t:av.den):Bool:=(qv (t,())).get.1
def vf (c:cO.den):Bool:=(Iu (c,())).get.1
def gD (a:aN.den):Bool:=(vU (a,())).get.1
def gC (f:factT.den):Bool:=(It (f,())).get.1
def bM (t:av.den) (day peril:Int):Int:=(Iz (t,day,peril,())).get.1
def vq:Ct:=⟨[.d av],[.bool],λx=>(dN x.1,()),λ_=>[]⟩
def uU:Ct:=⟨[.d cO],[.bool],λx=>(vf x.1,()),λ_=>[]⟩
def l6:Ct:=⟨[.d aN],[.bool],λx=>(gD x.1,()),λ_=>[]⟩
def Cg:Ct:=⟨[.d factT],[.bool],λx=>(gC x.1,()),λ_=>[]⟩
def Hg:Ct:=⟨[.d av,.d i64,.d i64],[i64],λx=>(bM x.1 x.2.1 x.2.2.1,()),λx=>[¬ x.2.2.1<0]⟩
def qx4:aa prog 41 vq:=conv qkd _ _ (λ_ _ x _ _ _=>⟨by show(qv x).ok; unfold qv; (repeat' first|exact trivial|(refine⟨λ_=>?_,λ_=>?_⟩)),rfl⟩)
def qb4:aa prog 100 uU:=conv qib _ _ (λ_ _ x _ _ _=>⟨uT,rfl⟩)
def O0:aa prog 27 l6:=conv qic _ _ (λ_ _ x _ _ _=>⟨by show(vU x).ok; unfold vU; (repeat' first|exact trivial|(refine⟨λ_=>?_,λ_=>?_⟩)),rfl⟩)
def qbo:aa prog 97 Cg:=conv qh6 _ _ (λ_ _ x _ _ _=>⟨uT,rfl⟩)
def qxe:aa prog 307 Hg:=conv qka _ _ (λ_ _ x _ _ h=>⟨⟨λ_=>h,by (repeat' first|exact trivial|(refine⟨λ_=>?_,λ_=>?_⟩))⟩,rfl⟩)
end Go.Proofs.YtgieagiaagoogaaGreat
namespace Go.Proofs.YtgieagiaagoogaaGreat
open Go Go.Ab Go.RowKit Go.Proofs Go.Shelf Go.Lib Tryz
open Go.Ab.Fr renaming val->Jv,need->Jd,br->Jb
abbrev cn:Ty:=.pair i64 (.pair i64 (.pair i64 (.pair i64 (.pair i64 (.pair .bool .unit)))))
def Ar {w:World} {F:Nat->Prop} {x:cn.den} {arr:Array Value} (hs:arr.size=cn.size) (h:aD w F cn x (λj u=>arr[j]? = some u)) :
  arr = #[.int .i64 x.1,.int .i64 x.2.1,.int .i64 x.2.2.1,.int .i64 x.2.2.2.1,.int .i64 x.2.2.2.2.1,.bool x.2.2.2.2.2.1]:=by
 obtain⟨h0,h1,h2,h3,h4,h5,_⟩:=h;refine ucg λj=>?_
 match j with
 |0=>exact h0.1
 |1=>exact h1.1
 |2=>exact h2.1
 |3=>exact h3.1
 |4=>exact h4.1
 |5=>exact h5
 |j+6=>
  rw[uaz (by rw[hs]; show 6<=j+6; omega)];simp
def iV {w:World} {F:Nat->Prop} {x:cn.den} (h0:inR .i64 x.1) (h1:inR .i64 x.2.1) (h2:inR .i64 x.2.2.1) (h3:inR .i64 x.2.2.2.1) (h4:inR .i64 x.2.2.2.2.1) :
  aD w F cn x (λj u=>[Value.int .i64 x.1,.int .i64 x.2.1,.int .i64 x.2.2.1,.int .i64 x.2.2.2.1,.int .i64 x.2.2.2.2.1,.bool x.2.2.2.2.2.1][j]? = some u):=
 ⟨⟨rfl,h0⟩,⟨rfl,h1⟩,⟨rfl,h2⟩,⟨rfl,h3⟩,⟨rfl,h4⟩,rfl,uT⟩
def wk {w:World} {F:Nat->Prop} {y:ae [i64]} {vs:List Value} (h:eK w F [i64] y vs):vs=[.int .i64 y.1]/\inR .i64 y.1:=by
 obtain⟨v,vs',rfl,⟨_,hw,h3⟩,h4⟩:=h;subst h4;obtain⟨h5,h6⟩:v.cells[0]? = some (Value.int .i64 y.1)/\inR .i64 y.1:=h3;have hv:v.cells = #[v]:=by
  cases v<;>first|rfl|(exact absurd (hw.2 ⟨_,rfl⟩) (by decide))
 rw[hv] at h5;cases h5;exact⟨rfl,h6⟩
def su {w:World} {b:Nat} {arr:Array Value} {ty:TypeId} (hg:w.heap[b]? = some (.cells arr ty (0,0))) (k:Nat):w.cell? ⟨b,k,none⟩=arr[k]? := by
 simp[World.cell?,hg]
def zK {w:World} {b:Nat} {arr:Array Value} {ty:TypeId} (hg:w.heap[b]? = some (.cells arr ty (0,0))) (k:Nat):w.frozen? ⟨b,k,none⟩=false:=by
 simp[World.frozen?,hg]
set_option maxHeartbeats 4000000 in
set_option maxRecDepth 100000 in
def qnq:UpdOK prog 290 cn [i64] (λx y=>(y.1,x.2.1,x.2.2.1,x.2.2.2.1,x.2.2.2.2.1,x.2.2.2.2.2.1,())):=by
 refine⟨enters_of func290 (by kernel_rfl) rfl,λw F b ety arr x y vs hg hs ho hx hy=>?_⟩;obtain⟨rfl,hr⟩:=wk hy;have ha:=Ar hs hx;subst ha
 go_enter func290,ntmps290
 have hc:=su hg;have hf:=zK hg;obtain⟨h0,h1,h2,h3,h4,h5,_⟩:=hx
 go_wp2_with (simp only[hc,hf])
 first
  |exact⟨⟨_,rfl⟩,[.int .i64 y.1,.int .i64 x.2.1,.int .i64 x.2.2.1,.int .i64 x.2.2.2.1,.int .i64 x.2.2.2.2.1,.bool x.2.2.2.2.2.1],rfl,(uc0 w b 0 _ ety (0,0) _ hg).trans (by simp[wrap64,udc]),iV (x:=(y.1,x.2.1,x.2.2.1,x.2.2.2.1,x.2.2.2.2.1,x.2.2.2.2.2.1,())) (hr) (h1.2) (h2.2) (h3.2) (h4.2)⟩
  |exact⟨.tuple #[],[.int .i64 y.1,.int .i64 x.2.1,.int .i64 x.2.2.1,.int .i64 x.2.2.2.1,.int .i64 x.2.2.2.2.1,.bool x.2.2.2.2.2.1],rfl,rfl,(uc0 w b 0 _ ety (0,0) _ hg).trans (by simp[wrap64,udc]),iV (x:=(y.1,x.2.1,x.2.2.1,x.2.2.2.1,x.2.2.2.2.1,x.2.2.2.2.2.1,())) (hr) (h1.2) (h2.2) (h3.2) (h4.2)⟩
  |exact ue9 (v:=.tuple #[]) (ue2 rfl _ _ _) rfl ⟨⟨_,rfl⟩,[.int .i64 y.1,.int .i64 x.2.1,.int .i64 x.2.2.1,.int .i64 x.2.2.2.1,.int .i64 x.2.2.2.2.1,.bool x.2.2.2.2.2.1],rfl,(uc0 w b 0 _ ety (0,0) _ hg).trans (by simp[wrap64,udc]),iV (x:=(y.1,x.2.1,x.2.2.1,x.2.2.2.1,x.2.2.2.2.1,x.2.2.2.2.2.1,())) (hr) (h1.2) (h2.2) (h3.2) (h4.2)⟩
set_option maxHeartbeats 4000000 in
set_option maxRecDepth 100000 in
def qxh:UpdOK prog 291 cn [i64] (λx y=>(x.1,I6.wrap (x.2.1+y.1),x.2.2.1,x.2.2.2.1,x.2.2.2.2.1,x.2.2.2.2.2.1,())):=by
 refine⟨enters_of func291 (by kernel_rfl) rfl,λw F b ety arr x y vs hg hs ho hx hy=>?_⟩;obtain⟨rfl,hr⟩:=wk hy;have ha:=Ar hs hx;subst ha
 go_enter func291,ntmps291
 have hc:=su hg;have hf:=zK hg;obtain⟨h0,h1,h2,h3,h4,h5,_⟩:=hx
 go_wp2_with (simp only[hc,hf])
 first
  |exact⟨⟨_,rfl⟩,[.int .i64 x.1,.int .i64 (I6.wrap (x.2.1+y.1)),.int .i64 x.2.2.1,.int .i64 x.2.2.2.1,.int .i64 x.2.2.2.2.1,.bool x.2.2.2.2.2.1],rfl,(uc0 w b 1 _ ety (0,0) _ hg).trans (by simp[wrap64,udc]),iV (x:=(x.1,I6.wrap (x.2.1+y.1),x.2.2.1,x.2.2.2.1,x.2.2.2.2.1,x.2.2.2.2.2.1,())) (h0.2) (gZ .i64 _) (h2.2) (h3.2) (h4.2)⟩
  |exact⟨.tuple #[],[.int .i64 x.1,.int .i64 (I6.wrap (x.2.1+y.1)),.int .i64 x.2.2.1,.int .i64 x.2.2.2.1,.int .i64 x.2.2.2.2.1,.bool x.2.2.2.2.2.1],rfl,rfl,(uc0 w b 1 _ ety (0,0) _ hg).trans (by simp[wrap64,udc]),iV (x:=(x.1,I6.wrap (x.2.1+y.1),x.2.2.1,x.2.2.2.1,x.2.2.2.2.1,x.2.2.2.2.2.1,())) (h0.2) (gZ .i64 _) (h2.2) (h3.2) (h4.2)⟩
  |exact ue9 (v:=.tuple #[]) (ue2 rfl _ _ _) rfl ⟨⟨_,rfl⟩,[.int .i64 x.1,.int .i64 (I6.wrap (x.2.1+y.1)),.int .i64 x.2.2.1,.int .i64 x.2.2.2.1,.int .i64 x.2.2.2.2.1,.bool x.2.2.2.2.2.1],rfl,(uc0 w b 1 _ ety (0,0) _ hg).trans (by simp[wrap64,udc]),iV (x:=(x.1,I6.wrap (x.2.1+y.1),x.2.2.1,x.2.2.2.1,x.2.2.2.2.1,x.2.2.2.2.2.1,())) (h0.2) (gZ .i64 _) (h2.2) (h3.2) (h4.2)⟩
set_option maxHeartbeats 4000000 in
set_option maxRecDepth 100000 in
def qyp:UpdOK prog 292 cn [i64] (λx y=>(x.1,x.2.1,x.2.2.1,I6.wrap (x.2.2.2.1+y.1),x.2.2.2.2.1,x.2.2.2.2.2.1,())):=by
 refine⟨enters_of func292 (by kernel_rfl) rfl,λw F b ety arr x y vs hg hs ho hx hy=>?_⟩;obtain⟨rfl,hr⟩:=wk hy;have ha:=Ar hs hx;subst ha
 go_enter func292,ntmps292
 have hc:=su hg;have hf:=zK hg;obtain⟨h0,h1,h2,h3,h4,h5,_⟩:=hx
 go_wp2_with (simp only[hc,hf])
 first
  |exact⟨⟨_,rfl⟩,[.int .i64 x.1,.int .i64 x.2.1,.int .i64 x.2.2.1,.int .i64 (I6.wrap (x.2.2.2.1+y.1)),.int .i64 x.2.2.2.2.1,.bool x.2.2.2.2.2.1],rfl,(uc0 w b 3 _ ety (0,0) _ hg).trans (by simp[wrap64,udc]),iV (x:=(x.1,x.2.1,x.2.2.1,I6.wrap (x.2.2.2.1+y.1),x.2.2.2.2.1,x.2.2.2.2.2.1,())) (h0.2) (h1.2) (h2.2) (gZ .i64 _) (h4.2)⟩
  |exact⟨.tuple #[],[.int .i64 x.1,.int .i64 x.2.1,.int .i64 x.2.2.1,.int .i64 (I6.wrap (x.2.2.2.1+y.1)),.int .i64 x.2.2.2.2.1,.bool x.2.2.2.2.2.1],rfl,rfl,(uc0 w b 3 _ ety (0,0) _ hg).trans (by simp[wrap64,udc]),iV (x:=(x.1,x.2.1,x.2.2.1,I6.wrap (x.2.2.2.1+y.1),x.2.2.2.2.1,x.2.2.2.2.2.1,())) (h0.2) (h1.2) (h2.2) (gZ .i64 _) (h4.2)⟩
  |exact ue9 (v:=.tuple #[]) (ue2 rfl _ _ _) rfl ⟨⟨_,rfl⟩,[.int .i64 x.1,.int .i64 x.2.1,.int .i64 x.2.2.1,.int .i64 (I6.wrap (x.2.2.2.1+y.1)),.int .i64 x.2.2.2.2.1,.bool x.2.2.2.2.2.1],rfl,(uc0 w b 3 _ ety (0,0) _ hg).trans (by simp[wrap64,udc]),iV (x:=(x.1,x.2.1,x.2.2.1,I6.wrap (x.2.2.2.1+y.1),x.2.2.2.2.1,x.2.2.2.2.2.1,())) (h0.2) (h1.2) (h2.2) (gZ .i64 _) (h4.2)⟩
set_option maxHeartbeats 4000000 in
set_option maxRecDepth 100000 in
def qc3:UpdOK prog 293 cn [i64] (λx y=>(x.1,x.2.1,x.2.2.1,x.2.2.2.1,x.2.2.2.2.1,false,())):=by
 refine⟨enters_of func293 (by kernel_rfl) rfl,λw F b ety arr x y vs hg hs ho hx hy=>?_⟩;obtain⟨rfl,hr⟩:=wk hy;have ha:=Ar hs hx;subst ha
 go_enter func293,ntmps293
 have hc:=su hg;have hf:=zK hg;obtain⟨h0,h1,h2,h3,h4,h5,_⟩:=hx
 go_wp2_with (simp only[hc,hf])
 first
  |exact⟨⟨_,rfl⟩,[.int .i64 x.1,.int .i64 x.2.1,.int .i64 x.2.2.1,.int .i64 x.2.2.2.1,.int .i64 x.2.2.2.2.1,.bool false],rfl,(uc0 w b 5 _ ety (0,0) _ hg).trans (by simp[wrap64,udc]),iV (x:=(x.1,x.2.1,x.2.2.1,x.2.2.2.1,x.2.2.2.2.1,false,())) (h0.2) (h1.2) (h2.2) (h3.2) (h4.2)⟩
  |exact⟨.tuple #[],[.int .i64 x.1,.int .i64 x.2.1,.int .i64 x.2.2.1,.int .i64 x.2.2.2.1,.int .i64 x.2.2.2.2.1,.bool false],rfl,rfl,(uc0 w b 5 _ ety (0,0) _ hg).trans (by simp[wrap64,udc]),iV (x:=(x.1,x.2.1,x.2.2.1,x.2.2.2.1,x.2.2.2.2.1,false,())) (h0.2) (h1.2) (h2.2) (h3.2) (h4.2)⟩
  |exact ue9 (v:=.tuple #[]) (ue2 rfl _ _ _) rfl ⟨⟨_,rfl⟩,[.int .i64 x.1,.int .i64 x.2.1,.int .i64 x.2.2.1,.int .i64 x.2.2.2.1,.int .i64 x.2.2.2.2.1,.bool false],rfl,(uc0 w b 5 _ ety (0,0) _ hg).trans (by simp[wrap64,udc]),iV (x:=(x.1,x.2.1,x.2.2.1,x.2.2.2.1,x.2.2.2.2.1,false,())) (h0.2) (h1.2) (h2.2) (h3.2) (h4.2)⟩
set_option maxHeartbeats 4000000 in
set_option maxRecDepth 100000 in
def qyv:UpdOK prog 294 cn [i64] (λx y=>(x.1,x.2.1,x.2.2.1,x.2.2.2.1,x.2.2.2.2.1,true,())):=by
 refine⟨enters_of func294 (by kernel_rfl) rfl,λw F b ety arr x y vs hg hs ho hx hy=>?_⟩;obtain⟨rfl,hr⟩:=wk hy;have ha:=Ar hs hx;subst ha
 go_enter func294,ntmps294
 have hc:=su hg;have hf:=zK hg;obtain⟨h0,h1,h2,h3,h4,h5,_⟩:=hx
 go_wp2_with (simp only[hc,hf])
 first
  |exact⟨⟨_,rfl⟩,[.int .i64 x.1,.int .i64 x.2.1,.int .i64 x.2.2.1,.int .i64 x.2.2.2.1,.int .i64 x.2.2.2.2.1,.bool true],rfl,(uc0 w b 5 _ ety (0,0) _ hg).trans (by simp[wrap64,udc]),iV (x:=(x.1,x.2.1,x.2.2.1,x.2.2.2.1,x.2.2.2.2.1,true,())) (h0.2) (h1.2) (h2.2) (h3.2) (h4.2)⟩
  |exact⟨.tuple #[],[.int .i64 x.1,.int .i64 x.2.1,.int .i64 x.2.2.1,.int .i64 x.2.2.2.1,.int .i64 x.2.2.2.2.1,.bool true],rfl,rfl,(uc0 w b 5 _ ety (0,0) _ hg).trans (by simp[wrap64,udc]),iV (x:=(x.1,x.2.1,x.2.2.1,x.2.2.2.1,x.2.2.2.2.1,true,())) (h0.2) (h1.2) (h2.2) (h3.2) (h4.2)⟩
  |exact ue9 (v:=.tuple #[]) (ue2 rfl _ _ _) rfl ⟨⟨_,rfl⟩,[.int .i64 x.1,.int .i64 x.2.1,.int .i64 x.2.2.1,.int .i64 x.2.2.2.1,.int .i64 x.2.2.2.2.1,.bool true],rfl,(uc0 w b 5 _ ety (0,0) _ hg).trans (by simp[wrap64,udc]),iV (x:=(x.1,x.2.1,x.2.2.1,x.2.2.2.1,x.2.2.2.2.1,true,())) (h0.2) (h1.2) (h2.2) (h3.2) (h4.2)⟩
open Go.Ab.Fr renaming val->Jv,need->Jd,br->Jb
def gb:List (Int×TypeId):=[(1,173),(2,175),(3,177),(4,178),(5,179),(6,180),(7,218)]
def w6 (k:Int):Value:=match dq gb k with
 |some ty=>.iface ty (.agg #[])
 |none=>.nilIface
def JO {k:Int} (h:k<1\/k>7):dq gb k=none:=by
 have:gb.find? (λx=>x.1==k)=none:=by
  rw[List.find?_eq_none];intro x hx;simp only[gb,ueg,udh,or_false] at hx;rcases hx with rfl|rfl|rfl|rfl|rfl|rfl|rfl<;>simp<;>omega
 unfold dq;rw[this];rfl
def pz {k:Int} (h:1<=k/\k<=7):k=1\/k=2\/k=3\/k=4\/k=5\/k=6\/k=7:=by omega
set_option maxHeartbeats 4000000 in
set_option maxRecDepth 100000 in
def ql4 (k:Int) (R:Ending->World->Prop) (w:World) (hR:∀ o,R (.returned (w6 k)) (w.alloc o)):Calls prog 96 #[.int .i64 k] w R:=by
 go_enter func96,ntmps96
 by_cases h1:k<1
 ·have hz:w6 k = .nilIface:=by unfold w6; rw[JO (.inl h1)]
  rw[hz] at hR
  go_wp2
  exact hR _
 ·by_cases h2:k>7
  ·have hz:w6 k = .nilIface:=by unfold w6; rw[JO (.inr h2)]
   rw[hz] at hR
   go_wp2
   exact hR _
  ·rcases pz (k:=k) (by omega) with rfl|rfl|rfl|rfl|rfl|rfl|rfl
   all_goals
    go_wp2
    exact hR _
def RT {w:World} {F:Nat->Prop} {es:List (Int×TypeId)} {t:Ty} {x:Int×t.den} {ty:TypeId} {u:Value} (h:dq es x.1=some ty) (hu:bq w F t x.2 u):bq w F (.ic es t) x (.iface ty u):=
 ⟨rfl,⟨λh=>(by cases h),λh=>(by obtain⟨_,h⟩:=h; cases h)⟩,.inl ⟨ty,u,h,rfl,hu⟩⟩
def SM {w:World} {F:Nat->Prop} {es:List (Int×TypeId)} {t:Ty} {x:Int×t.den} (h:dq es x.1=none):bq w F (.ic es t) x .nilIface:=
 ⟨rfl,⟨λh=>(by cases h),λh=>(by obtain⟨_,h⟩:=h; cases h)⟩,.inr ⟨h,rfl⟩⟩
def TC {w:World} {F:Nat->Prop} {t:Ty} {y:t.den} {v:Value} {o:Obj} (hF:∀ b,F b->b<w.heap.size) (h:bq w F t y v):fy w F [t] (y,()) (.returned v) (w.alloc o):=
 ⟨v,F,rfl,(ufi _ w).alloc (ufa _) _,λ_ h=>h,λb hb=>⟨.inl hb,by have:=hF b hb; simp; omega⟩,h.mono (λ_ h=>h) (λb hb=>uc8 _ _ _ (hF b hb))⟩
def qn6 {w:World} {F:Nat->Prop} {k:Int} {u:Unit} {vs:List Value} (h:dX prog w F [.d i64] (k,u) vs):vs=[.int .i64 k]/\inR .i64 k:=by
 obtain⟨v,vs',rfl,h1,h2⟩:=h;exact wk (w:=w) (F:=F) (y:=(k,())) ⟨v,vs',rfl,h1,h2⟩
def d6:Ct:=⟨[.d i64],[.ic gb .unit],λx=>((x.1,()),()),λ_=>[]⟩
def ql3:aa prog 96 d6:=by
 refine⟨enters_of func96 (by kernel_rfl) rfl,λw F xs vs hbd hr _=>?_⟩;obtain⟨k,_⟩:=xs;obtain⟨rfl,_⟩:=qn6 hr;refine ql4 k _ w λo=>TC hbd ?_;unfold w6;split
 ·rename_i ty h;exact RT h ⟨rfl,⟨λ_=>⟨_,rfl⟩,λ_=>rfl⟩,uT⟩
 ·rename_i h;exact SM h
end Go.Proofs.YtgieagiaagoogaaGreat
namespace Go.Proofs.YtgieagiaagoogaaGreat
open Go Go.Ab Go.RowKit Go.Proofs Tryz
open Go.Ab.Fr renaming val->Jv,need->Jd,br->Jb
abbrev rX:Ty:=.pair (.fc none) (.pair (.fc (some 290)) (.pair (.fc (some 291)) (.pair (.fc (some 292)) (.pair (.fc (some 293)) (.pair (.fc (some 294)) .unit)))))
noncomputable def Uy:List (FuncId×Row):=[(290,.upd cn [i64] (λx y=>(y.1,x.2.1,x.2.2.1,x.2.2.2.1,x.2.2.2.2.1,x.2.2.2.2.2.1,()))),(291,.upd cn [i64] (λx y=>(x.1,I6.wrap (x.2.1+y.1),x.2.2.1,x.2.2.2.1,x.2.2.2.2.1,x.2.2.2.2.2.1,()))),(292,.upd cn [i64] (λx y=>(x.1,x.2.1,x.2.2.1,I6.wrap (x.2.2.2.1+y.1),x.2.2.2.2.1,x.2.2.2.2.2.1,()))),(293,.upd cn [i64] (λx _=>(x.1,x.2.1,x.2.2.1,x.2.2.2.1,x.2.2.2.2.1,false,()))),(294,.upd cn [i64] (λx _=>(x.1,x.2.1,x.2.2.1,x.2.2.2.1,x.2.2.2.2.1,true,())))]
noncomputable def Yo:Cx:=vF [(59,fM)] [] Uy (λ_ _ _ _=>none)
def MD:CxOK prog Yo:=yW (cs:=[(59,fM)]) (ps:=[]) (rs:=Uy) aG ⟨Wo,uT⟩ trivial ⟨qnq,qxh,qyp,qc3,qyv,uT⟩ (λ_ _ _ _ _ h=>(nomatch h))
abbrev tz:Pt:=⟨28,0,⟨[(12,.d i64),(11,.d i64),(10,.d (.sl aN))],[.x 2 319 cn,.r 2 2 0,.x 3 324 rX,.r 3 3 0,.x 4 319 cn,.r 4 4 0]⟩,⟨[],[.x 2 319 cn,.r 2 2 0,.x 4 319 cn,.r 4 4 0]⟩,⟨[],[]⟩⟩
abbrev AQ:Type:=aq []×bW [.x 2 319 cn,.r 2 2 0,.x 3 324 rX,.r 3 3 0,.x 4 319 cn,.r 4 4 0]
def om (e:aN.den) (s:AQ):Fr AQ:=
 let d:=((),(),(),(),(),(),());let c:=s.2.2.2.1;let a:=c.2;let b:=a.2.2;Jb (fM.f (e.2.1,1,5,())).1 (Jd (0<=e.2.1/\e.2.1<(6:Int)) (Jd ((List.find? (λx_1=>x_1.1==e.2.1) (jX 0 (List.take 6 (List.drop 0 (List.drop 0 (enc rX s.2.2.1)))))).isSome=true) (Jd (e.2.1≠0+1->aE [e.2.1≠0+1+1->aE [e.2.1≠0+1+1+1->aE [e.2.1≠0+1+1+1+1->aE [e.2.1=0+1+1+1+1+1]]]]) (Jv ((),s.2.1,d,(bif e.2.1==0+1 then (e.2.2.1,a.1,a.2.1,b.1,b.2.1,b.2.2.1,()) else bif e.2.1==0+1+1 then (c.1,I6.wrap (a.1+e.2.2.1),a.2.1,b.1,b.2.1,b.2.2.1,()) else bif e.2.1==0+1+1+1 then (c.1,a.1,a.2.1,I6.wrap (b.1+e.2.2.1),b.2.1,b.2.2.1,()) else bif e.2.1==0+1+1+1+1 then (c.1,a.1,a.2.1,b.1,b.2.1,false,()) else (c.1,a.1,a.2.1,b.1,b.2.1,true,())),()))))) (Jv ((),s.2.1,d,c,()))
def rD (x:tz.M.X):Int×List aN.den×AQ:=(x.1.1,x.1.2.2.1,x.1.2.2.2,x.2)
def RE (x:tz.M.X):Prop:=x.1.2.1=(x.1.2.2.1.length:Int)
def Tn (s:AQ):tz.E.X:=((),s.2.1,s.2.2.2.1,())
def qtx:ah prog (.loop (aC f287 0)) tz.M tz (FF om rD RE Tn):=
 Bt MD (λ_ _=>.n .o) aN.dflt (λx=>x.1.2.1) (λx s=>((I6.wrap (x.1.1+1),x.1.2.1,x.1.2.2.1,s.1),s.2)) (λ_ h=>h)
def qy9 (y:tz.M.X):AQ:=fg om ((rD y).2.1.drop (rD y).1.toNat) (rD y).2.2
def qvv (y:tz.M.X):Prop:=kX om ((rD y).2.1.drop (rD y).1.toNat) (rD y).2.2
open Go.Ab.Fr renaming val->Jv,need->Jd,br->Jb
def qll (x:aq [.d aB]):Fr (ae [cn]):=
 let a:=((0,((List.length x.1.2.1):Int),x.1.2.1,()),(0,0,0,0,0,false,()),((),(),(),(),(),(),()),(0,0,0,0,0,true,()),());Jd (InL (RE a) (rD a)) (Jd (qvv a) (Jv ((Tn (qy9 a)).2.2.1,())))
def qlm:aa prog 287 (aL [.d aB] [cn] qll):=
 bz MD qtx
def iD (p:cn.den) (a:aN.den):cn.den:=
 bif dA a.2.1 1 5 then (bif a.2.1==1 then (a.2.2.1,p.2) else bif a.2.1==2 then (p.1,I6.wrap (p.2.1+a.2.2.1),p.2.2) else bif a.2.1==3 then (p.1,p.2.1,p.2.2.1,I6.wrap (p.2.2.2.1+a.2.2.1),p.2.2.2.2)
  else bif a.2.1==4 then (p.1,p.2.1,p.2.2.1,p.2.2.2.1,p.2.2.2.2.1,false,()) else (p.1,p.2.1,p.2.2.1,p.2.2.2.1,p.2.2.2.2.1,true,())) else p
def cL (g:aB.den):cn.den:=g.2.1.foldl iD (0,0,0,0,0,true,())
def SZ {k:Int} (h:1<=k/\k<=5):k=1\/k=2\/k=3\/k=4\/k=5:=by omega
def LE (e:aN.den) (q p:cn.den) (u:rX.den):(om e ((),q,u,p,())).ok/\(om e ((),q,u,p,())).get=((),q,u,iD p e,()):=by
 obtain⟨b,k,m,_⟩:=e;cases hw:dA k 1 5
 ·have ha:iD p (b,k,m,())=p:=by unfold iD; rw[show dA (b,k,m,()).2.1 1 5=false from hw]; rfl
  rw[ha];exact ax hw ⟨uT,rfl⟩
 ·have h15:=Wn.1 hw;have hk:=SZ h15;have ha:∀ z,(iD p (b,k,m,())=z)=((bif k==1 then (m,p.2) else bif k==2 then (p.1,I6.wrap (p.2.1+m),p.2.2) else bif k==3 then (p.1,p.2.1,p.2.2.1,I6.wrap (p.2.2.2.1+m),p.2.2.2.2)
  else bif k==4 then (p.1,p.2.1,p.2.2.1,p.2.2.2.1,p.2.2.2.2.1,false,()) else (p.1,p.2.1,p.2.2.1,p.2.2.2.1,p.2.2.2.2.1,true,()):cn.den)=z):=λz=>by
   unfold iD; rw[show dA (b,k,m,()).2.1 1 5=true from hw]; rfl
  refine ay hw ?_;rcases hk with rfl|rfl|rfl|rfl|rfl <;>
   exact au (by first|exact(by decide:(0:Int)<=1/\(1:Int)<6)|exact(by decide:(0:Int)<=2/\(2:Int)<6)|exact(by decide:(0:Int)<=3/\(3:Int)<6)|exact(by decide:(0:Int)<=4/\(4:Int)<6)|exact(by decide:(0:Int)<=5/\(5:Int)<6)) (au (by kernel_rfl) (au (by simp[aE]) ⟨uT,by rw[uee]; exact⟨rfl,by rw[eq_comm] ; rfl⟩⟩))
def Vc (q:cn.den) (u:rX.den):(l:List aN.den)->(p:cn.den)->fg om l ((),q,u,p,())=((),q,u,l.foldl iD p,())
 |[],_=>rfl
 |e::l,p=>by
  show fg om l (om e ((),q,u,p,())).get=_;rw[(LE e q p u).2];exact Vc q u l (iD p e)
def Vd (q:cn.den) (u:rX.den):(l:List aN.den)->(p:cn.den)->kX om l ((),q,u,p,())
 |[],_=>trivial
 |e::l,p=>⟨(LE e q p u).1,by
  rw[(LE e q p u).2];exact Vd q u l (iD p e)⟩
def zp {w:World} {F:Nat->Prop} {g:aB.den} {v:Value} (h:bq w F aB g v):((List.length (α:=aN.den) g.2.1:Nat):Int)<=9223372036854775807:=by
 have h1:List.length (α:=aN.den) g.2.1<=maxLen:=(aD.wf h.2.2).2.1.1;unfold maxLen at h1;omega
def sq:Ct:=⟨[.d aB],[cn],λx=>(cL x.1,()),λ_=>[]⟩
abbrev Pq:cn.den:=(0,0,0,0,0,false,())
abbrev VQ:rX.den:=((),(),(),(),(),(),())
def zcl:aa prog 287 sq:=
 conv qlm _ _ (λw F x vs hr _=>by
  obtain⟨g,_⟩:=x;obtain⟨v,vs',rfl,hv,_⟩:=hr;have hlen:=zp hv;refine au ⟨rfl,ufb _,ub2 _,hlen⟩ (au ?_ ⟨uT,?_⟩)
  ·exact Vd Pq VQ (List.drop 0 g.2.1) _
  ·show((fg om (List.drop 0 g.2.1) ((),Pq,VQ,(0,0,0,0,0,true,()),())).2.2.2.1,())=(cL g,());rw[ued,Vc];rfl)
end Go.Proofs.YtgieagiaagoogaaGreat
namespace Go.Proofs.YtgieagiaagoogaaGreat
open Go Go.Ab Go.RowKit Go.Proofs Go.Shelf Go.Lib Tryz
open Go.Ab.Fr renaming val->Jv,need->Jd,br->Jb
set_option maxRecDepth 100000 in
def qok:(prog.info? 42).map (λi=>(i.zero,i.size,i.bytes))=some (some (.agg #[.int .i64 0,.int .i64 0,.int .i64 0]),3,24):=by kernel_rfl
set_option maxHeartbeats 4000000 in
set_option maxRecDepth 100000 in
def qcz:CloneOK prog 289 42 aN 24:=by
 refine⟨enters_of func289 (by kernel_rfl) rfl,λw n c A xs hnc hA hxl hxc h1 h63 hby=>?_⟩;obtain⟨i0,hi0,hz0,hz1,hz2⟩:=ufn qok;have hcmp:∀ (A:Option Addr) (n c:Nat),(binOp .eql 74 (.slice A n c) (.slice none 0 0)).run prog w = .ok (.bool A.isNone) w:=λA n c=>by
  have h1:binOp .eql 74 (.slice A n c) (.slice none 0 0)=(do pure (.bool (<- Op.equal 74 (.slice A n c) (.slice none 0 0)))):=rfl;have h2:Op.equal 74 (.slice A n c) (.slice none 0 0)=Op.equalIn (9999+1) 74 (.slice A n c) (.slice none 0 0):=rfl;rw[h1,h2];simp[Ks underlying74]
 go_enter func289,ntmps289
 cases A with
 |none=>
  have h0:=hA rfl;subst h0;have hx:xs=[]:=uab (by simpa using hxl);subst hx
  go_wp2_with (simp only[hcmp])
  go_ret
  exact⟨_,rfl,⟨rfl,rfl,rfl,ufa _,λ_ _ _=>rfl⟩,ucq _ _ _ _⟩
 |some ad=>
  have hW:(w.alloc (.cells #[] 42)).ownsRow w.heap.size 42 3 (.slice (some ⟨w.heap.size,0,none⟩) 0 0) 0 []:=World.ownsRow_lit w #[] 0 (ufa _) (by unfold maxLen; omega) rfl;have hcell:∀ (j:Nat) u,xs[j]? = some u->(w.alloc (.cells #[] 42)).cell? (ad.add j)=some u:=λj u hj=>by
   have h:=hxc ad rfl j u hj;have hb:=block_lt_of_cell h;rw[ubb (pU w _ _ hb)];exact h
  obtain⟨v',w',hr,e2,e3,e4⟩:=yi (P:=prog) (w:=w.alloc (.cells #[] 42)) (B:=w.heap.size) 74 74 42 i0 _ 3 underlying74 hi0 hz0 hz1 rfl (by decide) _ 0 [] hW (some ad) n c xs (λh=>by cases h) hxl (λad' e=>by cases e; exact hcell) h1 (by rw[uew]; exact h63) (by rw[hz2,uew]; exact hby) (by simp);have hr':∀ ty,(Builtin.append_ #[74,74] ty #[.slice (some ⟨w.heap.size,0,none⟩) 0 0,.slice (some ad) n c]).run prog (w.alloc (.cells #[] 42)) = .ok v' w':=λty=>hr;clear hr
  go_wp2_with (first|(simp only[hcmp]; done)|simp only[hcmp]|(at_builtin; refine Lib.wpList_append_run _ rfl _ _ _ _ rfl _ _ rfl rfl _ _ (hr' _) ?_))
  go_ret
  rw[uew,udk] at e2;refine⟨v',rfl,⟨e3.os,e3.tape,e3.output,uen (by simp) e3.size,λk hk _=>(e3.block k (by simp; omega) (λe=>?_)).trans (pU w _ k hk)⟩,e2⟩;have:k=w.heap.size:=by simpa[Value.ownBlock] using e
  omega
end Go.Proofs.YtgieagiaagoogaaGreat
namespace Go.Proofs.YtgieagiaagoogaaGreat
open Go Go.Ab Go.RowKit Go.Proofs Tryz
open Go.Ab.Fr renaming val->Jv,need->Jd,br->Jb
noncomputable def Yp:Cx:=vF [(287,sq),(27,l6),(288,Cq)] [] [(289,.clone 42 aN 24)] (λ_ _ _ _=>none)
def Yq:CxOK prog Yp:=yW (cs:=[(287,sq),(27,l6),(288,Cq)]) (ps:=[]) (rs:=[(289,.clone 42 aN 24)]) aG ⟨zcl,O0,qp0,uT⟩ trivial ⟨qcz,uT⟩ (λ_ _ _ _ _ h=>(nomatch h))
def Iv (x:aq [.d aB,.d aN]):Fr (ae [aB,i64]):=
 let h:=sq.f (x.1,());let c:=x.1.2.1;let g:=((x.1.1,c++[x.2.1],()),0,());let b:=((0,0,0,0,0,0,()),[],());let a:=bif x.2.1.2.1==2 then decide (x.2.1.2.2.1>I6.wrap (1000000000000000-h.1.2.1)) else false;Jb (!(l6.f (x.2.1,())).1) (Jv (b,1,())) (Jb (decide (((List.length c):Int)>=2000)) (Jv (b,2,())) (Jb (decide (x.2.1.1<(Cq.f (x.1,())).1)) (Jv (b,4,())) (Jb (h.1.2.2.2.2.2.1==(x.2.1.2.1==5)) (Jv (b,10,())) (Jb a (Jb a (Jv (b,5,())) (Jd (List.length c<=maxLen) (Jd (List.length c*24<=140737488355328) (Jd (List.length c + [x.2.1].length<=maxLen/\(List.length c + [x.2.1].length)*24<=140737488355328) (Jv g))))) (Jb (bif x.2.1.2.1==3 then decide (x.2.1.2.2.1>I6.wrap (1000000000000000-h.1.2.2.2.1)) else false) (Jv (b,5,())) (Jd (List.length c<=maxLen) (Jd (List.length c*24<=140737488355328) (Jd (List.length c + [x.2.1].length<=maxLen/\(List.length c + [x.2.1].length)*24<=140737488355328) (Jv g)))))))))
def qih:aa prog 285 (aL [.d aB,.d aN] [aB,i64] Iv):=
 aH Yq f285
abbrev oU:aB.den:=((0,0,0,0,0,0,()),[],())
def sm (g:aB.den) (a:aN.den):Bool:=
 (bif a.2.1==2 then decide (a.2.2.1>I6.wrap (1000000000000000-(cL g).2.1)) else false) || (bif a.2.1==3 then decide (a.2.2.1>I6.wrap (1000000000000000-(cL g).2.2.2.1)) else false)
def jj (g:aB.den) (a:aN.den):aB.den×Int:=
 bif !(gD a) then (oU,1) else bif decide (((List.length (α:=aN.den) g.2.1:Nat):Int)>=2000) then (oU,2) else bif decide (a.1<lQ g) then (oU,4)
  else bif (cL g).2.2.2.2.2.1==(a.2.1==5) then (oU,10) else bif sm g a then (oU,5) else ((g.1,g.2.1++[a],()),0)
def Of:Ct:=⟨[.d aB,.d aN],[aB,i64],λx=>((jj x.1 x.2.1).1,(jj x.1 x.2.1).2,()),λ_=>[]⟩
def qdx (g:aB.den) (a:aN.den):(Iv (g,a,())).ok/\(Iv (g,a,())).get=((jj g a).1,(jj g a).2,()):=by
 unfold jj;cases h1:gD a
 ·exact ay (by show(!(gD a))=true; rw[h1]; rfl) ⟨uT,rfl⟩
 refine ax (by show(!(gD a))=false; rw[h1]; rfl) ?_;cases h2:decide (((List.length (α:=aN.den) g.2.1:Nat):Int)>=2000)
 rotate_left
 ·exact ay (by first|rfl|exact h2) ⟨uT,rfl⟩
 refine ax (by first|rfl|exact h2) ?_;have hl:List.length (α:=aN.den) g.2.1<2000:=by have:=ucf h2; omega
 have n1:List.length (α:=aN.den) g.2.1<=maxLen:=by unfold maxLen; omega
 have n2:List.length (α:=aN.den) g.2.1*24<=140737488355328:=by omega
 have n3:List.length (α:=aN.den) g.2.1 + [a].length<=maxLen/\(List.length (α:=aN.den) g.2.1 + [a].length)*24<=140737488355328:=by
  rw[ua5];exact⟨by unfold maxLen; omega,by omega⟩
 cases h3:decide (a.1<lQ g)
 rotate_left
 ·exact ay (by first|rfl|exact h3) ⟨uT,rfl⟩
 refine ax (by first|rfl|exact h3) ?_;cases h4:(cL g).2.2.2.2.2.1==(a.2.1==5)
 rotate_left
 ·exact ay (by first|rfl|exact h4) ⟨uT,rfl⟩
 refine ax (by first|rfl|exact h4) ?_;unfold sm;cases h5:(bif a.2.1==2 then decide (a.2.2.1>I6.wrap (1000000000000000-(cL g).2.1)) else false)
 rotate_left
 ·exact ay (by first|rfl|exact h5) (ay (by first|rfl|exact h5) ⟨uT,rfl⟩)
 refine ax (by first|rfl|exact h5) ?_;cases h6:(bif a.2.1==3 then decide (a.2.2.1>I6.wrap (1000000000000000-(cL g).2.2.2.1)) else false)
 rotate_left
 ·exact ay (by first|rfl|exact h6) ⟨uT,rfl⟩
 exact ax (by first|rfl|exact h6) (au n1 (au n2 (au n3 ⟨uT,rfl⟩)))
def qdy:aa prog 285 Of:=conv qih _ _ (λ_ _ x _ _ _=>qdx x.1 x.2.1)
open Go.Ab.Fr renaming val->Jv,need->Jd,br->Jb
def X0:cr.den:=((1,101,()),(0,36500,0,0,()),[(1,1000,1000,0,10000,())],())
open Go.Ab.Fr renaming val->Jv,need->Jd,br->Jb
def qwa (h:ap.den):(bQ h).Pairwise λx y=>cB h x<=cB h y:=
 (gX (key:=cB h) (lt:=fk h) (λ_ _ _ _=>rfl)).1
def OG (h:ap.den):(gE h).Pairwise λx y=>x.2.1<=y.2.1:=by
 unfold gE;rw[List.pairwise_map];exact qwa h
def qcg {h:ap.den} {i:Int} (hi:0<=i/\i<((aw h).length:Int)):aQ h i∈aw h:=by
 unfold aQ;exact eh (by omega)
def CA {h:ap.den} {c:ar.den} (hc:c∈gE h):c∈aw h:=by
 obtain⟨i,hi,rfl⟩:=ue7.1 hc;exact qcg (tc hi)
structure HistOk (h:ap.den):Prop where
 terms:ft h.2.2.1=true
 a1:1<=h.2.2.1.1.1
 ab:h.2.2.1.1.1<h.2.2.1.1.2.1
 b1:h.2.2.1.1.2.1<=292195
 wide:h.2.2.1.1.2.1-h.2.2.1.1.1<=1100
 chs:∀ c∈aw h,dF c=true/\h.2.2.1.1.1<=c.2.1/\c.2.1<h.2.2.1.1.2.1
def qn3 {h:ap.den}:gq h=true↔ft h.2.2.1=true/\h.2.2.2.1.length<=2000/\∀ c∈aw h,dF c=true/\cE h.2.2.1.1.1 h.2.2.1.1.2.1 c.2.1=true:=by
 unfold gq;simp only[uc9,ucs,uc6,and_assoc]
def zds {t:cr.den} (h:ft t=true):1<=t.1.1/\t.1.1<t.1.2.1/\t.1.2.1<=292195/\t.1.2.1-t.1.1<=1100:=by
 obtain⟨⟨a,b,_⟩,r,cs,_⟩:=t;unfold ft at h;rw[uc9,uc9] at h;obtain⟨h1,h2,_⟩:=h;obtain⟨p1,p2,p3⟩:=jY.1 h1;exact⟨p1,p2,p3,ucv h2⟩
def RK {h:ap.den} (hh:gq h=true):HistOk h:=by
 obtain⟨h1,_,h3⟩:=qn3.1 hh;obtain⟨p1,p2,p3,p4⟩:=zds h1;refine⟨h1,p1,p2,p3,p4,λc hc=>?_⟩;obtain⟨q1,q2⟩:=h3 c hc;have q3:=ucv q2;exact⟨q1,q3.2.2.1,q3.2.2.2⟩
def Pf {h:ap.den} (hh:gq h=true):cz (kp h) h.2.2.1.1.2.1 h.2.2.1.1.1 (ez h):=by
 have ho:=RK hh;exact Rn (k0:=(true,h.2.2.1.2.1,h.2.2.1.2.2.1)) (a:=h.2.2.1.1.1) (b:=h.2.2.1.1.2.1) (λc hc=>ues (ho.chs c (CA hc)).2.2) (gE h) [] rfl (OG h) (Ku h) [] (λc hc=>(by cases hc)) (λc hc=>(ho.chs c (CA hc)).2.1)
  (ues ho.ab) rfl rfl rfl
open Go.Ab.Fr renaming val->Jv,need->Jd,br->Jb
def D6 (d:Int):(l:List ar.den)->(k:eJ)->ej d (l.filter λc=>decide (c.2.1<=d)) k=ej d l k
 |[],_=>rfl
 |c::l,k=>by
  by_cases hc:c.2.1<=d
  ·rw[List.filter_cons_of_pos (by simpa using hc)];simp only[ej];exact D6 d l _
  ·rw[List.filter_cons_of_neg (by simpa using hc)];have hgt:c.2.1>d:=ufk.1 hc;simp only[ej];rw[if_pos hgt];exact D6 d l k
def bS.filter {α:Type} {key:α->Int} {l:List α} (h:bS key l) (p:α->Bool):bS key (l.filter p):=List.Pairwise.sublist List.filter_sublist h
open Go.Ab.Fr renaming val->Jv,need->Jd,br->Jb
def i7 (p:List Int×List Int) (d:Int):Int:=cW (p.1,p.2,()) d
def qc6 (l m:List Int) (d:Int):f8 (l++m) d=f8 l d+f8 m d:=by
 unfold f8;exact List.countP_append
def qc7 (l:List Int) (d:Int):f8 l d<=l.length:=by
 unfold f8;exact List.countP_le_length
def OI {l:List Int} {d:Int} (h:∀ x∈l,x<=d):f8 l d=l.length:=by
 unfold f8;exact List.countP_eq_length.2 λx hx=>ud8 (h x hx)
def qc8 (day d:Int):f8 [day] d=if day<=d then 1 else 0:=by
 unfold f8;by_cases h:day<=d
 ·rw[if_pos h,List.countP_eq_length.2 (λx hx=>by rw[ucd.1 hx]; exact ud8 h)];rfl
 ·rw[if_neg h];exact List.countP_eq_zero.2 (λx hx hd=>by rw[ucd.1 hx] at hd; exact h (ucv hd))
def Good.all {p:List Int×List Int} {m:Int} (h:Good p m):∀ x∈p.1,x<=m:=by
 intro x hx;have hp:=(Li h.up h.len).1;have hle:=h.le;have hne:p.1 ≠ []:=List.ne_nil_of_mem hx;rw[List.getLast?_eq_some_getLast hne] at hle;have hle':p.1.getLast hne<=m:=hle;have hs:p.1=p.1.dropLast++[p.1.getLast hne]:=(List.dropLast_concat_getLast hne).symm;rw[hs] at hx hp;rcases udq.1 hx with hx|hx
 ·have:=(ubn.1 hp).2.2 x hx _ (ucd.2 rfl);exact ues (Int.lt_of_lt_of_le this hle')
 ·rw[ucd.1 hx];exact hle'
def We {l r:List Int} {day v d:Int} (hlen:l.length=r.length) (hl:∀ x∈l,x<day):i7 (l++[day],r++[v]) d=if day<=d then v else i7 (l,r) d:=by
 unfold i7 cW;show(match f8 (l++[day]) d with|0=>(0:Int)|k+1=>(r++[v]).getD k 0)=_;rw[qc6,qc8];by_cases h:day<=d
 ·rw[if_pos h,if_pos h,OI (λx hx=>ue3 (ues (hl x hx)) h)];show(r++[v]).getD l.length 0=v;rw[uah,uae (by omega),hlen];simp
 ·rw[if_neg h,if_neg h];show(match f8 l d+0 with|0=>(0:Int)|k+1=>(r++[v]).getD k 0)=(match f8 l d with|0=>(0:Int)|k+1=>r.getD k 0);rw[uex];have hk:=qc7 l d;cases hc:f8 l d with
  |zero=>rfl
  |succ k=>
   rw[hc] at hk;show(r++[v]).getD k 0=r.getD k 0;rw[uah,uah,uaj (by omega)]
def ze2 {p:List Int×List Int} {m d:Int} (h:Good p m) (hd:m<=d):i7 p d=p.2.getLast?.getD 0:=by
 unfold i7 cW;show(match f8 p.1 d with|0=>(0:Int)|k+1=>p.2.getD k 0)=_;rw[OI (λx hx=>ue3 (h.all x hx) hd),h.len];cases hn:p.2.length with
 |zero=>
  have:p.2=[]:=uay.1 hn;rw[this];rfl
 |succ k=>
  show p.2.getD k 0=_;rw[uan,hn,uah];rfl
def Wd {q:List Int×List Int} {m day v d:Int} (hq:Good q m) (hm:m<day) (hd:d<=292194):i7 (if v≠q.2.getLast?.getD 0/\day<=292194 then (q.1++[day],q.2++[v]) else q) d=if day<=d then v else i7 q d:=by
 by_cases hc:v≠q.2.getLast?.getD 0/\day<=292194
 ·rw[if_pos hc];exact We hq.len (λx hx=>Int.lt_of_le_of_lt (hq.all x hx) hm)
 ·rw[if_neg hc];by_cases h:day<=d
  ·rw[if_pos h,ze2 hq (ue3 (ues hm) h)];apply Classical.byContradiction;intro hv;exact hc ⟨λe=>hv e.symm,ue3 h hd⟩
  ·rw[if_neg h]
def Wb {p:List Int×List Int} {m day v d:Int} (h:Good p m) (hm:m<=day) (h1:1<=day) (hd:d<=292194):i7 (eM p day v) d=if day<=d then v else i7 p d:=by
 unfold eM;by_cases hl:p.1.getLast? = some day
 ·have hp:=(h.pop hl).1;simp only[hl,if_true];have:=Wd (v:=v) hp (show day-1<day by omega) hd;refine this.trans ?_;by_cases hx:day<=d
  ·rw[if_pos hx,if_pos hx]
  ·rw[if_neg hx,if_neg hx];have e1:=J4 hl;have hne:p.2 ≠ []:=by
    intro h0;have hlen:=h.len;rw[h0] at hlen;rw[uay.1 hlen] at hl;cases hl
   have e2:p.2=p.2.dropLast++[p.2.getLast hne]:=(List.dropLast_concat_getLast hne).symm;have:i7 p d=i7 (p.1.dropLast++[day],p.2.dropLast++[p.2.getLast hne]) d:=by
    rw[<- e1,<- e2]
   rw[this,We hp.len (λx hx=>by have:=hp.all x hx; omega),if_neg hx]
 ·simp only[hl,ufu];have hlt:p.1.getLast?.getD 0<=day-1:=by
   have hle:=h.le;cases hx:p.1.getLast? with
   |none=>show(0:Int)<=_; omega
   |some x=>
    rw[hx] at hle hl;have hne:x≠day:=λhe=>hl (by rw[he]);have hle':x<=m:=hle;show x<=_;omega
  exact Wd (v:=v) (m:=day-1) ⟨h.len,h.up,hlt,h.pos⟩ (by omega) hd
def Wc {p:List Int×List Int} {s:af.den} {e d:Int} (h:Good p e) (he:1<=e) (hs:fD s e=true) (hd:d<=292194) :
  i7 (addS p s) d=if s.1.2.1<=d then 0 else if s.1.1<=d then s.2.2.2.2.1 else i7 p d:=by
 obtain⟨h1,h2,h3,h4,h5⟩:=jt.1 hs;have hf:1<=s.1.1:=ue3 he h1;have ht:1<=s.1.2.1:=ue3 hf (ues h2);have g:=h.add h1 hf ⟨h4,h5⟩;unfold addS;rw[Wb g (ues h2) ht hd,Wb h h1 hf hd]
def gk:List af.den->Int->Int
 |[],_=>0
 |s::l,d=>if s.1.1<=d/\d<s.1.2.1 then s.2.2.2.2.1 else gk l d
def OT:{l:List af.den} -> {e:Int} -> {p:List Int×List Int} -> {q:Int×(List Int×List Int)}->hZ l e p=some q->(d:Int)->d<e->gk l d=0
 |[],_,_,_,_,_,_=>rfl
 |s::l,e,p,q,hq,d,hd=>by
  simp only[hZ] at hq;split at hq
  ·rename_i hs;obtain⟨h1,h2,_⟩:=jt.1 hs;unfold gk;have hd1:d<s.1.1:=Int.lt_of_lt_of_le hd h1;rw[if_neg (λhh=>absurd hh.1 (ufk.2 hd1))];exact OT hq d (ue0 hd1 h2)
  ·cases hq
def Pb:{l:List af.den} -> {e:Int} -> {p:List Int×List Int} -> {q:Int×(List Int×List Int)}->Good p e->1<=e->(∀ d,e<=d->d<=292194->i7 p d=0)->hZ l e p=some q->(d:Int)->d<=292194->i7 q.2 d=if d<e then i7 p d else gk l d
 |[],e,p,q,_,_,h0,hq,d,hd=>by
  simp only[hZ,ucj] at hq;subst hq;by_cases h:d<e
  ·rw[if_pos h]
  ·rw[if_neg h];exact h0 d (ufl.1 h) hd
 |s::l,e,p,q,h,he,h0,hq,d,hd=>by
  have hq':=hq;simp only[hZ] at hq;split at hq
  ·rename_i hs;obtain⟨h1,h2,_⟩:=jt.1 hs;have ht:1<=s.1.2.1:=ue3 (ue3 he h1) (ues h2);have ih:=Pb (h.addS he hs) ht (λd g1 g2=>by rw[Wc h he hs g2,if_pos g1]) hq d hd;rw[ih,Wc h he hs hd];by_cases c1:d<s.1.2.1
   ·rw[if_pos c1,if_neg (ufk.2 c1)];by_cases c2:s.1.1<=d
    ·rw[if_pos c2,if_neg (ufl.2 (ue3 h1 c2))];unfold gk;rw[if_pos ⟨c2,c1⟩]
    ·rw[if_neg c2];by_cases c3:d<e
     ·rw[if_pos c3]
     ·rw[if_neg c3,h0 d (ufl.1 c3) hd];unfold gk;rw[if_neg (λhh=>c2 hh.1)];exact(OT hq d c1).symm
   ·have c2:¬ d<e:=λhh=>c1 (Int.lt_of_lt_of_le hh (ue3 h1 (ues h2)));rw[if_neg c1,if_neg c2]
    conv=>rhs; unfold gk
    rw[if_neg (λhh=>c1 hh.2)]
  ·cases hq
def zez {l:List af.den} (h:(eD l).isNone=false) {d:Int} (h1:1<=d) (h2:d<=292194):cW (bV l) d=gk l d:=by
 unfold bV;unfold eD at *;split at h
 ·rename_i hl;rw[if_pos hl];rw[CG] at h |-;cases hq:hZ l 1 ([],[]) with
  |none=>rw[hq] at h; cases h
  |some q=>
   have:=Pb Rr (by decide) (λd _ _=>rfl) hq d h2;rw[if_neg (ufl.2 h1)] at this;exact this
 ·cases h
open Go.Ab.Fr renaming val->Jv,need->Jd,br->Jb
def qho {h:ap.den} {t:aP.den} (hf:oR h t=true):bD h/\bT t:=by
 unfold oR at hf;simp only[uc9,ucs,uc6] at hf;obtain⟨⟨h1,h2,h3⟩,h4,h5⟩:=hf;refine⟨⟨by show h.2.2.2.1.length<=500000; omega,by omega,λc hc=>?_⟩,by omega,λv hv=>?_⟩
 ·have:c.2.2.2.2.1.length<=50:=ucv (h4 c hc);omega
 ·have:=h5 v hv;unfold sC at this;simp only[uc9,ucs] at this;exact⟨by omega,by omega,by omega⟩
def BM (h:ap.den) (c:ar.den):ap.den:=(h.1,h.2.1,h.2.2.1,([]++h.2.2.2.1)++[c],())
set_option maxRecDepth 100000 in
def pw (n m:Nat):Prop:=n+m<=maxLen/\(n+m)*prog.types[38].bytes<=140737488355328
set_option maxRecDepth 100000 in
def OD:prog.types[38].bytes<=1000:=by decide
def cz.mem {st:Int->eJ} {b:Int}:{a:Int} -> {l:List af.den}->cz st b a l->∀ s∈l,a<=s.1.1/\s.1.1<s.1.2.1/\s.1.2.1<=b/\∀ d,s.1.1<=d->d<s.1.2.1->cA s=st d
 |_,[],_,_,hs=>by cases hs
 |a,t::l,h,s,hs=>by
  obtain⟨h1,h2,h3,h4,h5,h6⟩:=h;rcases ueg.1 hs with rfl|hs
  ·rw[h1];exact⟨ufb _,h2,h6.le,h4⟩
  ·obtain⟨q1,q2⟩:=cz.mem h6 s hs;exact⟨ue3 (ues h2) q1,q2⟩
open Go.Ab.Fr renaming val->Jv,need->Jd,br->Jb
noncomputable def X7:Cx:=cx [(70,kC ak)] []
def X8:CxOK prog X7:=aJ aG ⟨yU,uT⟩ trivial
def Cr:Ct:=⟨[.d cr],[cr],λx=>(x.1,()),λx=>[x.1.2.2.1.length<=1000000]⟩
def Tw:aa prog 259 Cr:=
 cg (aH X8 f259 (fr:=λx=>Jd (x.1.2.2.1.length<=1000000) (Jv (x.1,()))) (ps:=[.d cr])) _ _
  (λ_ _ _ _ _ hok=>au hok ⟨uT,rfl⟩)
def fh:ap.den:=(0,0,((0,0,()),(0,0,0,0,()),[],()),[],())
def nm (h:ap.den):Int:=if (aw h).length=0 then h.2.1 else ((aw h).getD ((aw h).length-1) ar.dflt).1
def mu (h:ap.den) (c:ar.den):ap.den×Int:=
 if dF c=true/\cE h.2.2.1.1.1 h.2.2.1.1.2.1 c.2.1=true then
  (if c.1<nm h then (fh,4) else if 2000<=(aw h).length then (fh,2) else (BM h c,0))
 else (fh,1)
def oM:Ct:=⟨[.d ap,.d ar],[ap,i64],λx=>((mu x.1 x.2.1).1,(mu x.1 x.2.1).2,()),λx=>[bD x.1]⟩
noncomputable def X9:Cx:=cx [(70,kC ak),(99,hP),(43,eN),(259,Cr)] []
def XA:CxOK prog X9:=aJ aG ⟨yU,Hw,sL,Tw,uT⟩ trivial
def Dr (h:ap.den) (c:ar.den) (last:Int):Fr (ae [ap,i64]):=
 let b:=(none:Option Int);let d:=List.drop (b.getD 0).toNat (aw h);let a:=((aw h).length:Int);Jb (bif !(hP.f (c,())).1 then true else !(eN.f (h.2.2.1.1,c.2.1,())).1) (Jv (fh,1,()))
  (Jb (decide (c.1<last)) (Jv (fh,4,()))
   (Jb (decide (a>=2000)) (Jv (fh,2,()))
    (Jd (c.2.2.2.2.1.length<=1000000) (Jd (h.2.2.1.2.2.1.length<=1000000)
     (Jd (0<=b.getD 0/\b.getD 0<=a/\a<=a/\a=a)
      (Jd (0 < [c].length/\pw (List.take (a-b.getD 0).toNat d).length [c].length)
       (Jv ((h.1,h.2.1,h.2.2.1,List.take (a-b.getD 0).toNat d++[c],()),0,()))))))))
def QJ (x:aq [.d ap,.d ar]):Fr (ae [ap,i64]):=
 let a:=((aw x.1).length:Int);Jb (decide (a>0))
  (Jd (0<=I6.wrap (a-1)/\I6.wrap (a-1)<a)
   (Dr x.1 x.2.1 (List.getD (aw x.1) (I6.wrap (a-1)).toNat ar.dflt).1))
  (Dr x.1 x.2.1 x.1.2.1)
def qx2:aa prog 270 (aL [.d ap,.d ar] [ap,i64] QJ):=
 aH XA f270
def Uu {n:Nat} (hn:n<=2000):pw n 1:=by
 refine⟨by unfold maxLen; omega,uen (uec (show n+1<=2001 by omega) OD) (by decide)⟩
def BW {a b:Bool}:(bif !a then true else !b)=false↔a=true/\b=true:=by
 cases a<;>cases b<;>simp
def zdh (l:List ar.den):List.take ((l.length:Int)-(none:Option Int).getD 0).toNat (List.drop ((none:Option Int).getD 0).toNat l)=l:=by
 show List.take ((l.length:Int)-0).toNat l=l;rw[ueq,ucy,List.take_length]
def pX {a b:Bool} (h:(bif a then b else false)=true):a=true/\b=true:=by
 cases a with
 |false=>cases h
 |true=>exact⟨rfl,h⟩
def Kf {n:Nat} (h:((n:Int)==0)=true):n<=1000000:=by
 have:(n:Int)=0:=eq_of_beq h;omega
def OC {c:ar.den} (h:dF c=true):c.2.2.2.2.1.length<=1000000:=by
 unfold dF zX at h;rw[uc9,uc9] at h;have h3:=h.2.2;split at h3
 ·exact Kf (pX (pX h3).1).2
 ·split at h3
  ·have hc:ji c.2.2.2.2.1=true:=(pX (pX h3).1).1;unfold ji at hc;rw[uc9] at hc;have:=ucv hc.1;exact uen this.2 (by decide)
  ·split at h3
   ·exact Kf (pX (pX h3).1).2
   ·split at h3
    ·exact Kf (pX (pX h3).1).2
    ·cases h3
def QK {h:ap.den} {c:ar.den} {last:Int} (hl:last=nm h) (hf:bD h) :
  (Dr h c last).ok/\(Dr h c last).get=((mu h c).1,(mu h c).2,()):=by
 subst hl;unfold mu;cases h1:(bif !(hP.f (c,())).1 then true else !(eN.f (h.2.2.1.1,c.2.1,())).1) with
 |true=>
  refine ay h1 ⟨uT,?_⟩;have h1':¬ (dF c=true/\cE h.2.2.1.1.1 h.2.2.1.1.2.1 c.2.1=true):=λhh=>by
   have h2:(bif !dF c then true else !cE h.2.2.1.1.1 h.2.2.1.1.2.1 c.2.1)=true:=h1;rw[BW.2 hh] at h2;cases h2
  rw[if_neg h1'];rfl
 |false=>
  refine ax h1 ?_;have h1':dF c=true/\cE h.2.2.1.1.1 h.2.2.1.1.2.1 c.2.1=true:=BW.1 h1;rw[if_pos h1'];by_cases h2:c.1<nm h
  ·rw[if_pos h2];exact ay (ud8 h2) ⟨uT,rfl⟩
  ·rw[if_neg h2];refine ax (udt h2) ?_;by_cases h3:2000<=(aw h).length
   ·rw[if_pos h3];exact ay (ud8 (by omega)) ⟨uT,rfl⟩
   ·rw[if_neg h3];refine ax (udt (by omega)) (au (OC h1'.1) (au hf.2.1 (au ⟨ufb _,ub2 _,ufb _,rfl⟩ ?_)));rw[zdh];have hr:=Uu (n:=(aw h).length) (by omega);refine au ⟨uds,hr⟩ ⟨uT,?_⟩;rfl
def qx1:aa prog 270 oM:=
 cg qx2 _ _ (λw F x vs hr hok=>by
  obtain⟨h,c,_⟩:=x;obtain⟨v,vs',rfl,hv,_⟩:=hr;have hlen:((aw h).length:Int)<=9223372036854775807:=np (aD.wf hv.2.2).2.2.2.1.1;have hf:=hok;by_cases h0:(aw h).length=0
  ·refine ax (udt (by show ¬ ((aw h).length:Int)>0; omega)) (QK ?_ hf);unfold nm;rw[if_pos h0]
  ·have hw:I6.wrap (((aw h).length:Int)-1)=((aw h).length:Int)-1:=cD (by omega);refine ay (ud8 (by show((aw h).length:Int)>0; omega)) (au ?_ (QK ?_ hf))
   ·show 0<=I6.wrap (((aw h).length:Int)-1)/\I6.wrap (((aw h).length:Int)-1)<((aw h).length:Int);omega
   ·show(List.getD (aw h) (I6.wrap (((aw h).length:Int)-1)).toNat ar.dflt).1=nm h;unfold nm;rw[if_neg h0,hw,show(((aw h).length:Int)-1).toNat=(aw h).length-1 by omega])
def GW:Ct:=⟨[.d ap],[i64],λx=>(nm x.1,()),λ_=>[]⟩
def IU (x:aq [.d ap]):Fr (ae [i64]):=
 let a:=((aw x.1).length:Int);Jb (a==0) (Jv (x.1.2.1,()))
  (Jd (0<=I6.wrap (a-1)/\I6.wrap (a-1)<a)
   (Jv ((List.getD (aw x.1) (I6.wrap (a-1)).toNat ar.dflt).1,())))
def qp3:aa prog 169 GW:=
 cg (aH eI f169 (fr:=IU)) _ _
  (λw F x vs hr _=>by
  obtain⟨h,_⟩:=x;obtain⟨v,vs',rfl,hv,_⟩:=hr;have hlen:((aw h).length:Int)<=9223372036854775807:=np (aD.wf hv.2.2).2.2.2.1.1;unfold nm;by_cases h0:(aw h).length=0
  ·rw[if_pos h0];exact ay (by show((((aw h).length:Nat):Int)==0)=true; rw[h0]; rfl) ⟨uT,rfl⟩
  ·have hw:I6.wrap (((aw h).length:Int)-1)=((aw h).length:Int)-1:=cD (by omega);rw[if_neg h0];refine ax (by show((((aw h).length:Nat):Int)==0)=false; exact ubu.2 (by omega)) (au ?_ ⟨uT,?_⟩)
   ·show 0<=I6.wrap (((aw h).length:Int)-1)/\I6.wrap (((aw h).length:Int)-1)<((aw h).length:Int);omega
   ·show((List.getD (aw h) (I6.wrap (((aw h).length:Int)-1)).toNat ar.dflt).1,())=_;rw[hw,show(((aw h).length:Int)-1).toNat=(aw h).length-1 by omega])
noncomputable def XD:Cx:=cx [(122,hP),(168,eN),(169,GW)] []
def XF:CxOK prog XD:=aJ aG ⟨KO,JS,qp3,uT⟩ trivial
def Ds (x:aq [.d ap,.d ar]):Fr (ae [ap,i64]):=
 let h:ap.den:=x.1; let c:ar.den:=x.2.1
 Jb (bif !(hP.f (c,())).1 then true else !(eN.f (h.2.2.1.1,c.2.1,())).1) (Jv (fh,1,()))
  (Jb (decide (c.1<(GW.f (h,())).1)) (Jv (fh,4,()))
   (Jb (decide (((aw h).length:Int)>=2000)) (Jv (fh,2,()))
    (Jd (pw ([]:List ar.den).length (aw h).length) (Jd (pw (([]:List ar.den)++aw h).length [c].length) (Jv (BM h c,0,()))))))
def qx0:aa prog 128 (aL [.d ap,.d ar] [ap,i64] Ds):=
 aH XF f128
def TL:aa prog 128 oM:=
 cg qx0 _ _ (λw F x vs hr hok=>by
  obtain⟨h,c,_⟩:=x;unfold mu;cases h1:(bif !(hP.f (c,())).1 then true else !(eN.f (h.2.2.1.1,c.2.1,())).1) with
  |true=>
   refine ay h1 ⟨uT,?_⟩;have h1':¬ (dF c=true/\cE h.2.2.1.1.1 h.2.2.1.1.2.1 c.2.1=true):=λhh=>by
    have h2:(bif !dF c then true else !cE h.2.2.1.1.1 h.2.2.1.1.2.1 c.2.1)=true:=h1;rw[BW.2 hh] at h2;cases h2
   rw[if_neg h1'];rfl
  |false=>
   refine ax h1 ?_;have h1':dF c=true/\cE h.2.2.1.1.1 h.2.2.1.1.2.1 c.2.1=true:=BW.1 h1;rw[if_pos h1'];by_cases h2:c.1<nm h
   ·rw[if_pos h2];exact ay (ud8 h2) ⟨uT,rfl⟩
   ·rw[if_neg h2];refine ax (udt h2) ?_;by_cases h3:2000<=(aw h).length
    ·rw[if_pos h3];exact ay (ud8 (by show((aw h).length:Int)>=2000; omega)) ⟨uT,rfl⟩
    ·rw[if_neg h3];have hr:=Uu (n:=(aw h).length) (by omega);have hr0:pw ([]:List ar.den).length (aw h).length:=⟨uen (by simp) hr.1,uen (ubc _ (by simp)) hr.2⟩;refine ax (udt (by show ¬ ((aw h).length:Int)>=2000; omega)) (au hr0 (au ?_ ⟨uT,rfl⟩));exact hr)
end Go.Proofs.YtgieagiaagoogaaGreat
namespace Go.Proofs.YtgieagiaagoogaaGreat
open Go Go.Ab Go.RowKit Go.Proofs Go.Shelf Tryz
open Go.Ab.Fr renaming val->Jv,need->Jd,br->Jb
attribute [local go_sem] Oper.semAt_some
def qnw (w:World) (m:Nat) (z:Array Value) (hz:z.size=9) (h1:m<=maxLen) (e:TypeId) :
  w.grownBy ((w.alloc (.cells (Builtin.zeroCells z m++Builtin.zeroCells z (grownCap w m 0 e-m)) e)).drew) none /\
   ((w.alloc (.cells (Builtin.zeroCells z m++Builtin.zeroCells z (grownCap w m 0 e-m)) e)).drew).ownsRow w.heap.size e 9 (.slice (some ⟨w.heap.size,0,none⟩) 0 (grownCap w m 0 e)) 0 []:=by
 have hge:=grownCap_ge w m 0 e;have hcm:grownCap w m 0 e<=maxLen:=ub5 w m 0 e h1;refine⟨⟨rfl,rfl,rfl,by simp,λb hb _=>pU w.drew _ b hb⟩,rfl,.inr ⟨w.heap.size,_,_,rfl,ufa _,ud5 w.drew _,ufg _,hcm,?_,?_⟩⟩
 ·simp only[ucn,size_zeroCells,hz,<- ufc];congr 1;omega
 ·rfl
set_option maxRecDepth 100000 in
def qnr:prog.types[38].bytes=88:=by decide
def zb6 (m:Nat) (h:0<m):Builtin.nextslicecap m 0=m:=by
 unfold Builtin.nextslicecap;rw[if_pos (by omega)]
set_option maxRecDepth 100000 in
set_option maxHeartbeats 2000000 in
def qnu (n:Nat) (m:Nat) (h1:m<=maxLen) (h2:m*88<=140737488355328) (w:World) :
  CallsIn Fence.wide n prog 106 #[.slice none 0 0,.int .i64 m] w λe w'=>
   ∃ v,e = .returned v/\w.grownBy w' none/\w'.ownsRow w.heap.size 38 9 v 0 []:=by
 have hb:t38.bytes=88:=qnr;refine callsIn_of_wp func106 rfl trivial ?_ rfl;simp only[ntmps106,uco,uc7,udj,Nat.reduceAdd,Nat.reduceSub,ubk,ubl,ucw,ubv,udk,uc2]
 gi_wp2
 all_goals first
  |(exfalso; simp only[hb] at *; omega)
  |(exfalso; rename_i hlt _ _ _ _ _ ; rw[zb6 _ (by omega),hb] at *; omega)
  |(go_ret; exact⟨_,rfl,ub6 _ _,ucq _ _ _ _⟩)
  |(go_ret; exact⟨_,rfl,qnw w m _ rfl h1 _⟩)
def qns:GrowOK prog 106 38 ar 88:=
 ⟨enters (fn:=f106) (by kernel_rfl) rfl rfl,λw n h1 h2=>(callsIn_wide.1 (qnu 1 n h1 h2 w))⟩
end Go.Proofs.YtgieagiaagoogaaGreat
namespace Go.Proofs.YtgieagiaagoogaaGreat
open Go Go.Ab Go.RowKit Go.Proofs Tryz
open Go.Ab.Fr renaming val->Jv,need->Jd,br->Jb
abbrev qG:Ty:=.sl (.sl ar)
noncomputable def WP:Cx:=ib [] [] (JI 106 38 ar 88)
def FH:CxOK prog WP:=iI (cs:=[]) (ps:=[]) aG trivial trivial (qnt qns)
abbrev pb:Pt:=⟨36,0,⟨[(0,.d qG),(9,.d qG),(10,.d i64),(11,.d i64),(3,.d i64)],[]⟩,⟨[(0,.d qG),(3,.d i64)],[]⟩,⟨[],[]⟩⟩
abbrev pd:Pt:=⟨36,2,⟨[(25,.d qG),(26,.d i64),(27,.d i64)],[.o 6 38 ar]⟩,⟨[],[.o 6 38 ar]⟩,⟨[],[]⟩⟩
def IG (x:pb.M.X):Fr pb.Out:=
 let l0:List (List ar.den):=x.1.1; let l:List (List ar.den):=x.1.2.1; let n:Int:=x.1.2.2.1; let i:Int:=x.1.2.2.2.1; let s:Int:=x.1.2.2.2.2.1
 Jb (decide (i<n))
  (Jd (0<=i/\i<(l.length:Int))
   (Jb (decide (I6.wrap (s+((List.length (α:=ar.den) (l.getD i.toNat []):Nat):Int))<0)) (Jd False (Jv (Rd.back ((),()))))
    (Jv (Rd.next ((l0,l,n,I6.wrap (i+1),I6.wrap (s+((List.length (α:=ar.den) (l.getD i.toNat []):Nat):Int)),()),())))))
  (Jv (Rd.out ((l0,s,()),())))
def zar:ah prog (aC f72 0) pb.M pb IG:=
 eH FH
def IH (x:pd.M.X):Fr pd.Out:=
 let l:List (List ar.den):=x.1.1; let n:Int:=x.1.2.1; let i:Int:=x.1.2.2.1; let o:List ar.den:=x.2.1
 Jb (decide (i<n))
  (Jd (0<=i/\i<(l.length:Int))
   (Jd (pw o.length (List.length (α:=ar.den) (l.getD i.toNat [])))
    (Jv (Rd.next ((l,n,I6.wrap (i+1),()),(o++l.getD i.toNat [],()))))))
  (Jv (Rd.out ((),(o,()))))
def zas:ah prog (aC f72 1) pd.M pd IH:=
 eH FH
structure InvCc1 (l:List (List ar.den)) (n i s:Int):Prop where
 i0:0<=i
 il:i<=n
 nl:n=l.length
 big:(l.length:Int)<=9223372036854775807
 few:l.flatten.length<=1000000
 s0:s=((l.take i.toNat).flatten.length:Nat)
def Nh (x:pb.M.X):Fr pb.Out:=Jd (x.1.1=x.1.2.1/\InvCc1 x.1.2.1 x.1.2.2.1 x.1.2.2.2.1 x.1.2.2.2.2.1) (Jv (Rd.out ((x.1.1,((List.flatten (α:=ar.den) x.1.2.1).length:Int),()),())))
def V9 (l:List (List ar.den)) {k:Nat} (hk:k<l.length):(l.take (k+1)).flatten=(l.take k).flatten++l.getD k []:=by
 rw[List.take_add_one,List.flatten_append,uap hk,uah,uap hk];simp
def VA (l:List (List ar.den)) (k:Nat):(l.take k).flatten.length<=l.flatten.length:=by
 conv=>rhs; rw[<- ua8 k l]
 rw[List.flatten_append,ub4];omega
def qqd (l0 l:List (List ar.den)) (n i s:Int) (hinv:l0=l/\InvCc1 l n i s) (Q:pb.Out->Prop) (hq:Q (Rd.out ((l0,(l.flatten.length:Int),()),()))):(IG ((l0,l,n,i,s,()),())).satP λ
   |.next x'=>(x'.1.1=x'.1.2.1/\InvCc1 x'.1.2.1 x'.1.2.2.1 x'.1.2.2.2.1 x'.1.2.2.2.2.1)/\(x'.1.2.2.1-x'.1.2.2.2.1).toNat<(n-i).toNat/\(Nh x').satP Q
   |.out y=>Q (.out y)
   |.back z=>Q (.back z)
   |.pan p=>Q (.pan p):=by
 obtain⟨rfl,h0,h1,h2,h3,h4,h5⟩:=hinv;obtain⟨k,rfl⟩:∃ k:Nat,i=k:=⟨i.toNat,by omega⟩;subst h2;dsimp only[IG,Fr.satP];rw[ucy] at h5 |-;refine⟨λhi=>?_,λhi=>?_⟩
 ·have hk:k<l0.length:=by have:(k:Int)<(l0.length:Int):=ucv hi; omega
  have hf:=V9 l0 hk;have hle:=VA l0 (k+1);have hlen:=ufv List.length hf;rw[ub4] at hlen;have w1:I6.wrap ((k:Int)+1)=((k+1:Nat):Int):=by rw[cD (by omega)]; omega
  have w2:I6.wrap (s+((l0.getD k []).length:Int))=(((l0.take (k+1)).flatten.length:Nat):Int):=by rw[cD (by omega)]; omega
  rw[w1,w2];refine⟨⟨by omega,by omega⟩,λhn=>?_,λ_=>?_⟩
  ·have:((((l0.take (k+1)).flatten.length:Nat):Int)<0):=ucv hn;omega
  ·have hI:InvCc1 l0 l0.length ((k+1:Nat):Int) (((l0.take (k+1)).flatten.length:Nat):Int):=⟨by omega,by omega,rfl,h3,h4,by rw[ucy]⟩;exact⟨⟨rfl,hI⟩,by omega,⟨rfl,hI⟩,hq⟩
 ·have hk:¬ (k:Int)<(l0.length:Int):=ucf hi;rw[ua1 (by omega)] at h5;rw[h5];exact hq
def qru:ah prog (.loop (aC f72 0)) pb.M pb Nh:=by
 refine ah.loop (n:=36) (id:=0) zar (inv:=λx=>x.1.1=x.1.2.1/\InvCc1 x.1.2.1 x.1.2.2.1 x.1.2.2.2.1 x.1.2.2.2.2.1) (μ:=λx=>(x.1.2.2.1-x.1.2.2.2.1).toNat) ?_ (λx Q h=>h.1);rintro⟨⟨l0,l,n,i,s,_⟩,_⟩ hinv Q hq;exact qqd l0 l n i s hinv Q hq.2
structure InvCc2 (l:List (List ar.den)) (n i:Int) (o:List ar.den):Prop where
 i0:0<=i
 il:i<=n
 nl:n=l.length
 big:(l.length:Int)<=9223372036854775807
 few:l.flatten.length<=1000000
 o0:o=(l.take i.toNat).flatten
def Ni (x:pd.M.X):Fr pd.Out:=Jd (InvCc2 x.1.1 x.1.2.1 x.1.2.2.1 x.2.1) (Jv (Rd.out ((),(List.flatten (α:=ar.den) x.1.1,()))))
def Ll {n m:Nat} (h:n+m<=1000000):pw n m:=by
 refine⟨by unfold maxLen; omega,uen (uec h OD) (by decide)⟩
def qqe (l:List (List ar.den)) (n i:Int) (o:List ar.den) (hinv:InvCc2 l n i o) (Q:pd.Out->Prop) (hq:Q (Rd.out ((),(l.flatten,())))):(IH ((l,n,i,()),(o,()))).satP λ
   |.next x'=>InvCc2 x'.1.1 x'.1.2.1 x'.1.2.2.1 x'.2.1/\(x'.1.2.1-x'.1.2.2.1).toNat<(n-i).toNat/\(Ni x').satP Q
   |.out y=>Q (.out y)
   |.back z=>Q (.back z)
   |.pan p=>Q (.pan p):=by
 obtain⟨h0,h1,h2,h3,h4,h5⟩:=hinv;obtain⟨k,rfl⟩:∃ k:Nat,i=k:=⟨i.toNat,by omega⟩;subst h2;dsimp only[IH,Fr.satP];rw[ucy] at h5 |-;subst h5;refine⟨λhi=>?_,λhi=>?_⟩
 ·have hk:k<l.length:=by have:(k:Int)<(l.length:Int):=ucv hi; omega
  have hf:=V9 l hk;have hle:=VA l (k+1);have hlen:=ufv List.length hf;rw[ub4] at hlen;have w1:I6.wrap ((k:Int)+1)=((k+1:Nat):Int):=by rw[cD (by omega)]; omega
  rw[w1,<- hf];have hI:InvCc2 l l.length ((k+1:Nat):Int) (l.take (k+1)).flatten:=⟨by omega,by omega,rfl,h3,h4,by rw[ucy]⟩;exact⟨⟨by omega,by omega⟩,Ll (by omega),hI,by omega,hI,hq⟩
 ·have hk:¬ (k:Int)<(l.length:Int):=ucf hi;rw[ua1 (by omega)];exact hq
def qrv:ah prog (.loop (aC f72 1)) pd.M pd Ni:=by
 refine ah.loop (n:=36) (id:=2) zas (inv:=λx=>InvCc2 x.1.1 x.1.2.1 x.1.2.2.1 x.2.1) (μ:=λx=>(x.1.2.1-x.1.2.2.1).toNat) ?_ (λx Q h=>h.1);rintro⟨⟨l,n,i,_⟩,o,_⟩ hinv Q hq;exact qqe l n i o hinv Q hq.2
def Ci:Ct:=⟨[.d qG],[.sl ar],λx=>(List.flatten (α:=ar.den) x.1,()),λx=>[(List.flatten (α:=ar.den) x.1).length<=1000000]⟩
def QD (x:aq [.d qG]):Fr (ae [.sl ar]):=
 let l:List (List ar.den):=x.1
 Jd (l=l/\InvCc1 l l.length 0 0)
  (Jd (0<=((l.flatten.length:Nat):Int)/\((l.flatten.length:Nat):Int)<=maxLen/\((l.flatten.length:Nat):Int)*(88:Nat)<=140737488355328)
   (Jd (InvCc2 l l.length 0 []) (Jv (l.flatten,()))))
def qdm:aa prog 72 (aL [.d qG] [.sl ar] QD):=
 zr FH qru qrv (fr:=QD) (ps:=[.d qG]) (rs:=[.sl ar])
def qdl:aa prog 72 Ci:=
 cg qdm _ _ (λw F x vs hr hok=>by
  obtain⟨l,_⟩:=x;obtain⟨v,vs',rfl,hv,_⟩:=hr;have hlen:(List.length (α:=List ar.den) l:Int)<=9223372036854775807:=np (aD.wf hv.2.2).1;have hf:(List.flatten (α:=ar.den) l).length<=1000000:=hok;refine au ⟨rfl,⟨ufb _,ub2 _,rfl,hlen,hf,rfl⟩⟩ (au ⟨by omega,?_,?_⟩ (au ⟨ufb _,ub2 _,rfl,hlen,hf,rfl⟩ ⟨uT,rfl⟩))
  ·show((List.flatten (α:=ar.den) l).length:Int)<=(maxLen:Int);unfold maxLen;omega
  ·show((List.flatten (α:=ar.den) l).length:Int)*((88:Nat):Int)<=140737488355328;omega)
open Go.Ab.Fr renaming val->Jv,need->Jd,br->Jb
noncomputable def Fi:Code:=(f71.body.map UL).getD .skip
noncomputable def VG:Code:=(f71.body.map RJ).getD .skip
noncomputable def VH:Code:=(findLabel Fi 0).getD .skip
noncomputable def FW:Cx:=cx [(105,Hc)] []
def B6:CxOK prog FW:=aJ aG ⟨Tf,uT⟩ trivial
def pO:LS:=⟨[],[.x 1 54 ap,.r 1 1 0]⟩
def BD:LS:=⟨[(4,.d (.sl i64)),(5,.d i64)],[.x 1 54 ap,.r 1 1 0]⟩
def Ev:Pt:=⟨34,0,BD,⟨[],[]⟩,⟨[(2,.d i64),(3,.d .bool)],[]⟩⟩
def Au:Pt:=⟨34,0,pO,⟨[],[]⟩,⟨[(2,.d i64),(3,.d .bool)],[]⟩⟩
def CX (x:BD.X):Fr Ev.Out:=
 let l:List Int:=x.1.1; let k:Int:=x.1.2.1; let h:ap.den:=x.2.1
 let v:Int:=l.getD (I6.wrap (k-1)).toNat 0
 Jb (k==0) (Jv (Rd.back ((0,false,()),())))
  (Jd (0<=I6.wrap (k-1)/\I6.wrap (k-1)<(l.length:Int))
   (Jd (0<=v/\v<((aw h).length:Int))
    (Jb (bif ((aw h).getD v.toNat ar.dflt).2.2.1 != 3 then ((aw h).getD v.toNat ar.dflt).2.2.1 != 4 else false)
     (Jv (Rd.next ((l,I6.wrap (k-1),()),(h,()))))
     (Jd (0<=I6.wrap (k-1)/\I6.wrap (k-1)<(l.length:Int)) (Jv (Rd.back ((v,true,()),())))))))
def qhe (x:pO.X):Fr Ev.Out:=
 let h:ap.den:=x.2.1
 Jd (((aw h).length:Int)<=1000000) (CX ((bQ h,((bQ h).length:Int),()),(h,())))
def za7:g7 prog 0 Fi pO Ev qhe:=g7.of_run B6 (bs:=0) rfl rfl rfl (λ_=>bL _ 0) (λx=>by kernel_rfl)
def za6:g7 prog 0 VH BD Ev CX:=g7.of_run B6 (bs:=0) rfl rfl rfl (λ_=>bL _ 0) (λx=>by kernel_rfl)
def lP (c:ar.den):Bool:=c.2.2.1==3 || c.2.2.1==4
def gw (h:ap.den) (l:List Int):Nat->Option Int
 |0=>none
 |k+1=>if lP (aQ h (l.getD k 0))=true then some (l.getD k 0) else gw h l k
structure InvTn (l:List Int) (k:Int) (h:ap.den):Prop where
 k0:0<=k
 kl:k<=l.length
 big:l.length<=1000000
 mem:∀ v∈l,0<=v/\v<((aw h).length:Int)
def Eg (o:Option Int):Rd pO.X (LS.X ⟨[],[]⟩) (LS.X ⟨[(2,.d i64),(3,.d .bool)],[]⟩):=Rd.back ((o.getD 0,o.isSome,()),())
def Nw (x:BD.X):Fr Au.Out:=Jd (InvTn x.1.1 x.1.2.1 x.2.1) (Jv (Eg (gw x.2.1 x.1.1 (x.1.2.1:Int).toNat)))
def Nx (x:pO.X):Fr Au.Out:=Jd (((aw x.2.1).length:Int)<=1000000) (Jv (Eg (gw x.2.1 (bQ x.2.1) (bQ x.2.1).length)))
def qpp (c:ar.den):(bif c.2.2.1 != 3 then c.2.2.1 != 4 else false) = !lP c:=by
 unfold lP;show(bif !(c.2.2.1==3) then !(c.2.2.1==4) else false) = !(c.2.2.1==3 || c.2.2.1==4);cases c.2.2.1==3<;>cases c.2.2.1==4<;>rfl
def Sy (l:List Int) (k:Int) (h:ap.den) (hinv:InvTn l k h) (Q:Au.Out->Prop) (hq:Q (Eg (gw h l k.toNat))):(CX ((l,k,()),(h,()))).satP λ
   |.next x'=>InvTn x'.1.1 x'.1.2.1 x'.2.1/\(x'.1.2.1:Int).toNat<k.toNat/\(Nw x').satP Q
   |.out y=>Q (.out y)
   |.back z=>Q (.back z)
   |.pan p=>Q (.pan p):=by
 obtain⟨h0,h1,h2,h3⟩:=hinv;obtain⟨n,rfl⟩:∃ n:Nat,k=n:=⟨k.toNat,by omega⟩;rw[ucy] at hq |-;cases n with
 |zero=>exact⟨λ_=>hq,λhb=>(by cases hb)⟩
 |succ m=>
  have w1:I6.wrap (((m+1:Nat):Int)-1)=(m:Int):=by rw[cD (by omega)]; omega
  have hm:m<l.length:=by omega
  dsimp only[CX,Fr.satP];rw[w1,ucy];have hv:l.getD m 0=l[m]:=by rw[uah,uap hm]; rfl
  have hmem:=h3 (l.getD m 0) (by rw[hv]; exact udg hm);have hb:0<=(m:Int)/\(m:Int)<(l.length:Int):=⟨by omega,by omega⟩;have hkd:=qpp (aQ h (l.getD m 0));refine⟨λhz=>?_,λ_=>⟨hb,hmem,λhk=>?_,λhk=>⟨hb,?_⟩⟩⟩
  ·exfalso;have:((m+1:Nat):Int)=0:=eq_of_beq hz;omega
  ·have ht:lP (aQ h (l.getD m 0))=false:=by
    have hk':(bif (aQ h (l.getD m 0)).2.2.1 != 3 then (aQ h (l.getD m 0)).2.2.1 != 4 else false)=true:=hk;rw[hkd] at hk';simpa using hk'
   have hI:InvTn l (m:Int) h:=⟨by omega,by omega,h2,h3⟩;refine⟨hI,Nat.lt_succ_self m,hI,?_⟩;show Q (Eg (gw h l (m:Int).toNat));rw[ucy];have e:gw h l (m+1)=gw h l m:=if_neg (by rw[ht]; decide);rw[<- e];exact hq
  ·have ht:lP (aQ h (l.getD m 0))=true:=by
    have hk':(bif (aQ h (l.getD m 0)).2.2.1 != 3 then (aQ h (l.getD m 0)).2.2.1 != 4 else false)=false:=hk;rw[hkd] at hk';simpa using hk'
   have e:gw h l (m+1)=some (l.getD m 0):=if_pos ht;rw[e] at hq;exact hq
def zae:ah prog (.scope Fi) pO Au Nx:=
 zfp (n:=34) (id:=0) (N:=pO) (rest:=VH) (by kernel_rfl) za7 za6 (F:=Nw) (inv:=λx=>InvTn x.1.1 x.1.2.1 x.2.1) (μ:=λx=>(x.1.2.1:Int).toNat)
  (by
   rintro⟨_,h,_⟩ Q hq;have hlen:(bQ h).length=(aw h).length:=Al h;have h1:((aw h).length:Int)<=1000000:=hq.1;have hI:InvTn (bQ h) ((bQ h).length:Int) h:=⟨ub2 _,ufb _,by omega,λv hv=>tc hv⟩;refine⟨h1,Fr.satP_mono ?_ (Sy (bQ h) ((bQ h).length:Int) h hI Q ?_)⟩
   ·intro r hr;cases r with
    |next x'=>exact⟨hr.1,hr.2.2⟩
    |out y=>exact hr
    |back z=>exact hr
    |pan p=>exact hr
   ·rw[ucy];exact hq.2)
  (by
   rintro⟨⟨l,k,_⟩,h,_⟩ hinv Q hq;exact Sy l k h hinv Q hq.2)
def iX (h:ap.den):Option Int:=gw h (bQ h) (bQ h).length
def sr:Ct:=⟨[.d ap],[i64,.bool],λx=>((iX x.1).getD 0,(iX x.1).isSome,()),λx=>[((aw x.1).length:Int)<=1000000]⟩
def zed:aa prog 71 sr:=
 cg (Rl (run:=ug (cU prog FW 0 dM VG 0) (Au.han FW.Γ pO Nx)) (fn:=f71) (c:=.seq VG (.scope Fi)) (ps:=[.d ap]) (rs:=[i64,.bool])
  (fr:=λx=>Jd (((aw x.1).length:Int)<=1000000) (Jv ((iX x.1).getD 0,(iX x.1).isSome,()))) (ap.dflt,()) (by kernel_rfl) (by kernel_rfl)
  (λE=>Bk (vD B6 (bL _ 0)) (ah.run B6 rfl zae)) (λx=>by kernel_rfl)) _ _ (λ_ _ _ _ _ hok=>au hok ⟨uT,rfl⟩)
end Go.Proofs.YtgieagiaagoogaaGreat
